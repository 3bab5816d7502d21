/- Functions of the program as plain Lean functions, each with a proof that its call comes to just these answers, and the row that joins them to the given statement; no condition beside the statement's own. Written for this claim by this session's programs (pf.py, pack.py) over the kit's print. -/
import Derived.Test.YtbnifpfnjhdenaaZRiffleCounts0
import Derived.Test.YtbnifpfnjhdenaaZRiffleCounts1
import Derived.Test.YtbnifpfnjhdenaaZRiffleCounts2
import Derived.Test.YtbnifpfnjhdenaaZRiffleCounts3
import Derived.Test.YtbnifpfnjhdenaaZRiffleCounts4
import Derived.Test.YtbnifpfnjhdenaaZRiffleCounts5
section
namespace Go.Proofs.Ytbnifpfnjhdenaa.Q
open Go.RowKit Go.Proofs.YtbnifpfnjhdenaaW.PrintWords Go.Proofs.YtbnifpfnjhdenaaW.PrintLast Go.Proofs.YtbnifpfnjhdenaaW.PrintMore
open Go.Proofs.YtbnifpfnjhdenaaW.PrintLast renaming i64_w → jD, i32_w → jE
open Go.Proofs.YtbnifpfnjhdenaaW.PrintWords renaming below_size → ja, below_step → ji, blk_drew → jl, blk_alloc → jm, blk_drewN → jp, blk_below → jr, blk_put → jt, below_drew1 → jG, below_set → jJ
open Go.Proofs.YtbnifpfnjhdenaaW.PrintWords.Kd renaming int → jb, R_below → jc, R_mono → jd, R_far → je, R_base → jf, R_elder' → jg, R_reads' → jh, R_lt → jj, R_new' → jk, R_lower → jn, R_slice → jo, R_drew → jq, R_types → js, R → ju, C_below → jv, R_after → jw, R_over' → jx, slice → jy, R_typed → jz, S_below → jA, S_mono → jB, S_far → jC, fresh' → jF, S_elder' → jH, at_int → jI, S_reads' → jK
attribute [local go_sem] max2_int min2_int max_two min_two max_three min_three max_four min_four
set_option linter.unusedVariables false
set_option linter.unusedSimpArgs false
def perm_Draws.l0:Nat→List Int→List Int→List Int→List Int→Int→Option (List Int×Int)
 | 0,_,_,_,_,_=>none
 | k+1,x0,x5,x6,x7,x8=>if x8 ≥ 1 then(if 0≤x8 then(if x8<(x0.length:Int) then(if 0≤(rd x0 x8) then(if(rd x0 x8)<(x6.length:Int) then(if x7.length<17592186044416 then(if 0≤(rd x6 (rd x0 x8)) then(if(rd x6 (rd x0 x8))<(x5.length:Int) then(if x8<(x5.length:Int) then((some ((x5.set (x8:Int).toNat (rd x5 (rd x6 (rd x0 x8)))).set ((rd x6 (rd x0 x8)):Int).toNat (rd x5 x8):List Int)).bind fun y374=>(if 0≤(rd y374 x8) then(if(rd y374 x8)<(x6.length:Int) then(if 0≤(rd y374 (rd x6 (rd x0 x8))) then(if(rd y374 (rd x6 (rd x0 x8)))<(x6.length:Int) then(perm_Draws.l0 k x0 y374 ((x6.set ((rd y374 x8):Int).toNat x8).set ((rd y374 (rd x6 (rd x0 x8))):Int).toNat (rd x6 (rd x0 x8))) (x7 ++ [rd x6 (rd x0 x8)]) (wrap64 (x8-1))) else(none)) else(none)) else(none)) else(none))) else(none)) else(none)) else(none)) else(none)) else(none)) else(none)) else(none)) else(none)) else(some (x7,0))
def perm_Draws.f (k:Nat) (l0:List Int):Option (List Int×Int):=(perm_fits.f k l0).bind fun t359=>(if t359=true then((perm_Identity.f k (l0.length:Int)).bind fun t360=>((perm_Identity.f k (l0.length:Int)).bind fun t363=>(perm_Draws.l0 k l0 t360 t363 ([]:List Int) (wrap64 ((l0.length:Int)-1))))) else(some (([]:List Int),110)))
theorem perm_Draws.mono_l:∀ k,(∀ y0 y1 y2 y3 y4,LeO (perm_Draws.l0 k y0 y1 y2 y3 y4) (perm_Draws.l0 (k+1) y0 y1 y2 y3 y4))
 | 0=>fun _ _ _ _ _ r h=>by simp[perm_Draws.l0] at h
 | k+1=>by
  have ih0:=perm_Draws.mono_l k
  intro y0 y1 y2 y3 y4
  unfold perm_Draws.l0
  with_reducible repeat' first|exact ih0 _ _ _ _ _|exact perm_Identity.mono _ _|exact perm_fits.mono _ _|exact LeO.refl _|exact LeO.none _|refine LeO.ite ?_ ?_|refine LeO.bind ?_ (fun _=>?_)
theorem perm_Draws.mono:∀ a0 k,LeO (perm_Draws.f k a0) (perm_Draws.f (k+1) a0):=by
 intro a0 k
 have ih0:=perm_Draws.mono_l k
 unfold perm_Draws.f
 with_reducible repeat' first|exact ih0 _ _ _ _ _|exact perm_Identity.mono _ _|exact perm_fits.mono _ _|exact LeO.refl _|exact LeO.none _|refine LeO.ite ?_ ?_|refine LeO.bind ?_ (fun _=>?_)
def perm_Draws.T11:Bool×List (List Nat×List Nat):=(true,[([],[]),([],[]),([],[]),([],[]),([],[]),([],[]),([4,5],[4,5]),([6],[6]),([],[]),([],[]),([8,9],[8,9]),([10],[10]),([0,1,0,1,4,5,6,7,11],[0,1]),([12,7,0,1,4,5,6,7,11],[7,12]),([2,3,0,1,2,3,4,5,6,7,8,9,10,11,12,13],[2,3]),([14,11,13,0,1,2,3,4,5,6,7,8,9,10,11,12,13],[11,14])])
def perm_Draws.B11:List Nat:=[0,0,0,0,0,0,48,112,0,0,768,1792,4083,8179,16383,32767]
theorem perm_Draws.tab11:rtab .any (opsOf Try.f37 11)=perm_Draws.T11:=by kernel_rfl
theorem perm_Draws.bits11:waitsOk perm_Draws.T11.2 perm_Draws.B11=true:=by kernel_rfl
def perm_Draws.T12:Bool×List (List Nat×List Nat):=(true,[([],[]),([],[]),([],[]),([1,2],[1,2]),([3],[3]),([],[]),([],[]),([],[]),([6,7],[6,7]),([8],[8]),([],[]),([],[]),([0,4,0,1,2,3,4,9,10],[0,4]),([12,10,0,1,2,3,4,9,10],[10,12]),([5,9,0,1,2,3,4,5,6,7,8,9,10,11,12,13],[5,9]),([14,11,13,0,1,2,3,4,5,6,7,8,9,10,11,12,13],[11,14])])
def perm_Draws.B12:List Nat:=[0,0,0,6,14,0,0,0,192,448,0,0,2015,6111,16383,32767]
theorem perm_Draws.tab12:rtab .any (opsOf Try.f37 12)=perm_Draws.T12:=by kernel_rfl
theorem perm_Draws.bits12:waitsOk perm_Draws.T12.2 perm_Draws.B12=true:=by kernel_rfl
set_option maxHeartbeats 8000000 in
set_option maxRecDepth 100000 in
theorem perm_Draws.calls (k:Nat) (A0:Option Addr) (c0:Nat) (l0:List Int) (r1:List Int) (r2:Int) (w:World) (hr0:Kd.C (jb .i64) w A0 l0.length l0) (hc0:l0.length≤c0) (h:perm_Draws.f k l0=some (r1,r2)) :
  Calls Try.prog 37 #[.slice A0 l0.length c0] w fun e w'=>∃ v0_:Value,e = .returned (.tuple #[v0_,.int .i64 r2])∧ju (jb .i64) 3 w' w.heap.size (fun _=>True) v0_ r1∧Below w.heap.size w w':=by
 have HR0:=am_ hr0
 have HC0:=am_ hc0
 clear hr0 hc0
 have HB:=am_ (Below.refl w.heap.size w)
 have H:((perm_fits.f k l0).bind fun t359=>(if t359=true then((perm_Identity.f k (l0.length:Int)).bind fun t360=>((perm_Identity.f k (l0.length:Int)).bind fun t363=>(perm_Draws.l0 k l0 t360 t363 ([]:List Int) (wrap64 ((l0.length:Int)-1))))) else(some (([]:List Int),110))))=some (r1,r2):=h
 clear h
 replace H:=Option.bind_eq_some_iff.mp H
 obtain⟨t359,A20,H⟩:=H
 try dsimp only at H
 have A2:=am_ A20
 clear A20
 by_cases c3:t359=true
 rotate_left
 ·replace c3:=Bool.eq_false_iff.mpr c3
  subst c3
  have H1:(some (([]:List Int),110))=some (r1,r2):=by rw[if_neg (show ¬ (false=true) by decide)] at H;exact H
  clear H
  have H:=H1
  clear H1
  obtain⟨rfl,rfl⟩:=sj2_ H
  go_enter Try.func37,Try.ntmps37
  go_wp2_with(first|(refine gc_ 39 ?_;refine gl_ (some 11) Try.func39 #[.slice A0 l0.length c0] ?_;(with_reducible refine(perm_fits.calls k _ _ l0 false _ ?side1 ?side2 A2.out).mono ?_);(case side1=>exact cu_ HR0.out);(case side2=>exact HC0.out);rintro e w36 ⟨rfl,hb⟩;refine⟨_,rfl,?_⟩;have n0_:=am_ (ji T16_ hb);clear HB;have HB:=n0_;clear n0_;clear hb))
  go_ret2
  exact⟨_,T14_,T18_,T16_⟩
 subst c3
 have H1:((perm_Identity.f k (l0.length:Int)).bind fun t360=>((perm_Identity.f k (l0.length:Int)).bind fun t363=>(perm_Draws.l0 k l0 t360 t363 ([]:List Int) (wrap64 ((l0.length:Int)-1)))))=some (r1,r2):=by rw[if_pos rfl] at H;exact H
 clear H
 have H:=H1
 clear H1
 replace H:=Option.bind_eq_some_iff.mp H
 obtain⟨t360,A40,H⟩:=H
 try dsimp only at H
 have A4:=am_ A40
 clear A40
 replace H:=Option.bind_eq_some_iff.mp H
 obtain⟨t363,A50,H⟩:=H
 try dsimp only at H
 have A5:=am_ A50
 clear A50
 have H':=am_ H
 clear H
 go_enter Try.func37,Try.ntmps37
 go_wp2_with(first|(refine gc_ 39 ?_;refine gl_ (some 11) Try.func39 #[.slice A0 l0.length c0] ?_;(with_reducible refine(perm_fits.calls k _ _ l0 true _ ?side1 ?side2 A2.out).mono ?_);(case side1=>exact cu_ HR0.out);(case side2=>exact HC0.out);rintro e w6 ⟨rfl,hb⟩;refine⟨_,rfl,?_⟩;have n0_:=am_ (ji T16_ hb);clear HB;have HB:=n0_;clear n0_;clear hb)|(refine gc_ 60 ?_;refine gl_ (some 16) Try.func60 #[.int .i64 (l0.length:Int)] ?_;(with_reducible refine(perm_Identity.calls k (l0.length:Int) t360 _ A4.out).mono ?_);rintro e w7 ⟨v361,rfl,ho0,hb⟩;refine⟨_,rfl,?_⟩;have n_:=P2_ (jn ho0 (ja T16_)) (ji T16_ hb);clear HB;obtain⟨HO362,HB⟩:=n_;clear hb ho0)|(refine gc_ 60 ?_;refine gl_ (some 18) Try.func60 #[.int .i64 (l0.length:Int)] ?_;(with_reducible refine(perm_Identity.calls k (l0.length:Int) t363 _ A5.out).mono ?_);rintro e w8 ⟨v364,rfl,ho0,hb⟩;refine⟨_,rfl,?_⟩;have n_:=P3_ (jg (ru_ HO362.out) (jf ho0) hb) (jn (jk ho0 (jj (ru_ HO362.out))) (ja T16_)) (ji T16_ hb);clear HO362 HB;obtain⟨HO362,HO365,HB⟩:=n_;clear hb ho0))
 go_loopg [7,8] k (fun kq v7 v8 w'=>∃ (x5_1:List Int) (x6_1:List Int) (x7_1:List Int) (x8_1:Int),v8 = .int .i64 x8_1∧Aside0 (perm_Draws.l0 kq l0 x5_1 x6_1 x7_1 x8_1=some (r1,r2))∧Aside0 (kq≤k)∧Aside0 (ju (jb .i64) 3 w' w.heap.size (fun k_=>ne_ k_ v364∧ne_ k_ v7) v361 x5_1)∧Aside0 (ju (jb .i64) 3 w' w.heap.size (fun k_=>ne_ k_ v361∧ne_ k_ v7) v364 x6_1)∧Aside0 (ju (jb .i64) 3 w' w.heap.size (fun k_=>ne_ k_ v361∧ne_ k_ v364) v7 x7_1)∧Aside0 (Below w.heap.size w w'))
 case atStart=>exact⟨(t360),(t363),(([]:List Int)),(wrap64 ((l0.length:Int)-1)),T9_,H',⟨Nat.le_refl _⟩,⟨ru_ (jd HO362.out (fun _ hk=>⟨hk.2,T6_⟩))⟩,⟨ru_ (jd HO365.out (fun _ hk=>⟨hk.2,T6_⟩))⟩,⟨T18_⟩,⟨T16_⟩⟩
 clear H'
 (try clear c3)
 obtain⟨x5_1,x6_1,x7_1,x8_1,rfl,HA,HK1,HO_5,HO_6,HO_7,HB⟩:=hrel
 cases gk with
 | zero=>exact absurd HA.out (by simp[perm_Draws.l0])
 | succ k1 =>
  have H:=HA.out
  clear HA
  simp only[perm_Draws.l0] at H
  by_cases c9:x8_1 ≥ 1
  rotate_left
  ·rw[if_neg c9] at H
   have c9b0:=decide_eq_false c9
   clear c9
   obtain⟨rfl,rfl⟩:=sj2_ H
   go_wp2
   go_ret2
   exact⟨_,T14_,ru_ (jd HO_7.out (fun _ hk=>trivial)),T16_⟩
  rw[if_pos c9] at H
  have c9b0:=decide_eq_true c9
  clear c9
  replace H:=ifn_ H;obtain⟨c10,H⟩:=H
  have c10b0:=decide_eq_true c10
  clear c10
  replace H:=ifn_ H;obtain⟨c11,H⟩:=H
  have c11b0:=decide_eq_true c11
  clear c11
  replace H:=ifn_ H;obtain⟨c12,H⟩:=H
  have c12b0:=decide_eq_true c12
  clear c12
  replace H:=ifn_ H;obtain⟨c13,H⟩:=H
  have c13b0:=decide_eq_true c13
  clear c13
  replace H:=ifa_ H;obtain⟨LMc14,H⟩:=H
  obtain⟨y368,hy_⟩:∃ y_:List Int,y_=(x7_1 ++ [rd x6_1 (rd l0 x8_1)]):=⟨_,rfl⟩
  replace H:(if 0≤(rd x6_1 (rd l0 x8_1)) then(if(rd x6_1 (rd l0 x8_1))<(x5_1.length:Int) then(if x8_1<(x5_1.length:Int) then((some ((x5_1.set (x8_1:Int).toNat (rd x5_1 (rd x6_1 (rd l0 x8_1)))).set ((rd x6_1 (rd l0 x8_1)):Int).toNat (rd x5_1 x8_1):List Int)).bind fun y374=>(if 0≤(rd y374 x8_1) then(if(rd y374 x8_1)<(x6_1.length:Int) then(if 0≤(rd y374 (rd x6_1 (rd l0 x8_1))) then(if(rd y374 (rd x6_1 (rd l0 x8_1)))<(x6_1.length:Int) then(perm_Draws.l0 k1 l0 y374 ((x6_1.set ((rd y374 x8_1):Int).toNat x8_1).set ((rd y374 (rd x6_1 (rd l0 x8_1))):Int).toNat (rd x6_1 (rd l0 x8_1))) y368 (wrap64 (x8_1-1))) else(none)) else(none)) else(none)) else(none))) else(none)) else(none)) else(none))=some (r1,r2):=hyw_
  have Ny368:=am_ hy_
  clear hy_
  replace H:=ifn_ H;obtain⟨c15,H⟩:=H
  have c15b0:=decide_eq_true c15
  clear c15
  replace H:=ifn_ H;obtain⟨c16,H⟩:=H
  have c16b0:=decide_eq_true c16
  clear c16
  replace H:=ifn_ H;obtain⟨c17,H⟩:=H
  have c17b0:=decide_eq_true c17
  clear c17
  obtain⟨y373,hy_⟩:∃ y_:List Int,y_=(x5_1.set (x8_1:Int).toNat (rd x5_1 (rd x6_1 (rd l0 x8_1)))):=⟨_,rfl⟩
  replace H:((some (y373.set ((rd x6_1 (rd l0 x8_1)):Int).toNat (rd x5_1 x8_1):List Int)).bind fun y374=>(if 0≤(rd y374 x8_1) then(if(rd y374 x8_1)<(x6_1.length:Int) then(if 0≤(rd y374 (rd x6_1 (rd l0 x8_1))) then(if(rd y374 (rd x6_1 (rd l0 x8_1)))<(x6_1.length:Int) then(perm_Draws.l0 k1 l0 y374 ((x6_1.set ((rd y374 x8_1):Int).toNat x8_1).set ((rd y374 (rd x6_1 (rd l0 x8_1))):Int).toNat (rd x6_1 (rd l0 x8_1))) y368 (wrap64 (x8_1-1))) else(none)) else(none)) else(none)) else(none)))=some (r1,r2):=hyw_
  have Ny373:=am_ hy_
  clear hy_
  obtain⟨y374,hy_⟩:∃ y_:List Int,y_=(y373.set ((rd x6_1 (rd l0 x8_1)):Int).toNat (rd x5_1 x8_1)):=⟨_,rfl⟩
  replace H:(if 0≤(rd y374 x8_1) then(if(rd y374 x8_1)<(x6_1.length:Int) then(if 0≤(rd y374 (rd x6_1 (rd l0 x8_1))) then(if(rd y374 (rd x6_1 (rd l0 x8_1)))<(x6_1.length:Int) then(perm_Draws.l0 k1 l0 y374 ((x6_1.set ((rd y374 x8_1):Int).toNat x8_1).set ((rd y374 (rd x6_1 (rd l0 x8_1))):Int).toNat (rd x6_1 (rd l0 x8_1))) y368 (wrap64 (x8_1-1))) else(none)) else(none)) else(none)) else(none))=some (r1,r2):=hyw_
  have Ny374:=am_ hy_
  clear hy_
  replace H:=ifn_ H;obtain⟨c20,H⟩:=H
  have c20b0:=decide_eq_true c20
  clear c20
  replace H:=ifn_ H;obtain⟨c21,H⟩:=H
  have c21b0:=decide_eq_true c21
  clear c21
  obtain⟨y377,hy_⟩:∃ y_:List Int,y_=(x6_1.set ((rd y374 x8_1):Int).toNat x8_1):=⟨_,rfl⟩
  replace H:(if 0≤(rd y374 (rd x6_1 (rd l0 x8_1))) then(if(rd y374 (rd x6_1 (rd l0 x8_1)))<(x6_1.length:Int) then(perm_Draws.l0 k1 l0 y374 (y377.set ((rd y374 (rd x6_1 (rd l0 x8_1))):Int).toNat (rd x6_1 (rd l0 x8_1))) y368 (wrap64 (x8_1-1))) else(none)) else(none))=some (r1,r2):=hyw_
  have Ny377:=am_ hy_
  clear hy_
  replace H:=ifn_ H;obtain⟨c23,H⟩:=H
  have c23b0:=decide_eq_true c23
  clear c23
  replace H:=ifn_ H;obtain⟨c24,H⟩:=H
  have c24b0:=decide_eq_true c24
  clear c24
  obtain⟨y378,hy_⟩:∃ y_:List Int,y_=(y377.set ((rd y374 (rd x6_1 (rd l0 x8_1))):Int).toNat (rd x6_1 (rd l0 x8_1))):=⟨_,rfl⟩
  replace H:(perm_Draws.l0 k1 l0 y374 y378 y368 (wrap64 (x8_1-1)))=some (r1,r2):=hyw_
  have Ny378:=am_ hy_
  clear hy_
  have H':=am_ H
  clear H
  have p366:0≤(x8_1:Int):=od_
  have q366:x8_1<(l0.length:Int):=od_
  obtain⟨ad366,e366,hx366_0⟩:=jI HR0.out x8_1 p366 q366
  cases e366
  (try(replace hx366_0:=(HB.out.cell (World.block_lt_of_cell? w _ hx366_0)).trans hx366_0))
  replace p366:=eq_true p366
  replace q366:=eq_true q366
  obtain⟨Ao26,co26,eo26⟩:=jo HO_6.out
  subst eo26
  obtain⟨ad367,e367,hx367_0,p367,q367⟩:=ai_ (jh HO_6.out).2.2 (rd l0 x8_1)
  cases e367
  try go_wp2_with(first|(refine gb_ .append #[.tmp 32,.tmp 34] ?_;at_builtin;refine Kd.R_append (jb .i64) (w0:=w) w.heap.size rfl (.tmp 32) (.tmp 34) 24 3 (.int .i64 0) 8 rfl Try.underlying24 info3 rfl T3_ T2_ u7 x7_1 (rd x6_1 (rd l0 x8_1)) [.int .i64 (rd x6_1 (rd l0 x8_1))] (fun k_=>ne_ k_ v361∧ne_ k_ (.slice (some ad367) x6_1.length co26)) (fun _=>False) rfl rfl ?aP (fun _ hk=>hk.elim) ?aF ?aO ?aB ?aS ?aL ?_;(case aP=>exact rfl);(case aB=>exact T16_);(case aF=>exact(fun k_ hk=>⟨jF (jj (ru_ HO_5.out)) k_ hk,jF (jj (ru_ HO_6.out)) k_ hk⟩));(case aO=>exact(ru_ HO_7.out));(case aS=>exact(ja T16_));(case aL=>have:=LMc14.out;omega);intro v369 w27 ho hb hg hat;rw[←Ny368.out] at ho;have n_:=P4_ (jw (ok:=(fun k_=>ne_ k_ (.slice (some ad367) x6_1.length co26))) (ru_ HO_5.out) hg hat) (jw (ok:=(fun k_=>ne_ k_ v361)) (ru_ HO_6.out) hg hat) (hb) (ho);clear HO_5 HO_6 HB HO_7;obtain⟨HO_5,HO_6,HB,HO370⟩:=n_;clear ho hb hg hat))
  have n_:=P4_ (jq HO_5.out) (jq HO_6.out) (jq HO370.out) (jG HB.out)
  clear HO_5 HO_6 HO370 HB
  obtain⟨HO_5,HO_6,HO370,HB⟩:=n_
  obtain⟨Ao29,co29,eo29⟩:=jo HO_5.out
  (first|subst eo29|(injection eo29 with f1_ f2_ f3_;have f4_:=f1_.symm;have f5_:=f3_.symm;clear f1_ f2_ f3_;subst f4_;subst f5_))
  obtain⟨ad371,e371,hx371_0,p371,q371⟩:=ai_ (jh HO_5.out).2.2 (rd x6_1 (rd l0 x8_1))
  cases e371
  have p372:0≤(x8_1:Int):=od_
  have q372:x8_1<(x5_1.length:Int):=od_
  obtain⟨ad372,e372,hx372_0⟩:=jI (jh HO_5.out).2.2 x8_1 p372 q372
  obtain rfl:ad371=ad372:=(by injection e372)
  replace p372:=eq_true p372
  replace q372:=eq_true q372
  have p18:0≤(x8_1:Int):=od_
  have q18:(x8_1:Int)<((x5_1.length:Int):Int):=od_
  obtain⟨go18,co18,eo18,gb18,gl18,cl18,HG18⟩:=Kd.R_form HO_5.out T2_
  (first|cases eo18|(injection eo18 with ea_ en_ ec_;(first|subst ea_|(injection ea_ with ea_;subst ea_));subst ec_;clear en_))
  have GB18:=am_ gb18
  have GG18:=am_ HG18
  clear gb18 gl18 HG18
  (first|simp only[add_plain] at hx371_0|skip)
  (first|simp only[add_plain] at hx372_0|skip)
  obtain⟨hx18_0,hf18_0⟩:=Kd.R_celln 0 HO_5.out (x8_1:Int) p18 q18
  replace p18:=eq_true p18
  replace q18:=eq_true q18
  have HP30:=Kd.R_putn HO_5.out (x8_1:Int) (rd x5_1 (rd x6_1 (rd l0 x8_1)))
  rw[←Ny373.out] at HP30
  have HQ30:=am_ HP30
  clear HP30
  have p19:0≤((rd x6_1 (rd l0 x8_1)):Int):=od_
  have q19:((rd x6_1 (rd l0 x8_1)):Int)<((x5_1.length:Int):Int):=od_
  obtain⟨hx19_0,hf19_0⟩:=Kd.R_celln 0 HQ30.out ((rd x6_1 (rd l0 x8_1)):Int) p19 q19
  replace p19:=eq_true p19
  replace q19:=eq_true q19
  have HP31:=Kd.R_putn HQ30.out ((rd x6_1 (rd l0 x8_1)):Int) (rd x5_1 x8_1)
  rw[←Ny374.out] at HP31
  have HQ31:=am_ HP31
  clear HP31
  refine start_ (n:=16) (S:=fun w'=>w'.cell? ⟨go18,((rd x6_1 (rd l0 x8_1))).toNat,none⟩=some (.int .i64 (rd x5_1 (rd x6_1 (rd l0 x8_1))))∧w'.cell? ⟨go18,(x8_1).toNat,none⟩=some (.int .i64 (rd x5_1 x8_1))) (ds:=[13,15]) #[false,false,false,false,false,false,false,false,false,false,false,false,false,false,false,false] T4_ rfl rfl ⟨hx371_0,hx372_0⟩ (fun hHeld=>?_);refine with_tabW perm_Draws.tab11 perm_Draws.bits11 (fun HT_ HW_=>?_)
  generalize w27.drew=w28 at HO_5 HO_6 HO370 HB GG18 HQ30 HQ31 hf18_0 hf19_0 hx18_0 hx19_0 hx371_0 hx372_0 hHeld ⊢
  refine pz_ 0 (some 36) ?_
  refine pz_ 1 (some 37) ?_
  refine pz_ 2 (some 38) ?_
  refine pz_ 3 (some 39) ?_
  refine pz_ 4 (some 40) ?_
  refine pz_ 5 (some 41) ?_
  refine pz_ 6 (some 42) ?_
  refine pz_ 8 (some 44) ?_
  refine pz_ 9 (some 45) ?_
  refine pz_ 10 (some 46) ?_
  refine tz2_ 7 (some 43) hHeld ?_
  refine tz2_ 11 (some 47) hHeld ?_
  refine pz_ 12 (some 48) ?_
  refine last_ (i:=13) (N:=none) #[true,true,true,true,true,true,true,true,true,true,true,true,true,true,false,false] rfl rfl (one_of HT_.out T4_) T3_ (fun K hK=>?_)
  refine skip_ (w1:=?_) T0_ rfl ?_ ?_
  rotate_left
  ·go_simp
   rfl
  refine hK.out _ _ ?_
  clear hK K
  refine pz_ 14 (some 49) ?_
  refine last_ (i:=15) (N:=none) #[true,true,true,true,true,true,true,true,true,true,true,true,true,true,true,true] rfl rfl (one_of HT_.out T4_) T3_ (fun K hK=>?_)
  refine skip_ (w1:=?_) T0_ rfl ?_ ?_
  rotate_left
  ·go_simp
   rfl
  refine hK.out _ _ ?_
  clear hK K
  refine done_ (done_of HT_.out T4_) ?_
  try go_wp2
  have n0_:Aside0 (ju (jb .i64) 3 ((w28.setCell ⟨go18,(x8_1:Int).toNat,none⟩ (.int .i64 (rd x5_1 (rd x6_1 (rd l0 x8_1))))).setCell ⟨go18,((rd x6_1 (rd l0 x8_1)):Int).toNat,none⟩ (.int .i64 (rd x5_1 x8_1))) w.heap.size (fun k_=>ne_ k_ (.slice (some ad367) x6_1.length co26)∧ne_ k_ v369) (.slice (some ⟨go18,0,none⟩) x5_1.length co29) y374):=⟨(by(with_reducible repeat(first|apply Kd.R_alloc|apply Kd.R_drewN|apply jq));exact HQ31.out)⟩
  have n1_:Aside0 (ju (jb .i64) 3 ((w28.setCell ⟨go18,(x8_1:Int).toNat,none⟩ (.int .i64 (rd x5_1 (rd x6_1 (rd l0 x8_1))))).setCell ⟨go18,((rd x6_1 (rd l0 x8_1)):Int).toNat,none⟩ (.int .i64 (rd x5_1 x8_1))) w.heap.size (fun k_=>ne_ k_ (.slice (some ⟨go18,0,none⟩) x5_1.length co29)∧ne_ k_ v369) (.slice (some ad367) x6_1.length co26) x6_1):=⟨ru_ (jd (je (p:=⟨go18,((rd x6_1 (rd l0 x8_1)):Int).toNat,none⟩) (je (p:=⟨go18,(x8_1:Int).toNat,none⟩) (jd HO_6.out (fun k_ hk=>(⟨hk,fun e_=>hk.1 T5_⟩:_∧k_≠go18))) (fun _ hk=>hk.2) (.int .i64 (rd x5_1 (rd x6_1 (rd l0 x8_1))))) (fun _ hk=>hk.2) (.int .i64 (rd x5_1 x8_1))) (fun _ hk=>⟨hk.1.1,hk.1.2⟩))⟩
  have n2_:Aside0 (ju (jb .i64) 3 ((w28.setCell ⟨go18,(x8_1:Int).toNat,none⟩ (.int .i64 (rd x5_1 (rd x6_1 (rd l0 x8_1))))).setCell ⟨go18,((rd x6_1 (rd l0 x8_1)):Int).toNat,none⟩ (.int .i64 (rd x5_1 x8_1))) w.heap.size (fun k_=>ne_ k_ (.slice (some ⟨go18,0,none⟩) x5_1.length co29)∧ne_ k_ (.slice (some ad367) x6_1.length co26)) v369 y368):=⟨ru_ (jd (je (p:=⟨go18,((rd x6_1 (rd l0 x8_1)):Int).toNat,none⟩) (je (p:=⟨go18,(x8_1:Int).toNat,none⟩) (jd HO370.out (fun k_ hk=>(⟨hk,fun e_=>hk.1 T5_⟩:_∧k_≠go18))) (fun _ hk=>hk.2) (.int .i64 (rd x5_1 (rd x6_1 (rd l0 x8_1))))) (fun _ hk=>hk.2) (.int .i64 (rd x5_1 x8_1))) (fun _ hk=>⟨hk.1.1,hk.1.2⟩))⟩
  have n3_:Aside0 (Below w.heap.size w ((w28.setCell ⟨go18,(x8_1:Int).toNat,none⟩ (.int .i64 (rd x5_1 (rd x6_1 (rd l0 x8_1))))).setCell ⟨go18,((rd x6_1 (rd l0 x8_1)):Int).toNat,none⟩ (.int .i64 (rd x5_1 x8_1)))):=⟨(by repeat(first|(with_reducible first|exact HB.out|apply below_alloc|apply pw_below_drewN|apply jG|refine jJ ?_ GB18.out|refine jJ ?_ GB18.out)|exact HB.out))⟩
  (try clear HO_5);(try clear HO_6);(try clear HO370);(try clear HB)
  generalize ((w28.setCell ⟨go18,(x8_1:Int).toNat,none⟩ (.int .i64 (rd x5_1 (rd x6_1 (rd l0 x8_1))))).setCell ⟨go18,((rd x6_1 (rd l0 x8_1)):Int).toNat,none⟩ (.int .i64 (rd x5_1 x8_1)))=w32 at n0_ n1_ n2_ n3_ ⊢
  have HO_5:=n0_
  have HO_6:=n1_
  have HO370:=n2_
  have HB:=n3_
  clear n0_ n1_ n2_ n3_
  have n_:=P4_ (jq HO_5.out) (jq HO_6.out) (jq HO370.out) (jG HB.out)
  clear HO_5 HO_6 HO370 HB
  obtain⟨HO_5,HO_6,HO370,HB⟩:=n_
  have p375:0≤(x8_1:Int):=od_
  have q375:x8_1<(y374.length:Int):=(by have h_:(x8_1:Int)<((x5_1.length:Int):Int):=od_;first|(have e_:=(jh HO_5.out).1;omega)|simpa only[Ny373.out,Ny374.out,List.length_set] using h_)
  have ql375:((x8_1:Int)<((x5_1.length:Int):Int))=True:=eq_true (od_)
  obtain⟨ad375,e375,hx375_0⟩:=jI (jh HO_5.out).2.2 x8_1 p375 q375
  obtain rfl:(⟨go18,0,none⟩:Addr)=ad375:=(by injection e375)
  (first|simp only[add_plain] at hx375_0|simp only[add_at] at hx375_0|simp only[Addr.add,Nat.zero_add] at hx375_0|skip)
  replace p375:=eq_true p375
  replace q375:=eq_true q375
  have p376:0≤((rd x6_1 (rd l0 x8_1)):Int):=od_
  have q376:(rd x6_1 (rd l0 x8_1))<(y374.length:Int):=(by have h_:((rd x6_1 (rd l0 x8_1)):Int)<((x5_1.length:Int):Int):=od_;first|(have e_:=(jh HO_5.out).1;omega)|simpa only[Ny373.out,Ny374.out,List.length_set] using h_)
  have ql376:(((rd x6_1 (rd l0 x8_1)):Int)<((x5_1.length:Int):Int))=True:=eq_true (od_)
  obtain⟨ad376,e376,hx376_0⟩:=jI (jh HO_5.out).2.2 (rd x6_1 (rd l0 x8_1)) p376 q376
  obtain rfl:(⟨go18,0,none⟩:Addr)=ad376:=(by injection e376)
  (first|simp only[add_plain] at hx376_0|simp only[add_at] at hx376_0|simp only[Addr.add,Nat.zero_add] at hx376_0|skip)
  replace p376:=eq_true p376
  replace q376:=eq_true q376
  have p22:0≤((rd y374 x8_1):Int):=od_
  have q22:((rd y374 x8_1):Int)<((x6_1.length:Int):Int):=od_
  obtain⟨go22,co22,eo22,gb22,gl22,cl22,HG22⟩:=Kd.R_form HO_6.out T2_
  (first|cases eo22|(injection eo22 with ea_ en_ ec_;(first|subst ea_|(injection ea_ with ea_;subst ea_));subst ec_;clear en_))
  have GB22:=am_ gb22
  have GG22:=am_ HG22
  clear gb22 gl22 HG22
  (first|simp only[add_plain] at hx367_0|skip)
  obtain⟨hx22_0,hf22_0⟩:=Kd.R_celln 0 HO_6.out ((rd y374 x8_1):Int) p22 q22
  replace p22:=eq_true p22
  replace q22:=eq_true q22
  have HP34:=Kd.R_putn HO_6.out ((rd y374 x8_1):Int) x8_1
  rw[←Ny377.out] at HP34
  have HQ34:=am_ HP34
  clear HP34
  have p25:0≤((rd y374 (rd x6_1 (rd l0 x8_1))):Int):=od_
  have q25:((rd y374 (rd x6_1 (rd l0 x8_1))):Int)<((x6_1.length:Int):Int):=od_
  obtain⟨hx25_0,hf25_0⟩:=Kd.R_celln 0 HQ34.out ((rd y374 (rd x6_1 (rd l0 x8_1))):Int) p25 q25
  replace p25:=eq_true p25
  replace q25:=eq_true q25
  have HP35:=Kd.R_putn HQ34.out ((rd y374 (rd x6_1 (rd l0 x8_1))):Int) (rd x6_1 (rd l0 x8_1))
  rw[←Ny378.out] at HP35
  have HQ35:=am_ HP35
  clear HP35
  refine start_ (n:=16) (S:=fun w'=>w'.cell? ⟨go18,(x8_1).toNat,none⟩=some (.int .i64 (rd y374 x8_1))∧w'.cell? ⟨go18,((rd x6_1 (rd l0 x8_1))).toNat,none⟩=some (.int .i64 (rd y374 (rd x6_1 (rd l0 x8_1))))) (ds:=[13,15]) #[false,false,false,false,false,false,false,false,false,false,false,false,false,false,false,false] T4_ rfl rfl ⟨hx375_0,hx376_0⟩ (fun hHeld=>?_);refine with_tabW perm_Draws.tab12 perm_Draws.bits12 (fun HT_ HW_=>?_)
  generalize w32.drew=w33 at HO_5 HO_6 HO370 HB GG22 HQ31 HQ34 HQ35 hf22_0 hf25_0 hx22_0 hx25_0 hx367_0 hx375_0 hx376_0 hHeld ⊢
  refine pz_ 0 (some 50) ?_
  refine pz_ 1 (some 51) ?_
  refine pz_ 2 (some 52) ?_
  refine pz_ 3 (some 53) ?_
  refine pz_ 5 (some 55) ?_
  refine pz_ 6 (some 56) ?_
  refine pz_ 7 (some 57) ?_
  refine pz_ 8 (some 58) ?_
  refine pz_ 10 (some 60) ?_
  refine pz_ 11 (some 61) ?_
  refine tz2_ 4 (some 54) hHeld ?_
  refine tz2_ 9 (some 59) hHeld ?_
  refine pz_ 12 (some 62) ?_
  refine last_ (i:=13) (N:=none) #[true,true,true,true,true,true,true,true,true,true,true,true,true,true,false,false] rfl rfl (one_of HT_.out T4_) T3_ (fun K hK=>?_)
  refine skip_ (w1:=?_) T0_ rfl ?_ ?_
  rotate_left
  ·go_simp
   rfl
  refine hK.out _ _ ?_
  clear hK K
  refine pz_ 14 (some 63) ?_
  refine last_ (i:=15) (N:=none) #[true,true,true,true,true,true,true,true,true,true,true,true,true,true,true,true] rfl rfl (one_of HT_.out T4_) T3_ (fun K hK=>?_)
  refine skip_ (w1:=?_) T0_ rfl ?_ ?_
  rotate_left
  ·go_simp
   rfl
  refine hK.out _ _ ?_
  clear hK K
  refine done_ (done_of HT_.out T4_) ?_
  try go_wp2
  go_roundg k1
  case measure=>have:=HK1.out;omega
  case rel=>exact⟨(y374),(y378),(y368),(wrap64 (x8_1-1)),T9_,H',⟨T7_⟩,⟨ru_ (jd (je (p:=⟨go22,((rd y374 (rd x6_1 (rd l0 x8_1))):Int).toNat,none⟩) (je (p:=⟨go22,((rd y374 x8_1):Int).toNat,none⟩) (jd HO_5.out (fun k_ hk=>(⟨hk,fun e_=>hk.1 T5_⟩:_∧k_≠go22))) (fun _ hk=>hk.2) (.int .i64 x8_1)) (fun _ hk=>hk.2) (.int .i64 (rd x6_1 (rd l0 x8_1)))) (fun _ hk=>⟨hk.1.1,hk.1.2⟩))⟩,⟨(by(with_reducible repeat(first|apply Kd.R_alloc|apply Kd.R_drewN|apply jq));exact HQ35.out)⟩,⟨ru_ (jd (je (p:=⟨go22,((rd y374 (rd x6_1 (rd l0 x8_1))):Int).toNat,none⟩) (je (p:=⟨go22,((rd y374 x8_1):Int).toNat,none⟩) (jd HO370.out (fun k_ hk=>(⟨hk,fun e_=>hk.2 T5_⟩:_∧k_≠go22))) (fun _ hk=>hk.2) (.int .i64 x8_1)) (fun _ hk=>hk.2) (.int .i64 (rd x6_1 (rd l0 x8_1)))) (fun _ hk=>⟨hk.1.1,hk.1.2⟩))⟩,⟨(by repeat(first|(with_reducible first|exact HB.out|apply below_alloc|apply pw_below_drewN|apply jG|refine jJ ?_ GB22.out|refine jJ ?_ GB22.out)|exact HB.out))⟩⟩
mutual
def riffle_Turn.j0:Nat→List Int→Int→Int→List Int→Bool→Option (List Int×Int)
 | 0,_,_,_,_,_=>none
 | k+1,x0,x1,x2,x3,x45=>if x45=true then(some (([]:List Int),2)) else((perm_Check.f k x3).bind fun t383=>(if t383=0 then((riffle_read.f k x0 x1 x2).bind fun bt384=>(if bt384.2.2.2.2.2.2.2.2=0 then(if 0≤x1 then(if(x1:Int).toNat≤35184372088832 then(if 0≤(bt384.2.2.2.1.length:Int) then(if((bt384.2.2.2.1.length:Int):Int).toNat≤11728124029610 then(riffle_Turn.l0 k x0 x1 bt384.2.2.2.2.2.2.1 (List.replicate (x1:Int).toNat 0) (List.replicate ((bt384.2.2.2.1.length:Int):Int).toNat []) x3 (x3.length:Int) 0 bt384.1 bt384.2.1 bt384.2.2.1 bt384.2.2.2.1 bt384.2.2.2.2.1) else(none)) else(none)) else(none)) else(none)) else(some (([]:List Int),bt384.2.2.2.2.2.2.2.2)))) else(some (([]:List Int),t383))))
def riffle_Turn.l0:Nat→List Int→Int→List Int→List Int→List (List Int)→List Int→Int→Int→List Int→List Int→List (List Int)→List Int→List Int→Option (List Int×Int)
 | 0,_,_,_,_,_,_,_,_,_,_,_,_,_=>none
 | k+1,x0,x1,x15,x18,x19,x70,x71,x72,x410000,x410001,x410002,x410003,x410004=>if x72<x71 then(if 0≤x72 then(if x72<(x70.length:Int) then((riffle_cut_of.f k x410000 x410001 x410002 x410003 x410004 (rd x70 x72)).bind fun t417=>(if x72<(x18.length:Int) then(if 0≤t417 then(if t417<(x19.length:Int) then(if t417<(x410004.length:Int) then(if(rd_L3 x19 t417).length<17592186044416 then(riffle_Turn.l0 k x0 x1 x15 (x18.set (x72:Int).toNat t417) (x19.set (t417:Int).toNat ((rd_L3 x19 t417) ++ [wrap64 ((rd x70 x72)-(rd x410004 t417))])) x70 x71 (wrap64 (x72+1)) x410000 x410001 x410002 x410003 x410004) else(none)) else(none)) else(none)) else(none)) else(none))) else(none)) else(none)) else((braid_Draws.f k x410003 x18 x15).bind fun bt425=>(if bt425.2=0 then((braid_Bounds.f k x1).bind fun t429=>((draw_Turn.f x410001 t429 bt425.1).bind fun bt432=>(if bt432.2=0 then((some (([]:List Int):List Int)).bind fun y436=>(if y436.length+x0.length<140737488355328 then((some (y436 ++ x0:List Int)).bind fun y439=>(if 0≤(x410000.length:Int) then(if(x410000.length:Int)≤(y439.length:Int) then(riffle_Turn.l1 k x19 (cpy y439 (((x410000.length:Int):Int).toNat) bt432.1) (wrap64 ((x410000.length:Int)+(cpn y439 (((x410000.length:Int):Int).toNat) bt432.1))) x410003 (x410003.length:Int) 0 x410000 x410001 x410002 x410003 x410004) else(none)) else(none))) else(none))) else(some (([]:List Int),bt432.2))))) else(some (([]:List Int),bt425.2))))
def riffle_Turn.l1:Nat→List (List Int)→List Int→Int→List Int→Int→Int→List Int→List Int→List (List Int)→List Int→List Int→Option (List Int×Int)
 | 0,_,_,_,_,_,_,_,_,_,_,_=>none
 | k+1,x19,x25,x26,x140,x141,x142,x410000,x410001,x410002,x410003,x410004=>if x142<x141 then(if 0≤x142 then(if x142<(x140.length:Int) then(if x142<(x19.length:Int) then((perm_Draws.f k (rd_L3 x19 x142)).bind fun bt451=>(if bt451.2=0 then(if x142<(x410002.length:Int) then((perm_Bounds.f k (rd x140 x142)).bind fun t456=>((draw_Turn.f (rd_L2 x410002 x142) t456 bt451.1).bind fun bt459=>(if bt459.2=0 then(if 0≤x26 then(if x26≤(x25.length:Int) then(riffle_Turn.l1 k x19 (cpy x25 ((x26:Int).toNat) bt459.1) (wrap64 (x26+(cpn x25 ((x26:Int).toNat) bt459.1))) x140 x141 (wrap64 (x142+1)) x410000 x410001 x410002 x410003 x410004) else(none)) else(none)) else(some (([]:List Int),bt459.2))))) else(none)) else(some (([]:List Int),bt451.2)))) else(none)) else(none)) else(none)) else(some (x25,0))
end
def riffle_Turn.f (k:Nat) (l0:List Int) (a1:Int) (a2:Int) (l3:List Int):Option (List Int×Int):=(braid_Sizes.f k a1 a2).bind fun bt379=>(if bt379.2=0 then(riffle_Turn.j0 k l0 a1 a2 l3 ((l3.length:Int) != a1)) else(riffle_Turn.j0 k l0 a1 a2 l3 true))
theorem riffle_Turn.mono_l:∀ k,(∀ y0 y1 y2 y3 y4,LeO (riffle_Turn.j0 k y0 y1 y2 y3 y4) (riffle_Turn.j0 (k+1) y0 y1 y2 y3 y4))∧(∀ y0 y1 y2 y3 y4 y5 y6 y7 y8 y9 y10 y11 y12,LeO (riffle_Turn.l0 k y0 y1 y2 y3 y4 y5 y6 y7 y8 y9 y10 y11 y12) (riffle_Turn.l0 (k+1) y0 y1 y2 y3 y4 y5 y6 y7 y8 y9 y10 y11 y12))∧(∀ y0 y1 y2 y3 y4 y5 y6 y7 y8 y9 y10,LeO (riffle_Turn.l1 k y0 y1 y2 y3 y4 y5 y6 y7 y8 y9 y10) (riffle_Turn.l1 (k+1) y0 y1 y2 y3 y4 y5 y6 y7 y8 y9 y10))
 | 0=>⟨fun _ _ _ _ _ r h=>by simp[riffle_Turn.j0] at h,fun _ _ _ _ _ _ _ _ _ _ _ _ _ r h=>by simp[riffle_Turn.l0] at h,fun _ _ _ _ _ _ _ _ _ _ _ r h=>by simp[riffle_Turn.l1] at h⟩
 | k+1=>by
  obtain⟨ih0,ih1,ih2⟩:=riffle_Turn.mono_l k
  refine⟨?_,?_,?_⟩
  ·intro y0 y1 y2 y3 y4
   unfold riffle_Turn.j0
   with_reducible repeat' first|exact ih0 _ _ _ _ _|exact ih1 _ _ _ _ _ _ _ _ _ _ _ _ _|exact ih2 _ _ _ _ _ _ _ _ _ _ _|exact braid_Bounds.mono _ _|exact braid_Draws.mono _ _ _ _|exact braid_Sizes.mono _ _ _|exact perm_Bounds.mono _ _|exact perm_Check.mono _ _|exact perm_Draws.mono _ _|exact riffle_cut_of.mono _ _ _ _ _ _ _|exact riffle_read.mono _ _ _ _|exact LeO.refl _|exact LeO.none _|refine LeO.ite ?_ ?_|refine LeO.bind ?_ (fun _=>?_)
  ·intro y0 y1 y2 y3 y4 y5 y6 y7 y8 y9 y10 y11 y12
   unfold riffle_Turn.l0
   with_reducible repeat' first|exact ih0 _ _ _ _ _|exact ih1 _ _ _ _ _ _ _ _ _ _ _ _ _|exact ih2 _ _ _ _ _ _ _ _ _ _ _|exact braid_Bounds.mono _ _|exact braid_Draws.mono _ _ _ _|exact braid_Sizes.mono _ _ _|exact perm_Bounds.mono _ _|exact perm_Check.mono _ _|exact perm_Draws.mono _ _|exact riffle_cut_of.mono _ _ _ _ _ _ _|exact riffle_read.mono _ _ _ _|exact LeO.refl _|exact LeO.none _|refine LeO.ite ?_ ?_|refine LeO.bind ?_ (fun _=>?_)
  intro y0 y1 y2 y3 y4 y5 y6 y7 y8 y9 y10
  unfold riffle_Turn.l1
  with_reducible repeat' first|exact ih0 _ _ _ _ _|exact ih1 _ _ _ _ _ _ _ _ _ _ _ _ _|exact ih2 _ _ _ _ _ _ _ _ _ _ _|exact braid_Bounds.mono _ _|exact braid_Draws.mono _ _ _ _|exact braid_Sizes.mono _ _ _|exact perm_Bounds.mono _ _|exact perm_Check.mono _ _|exact perm_Draws.mono _ _|exact riffle_cut_of.mono _ _ _ _ _ _ _|exact riffle_read.mono _ _ _ _|exact LeO.refl _|exact LeO.none _|refine LeO.ite ?_ ?_|refine LeO.bind ?_ (fun _=>?_)
theorem riffle_Turn.mono:∀ a0 a1 a2 a3 k,LeO (riffle_Turn.f k a0 a1 a2 a3) (riffle_Turn.f (k+1) a0 a1 a2 a3):=by
 intro a0 a1 a2 a3 k
 obtain⟨ih0,ih1,ih2⟩:=riffle_Turn.mono_l k
 unfold riffle_Turn.f
 with_reducible repeat' first|exact ih0 _ _ _ _ _|exact ih1 _ _ _ _ _ _ _ _ _ _ _ _ _|exact ih2 _ _ _ _ _ _ _ _ _ _ _|exact braid_Bounds.mono _ _|exact braid_Draws.mono _ _ _ _|exact braid_Sizes.mono _ _ _|exact perm_Bounds.mono _ _|exact perm_Check.mono _ _|exact perm_Draws.mono _ _|exact riffle_cut_of.mono _ _ _ _ _ _ _|exact riffle_read.mono _ _ _ _|exact LeO.refl _|exact LeO.none _|refine LeO.ite ?_ ?_|refine LeO.bind ?_ (fun _=>?_)
def riffle_Turn.T17:Bool×List (List Nat×List Nat):=(true,[([],[]),([],[]),([],[]),([],[]),([2,3],[2,3]),([4],[4]),([],[]),([],[]),([7],[7]),([],[]),([8,9],[8,9]),([10],[10]),([6,11],[6,11]),([12],[12]),([5,13],[5,13]),([0,1,0,1,2,3,4,5,6,7,8,9,10,11,12,13,14],[0,1]),([15,14,14,0,1,2,3,4,5,6,7,8,9,10,11,12,13,14],[14,15])])
def riffle_Turn.B17:List Nat:=[0,0,0,0,12,28,0,0,128,0,896,1920,4032,8128,16380,32767,65535]
theorem riffle_Turn.tab17:rtab .any (opsOf Try.f17 17)=riffle_Turn.T17:=by kernel_rfl
theorem riffle_Turn.bits17:waitsOk riffle_Turn.T17.2 riffle_Turn.B17=true:=by kernel_rfl
def riffle_Turn.T22:Bool×List (List Nat×List Nat):=(true,[([],[]),([0],[0]),([1],[1]),([],[]),([3],[3]),([],[]),([2,4,5,4],[2,4,5]),([6],[6]),([7],[7]),([7],[7]),([8,6,0,1,2,3,4,5,6,7,8],[8]),([9,10,0,1,2,3,4,5,6,7,8,9,10],[9])])
def riffle_Turn.B22:List Nat:=[0,1,3,0,8,0,63,127,255,255,511,2047]
theorem riffle_Turn.tab22:rtab .any (opsOf Try.f17 22)=riffle_Turn.T22:=by kernel_rfl
theorem riffle_Turn.bits22:waitsOk riffle_Turn.T22.2 riffle_Turn.B22=true:=by kernel_rfl
def riffle_Turn.T34:Bool×List (List Nat×List Nat):=(true,[([],[]),([0],[0]),([1],[1]),([],[]),([2,3],[2,3]),([4],[4]),([],[]),([6],[6]),([],[]),([5,7,8,7],[5,7,8]),([9],[9]),([10],[10]),([10],[10]),([11,9,0,1,2,3,4,5,6,7,8,9,10,11],[11]),([12,13,0,1,2,3,4,5,6,7,8,9,10,11,12,13],[12])])
def riffle_Turn.B34:List Nat:=[0,1,3,0,15,31,0,64,0,511,1023,2047,2047,4095,16383]
theorem riffle_Turn.tab34:rtab .any (opsOf Try.f17 34)=riffle_Turn.T34:=by kernel_rfl
theorem riffle_Turn.bits34:waitsOk riffle_Turn.T34.2 riffle_Turn.B34=true:=by kernel_rfl
set_option maxHeartbeats 8000000 in
set_option maxRecDepth 100000 in
theorem riffle_Turn.calls (k:Nat) (A0:Option Addr) (c0:Nat) (l0:List Int) (a1:Int) (a2:Int) (A3:Option Addr) (c3:Nat) (l3:List Int) (r1:List Int) (r2:Int) (w:World) (hr0:Kd.C (jb .u8) w A0 l0.length l0) (hc0:l0.length≤c0) (hr3:Kd.C (jb .i64) w A3 l3.length l3) (hc3:l3.length≤c3) (h:riffle_Turn.f k l0 a1 a2 l3=some (r1,r2)) :
  Calls Try.prog 17 #[.slice A0 l0.length c0,.int .i64 a1,.int .i64 a2,.slice A3 l3.length c3] w fun e w'=>∃ v0_:Value,e = .returned (.tuple #[v0_,.int .i64 r2])∧ju (jb .u8) 5 w' w.heap.size (fun _=>True) v0_ r1∧Below w.heap.size w w':=by
 have hu57:=Try.underlying57
 have HR0:=am_ hr0
 have HC0:=am_ hc0
 clear hr0 hc0
 have HR3:=am_ hr3
 have HC3:=am_ hc3
 clear hr3 hc3
 have HB:=am_ (Below.refl w.heap.size w)
 have H:((braid_Sizes.f k a1 a2).bind fun bt379=>(if bt379.2=0 then(riffle_Turn.j0 k l0 a1 a2 l3 ((l3.length:Int) != a1)) else(riffle_Turn.j0 k l0 a1 a2 l3 true)))=some (r1,r2):=h
 clear h
 replace H:=Option.bind_eq_some_iff.mp H
 obtain⟨⟨t379,t380⟩,A50,H⟩:=H
 try dsimp only at H
 have A5:=am_ A50
 clear A50
 have HC6:=am_ H
 clear H
 go_enter Try.func17,Try.ntmps17
 go_upto_region 2 with(first|(refine gc_ 32 ?_;refine gl_ (some 35) Try.func32 #[.int .i64 a1,.int .i64 a2] ?_;(with_reducible refine(braid_Sizes.calls k a1 a2 t379 t380 _ A5.out).mono ?_);rintro e w7 ⟨v381,rfl,ho0,hb⟩;refine⟨_,rfl,?_⟩;have n_:=P2_ (jn ho0 (ja T16_)) (ji T16_ hb);clear HB;obtain⟨HO382,HB⟩:=n_;clear hb ho0))
 (try simp only[Act.put,List.setIfInBounds_toArray,List.set_cons_zero,List.set_cons_succ])
 go_cut [45] (fun v45 wc=>∃ (kq:Nat) (x45_5:Bool),v45 = .bool x45_5∧Aside0 (riffle_Turn.j0 kq l0 a1 a2 l3 x45_5=some (r1,r2))∧Aside0 (kq≤k)∧Aside0 (Below w.heap.size w wc))
 case first =>
  have H:=HC6.out
  clear HC6
  by_cases c8:t380=0
  rotate_left
  ·rw[if_neg c8] at H
   obtain⟨c8b0,c8b1⟩:=en_ c8
   (first|rw[c8b0]|(simp only[jD,jE];rw[c8b0])|skip)
   have H':=am_ H
   clear H
   go_wp2
   go_meet
   case rel=>exact⟨_,(true),T9_,H',⟨T8_⟩,⟨T16_⟩⟩
  rw[if_pos c8] at H
  obtain⟨c8b0,c8b1⟩:=ep_ c8
  clear c8
  (first|rw[c8b0]|(simp only[jD,jE];rw[c8b0])|skip)
  have H':=am_ H
  clear H
  go_wp2
  go_meet
  case rel=>exact⟨_,(((l3.length:Int) != a1)),T9_,H',⟨T8_⟩,⟨T16_⟩⟩
 clear HC6
 obtain⟨kq,x45_5,rfl,HA,HJ5,HB⟩:=hcut
 cases kq with
 | zero=>exact absurd HA.out (by simp[riffle_Turn.j0])
 | succ kj5 =>
  have H:=HA.out
  clear HA
  simp only[riffle_Turn.j0] at H
  by_cases c9:x45_5=true
  ·subst c9
   have H1:(some (([]:List Int),2))=some (r1,r2):=by rw[if_pos rfl] at H;exact H
   clear H
   have H:=H1
   clear H1
   obtain⟨rfl,rfl⟩:=sj2_ H
   go_wp2
   go_ret2
   exact⟨_,T14_,T18_,T16_⟩
  replace c9:=Bool.eq_false_iff.mpr c9
  subst c9
  have H1:((perm_Check.f kj5 l3).bind fun t383=>(if t383=0 then((riffle_read.f kj5 l0 a1 a2).bind fun bt384=>(if bt384.2.2.2.2.2.2.2.2=0 then(if 0≤a1 then(if(a1:Int).toNat≤35184372088832 then(if 0≤(bt384.2.2.2.1.length:Int) then(if((bt384.2.2.2.1.length:Int):Int).toNat≤11728124029610 then(riffle_Turn.l0 kj5 l0 a1 bt384.2.2.2.2.2.2.1 (List.replicate (a1:Int).toNat 0) (List.replicate ((bt384.2.2.2.1.length:Int):Int).toNat []) l3 (l3.length:Int) 0 bt384.1 bt384.2.1 bt384.2.2.1 bt384.2.2.2.1 bt384.2.2.2.2.1) else(none)) else(none)) else(none)) else(none)) else(some (([]:List Int),bt384.2.2.2.2.2.2.2.2)))) else(some (([]:List Int),t383))))=some (r1,r2):=by rw[if_neg (show ¬ (false=true) by decide)] at H;exact H
  clear H
  have H:=H1
  clear H1
  replace H:=Option.bind_eq_some_iff.mp H
  obtain⟨t383,A100,H⟩:=H
  try dsimp only at H
  have A10:=am_ A100
  clear A100
  by_cases c11:t383=0
  rotate_left
  ·rw[if_neg c11] at H
   obtain⟨c11b0,c11b1⟩:=en_ c11
   obtain⟨rfl,rfl⟩:=sj2_ H
   go_wp2_with(first|(refine gc_ 18 ?_;refine gl_ (some 47) Try.func18 #[.slice A3 l3.length c3] ?_;(with_reducible refine(perm_Check.calls kj5 _ _ l3 t383 _ ?side1 ?side2 A10.out).mono ?_);(case side1=>exact cu_ (jv HR3.out HB.out));(case side2=>exact HC3.out);rintro e w133 ⟨rfl,hb⟩;refine⟨_,rfl,?_⟩;have n0_:=am_ (ji T16_ hb);clear HB;have HB:=n0_;clear n0_;clear hb))
   go_ret2
   exact⟨_,T14_,T18_,T16_⟩
  rw[if_pos c11] at H
  obtain⟨c11b0,c11b1⟩:=ep_ c11
  clear c11
  replace H:=Option.bind_eq_some_iff.mp H
  obtain⟨⟨t384,t387,t390,t393,t396,t399,t402,t405,t408⟩,A120,H⟩:=H
  try dsimp only at H
  have A12:=am_ A120
  clear A120
  by_cases c13:t408=0
  rotate_left
  ·rw[if_neg c13] at H
   obtain⟨c13b0,c13b1⟩:=en_ c13
   obtain⟨rfl,rfl⟩:=sj2_ H
   go_wp2_with(first|(refine gc_ 18 ?_;refine gl_ (some 47) Try.func18 #[.slice A3 l3.length c3] ?_;(with_reducible refine(perm_Check.calls kj5 _ _ l3 t383 _ ?side1 ?side2 A10.out).mono ?_);(case side1=>exact cu_ (jv HR3.out HB.out));(case side2=>exact HC3.out);rintro e w124 ⟨rfl,hb⟩;refine⟨_,rfl,?_⟩;have n0_:=am_ (ji T16_ hb);clear HB;have HB:=n0_;clear n0_;clear hb)|(refine gc_ 20 ?_;refine gl_ (some 55) Try.func20 #[.slice A0 l0.length c0,.int .i64 a1,.int .i64 a2] ?_;(with_reducible refine(riffle_read.calls kj5 _ _ l0 a1 a2 t384 t387 t390 t393 t396 t399 t402 t405 t408 _ ?side1 ?side2 A12.out).mono ?_);(case side1=>exact cu_ (jv HR0.out HB.out));(case side2=>exact HC0.out);rintro e w125 ⟨v385,v388,v391,v394,v397,v400,v403,v406,rfl,ho0,ho1,ho2,ho3,ho4,ho5,ho6,ho7,hb⟩;refine⟨_,rfl,?_⟩;have n_:=P9_ (jn ho0 (ja T16_)) (jn ho1 (ja T16_)) (Kd.S_lower ho2 (ja T16_)) (jn ho3 (ja T16_)) (jn ho4 (ja T16_)) (jn ho5 (ja T16_)) (jn ho6 (ja T16_)) (Kd.S_lower ho7 (ja T16_)) (ji T16_ hb);clear HB;obtain⟨HO386,HO389,HO392,HO395,HO398,HO401,HO404,HO407,HB⟩:=n_;clear hb ho0 ho1 ho2 ho3 ho4 ho5 ho6 ho7)|(refine gd_ 13 ?_;(try(refine gate_guard T0_ ?_;dsimp only));refine bx_ 13 #[.slice none 0 0,.slice none 0 0,.slice none 0 0,.slice none 0 0,.slice none 0 0] 57 ?_;intro gb409 hg w126 hbox hb;have n_:=P12_ (jc (ru_ HO386.out) hb) (jc (ru_ HO389.out) hb) (jA (su_ HO392.out) hb) (jc (ru_ HO395.out) hb) (jc (ru_ HO398.out) hb) (jc (ru_ HO401.out) hb) (jc (ru_ HO404.out) hb) (jA (su_ HO407.out) hb) (ji T16_ hb) (hbox) ((by rw[hg];exact(ja T16_):w.heap.size≤gb409)) ((by rw[hg];exact(ja T16_):w.heap.size≤gb409));clear HO386 HO389 HO392 HO395 HO398 HO401 HO404 HO407 HB;obtain⟨HO386,HO389,HO392,HO395,HO398,HO401,HO404,HO407,HB,BK409,GW409,GE409⟩:=n_;clear hb hbox hg;obtain⟨Ao127,co127,eo127⟩:=jo HO386.out;subst eo127;obtain⟨hcz128_0,hcz128_1,hcz128_2,hcz128_3,hcz128_4,hfz128_0,hfz128_1,hfz128_2,hfz128_3,hfz128_4⟩:=cz5_ BK409.out;obtain⟨Ao129,co129,eo129⟩:=jo HO389.out;subst eo129;obtain⟨Ao130,co130,eo130⟩:=Kd.S_slice HO392.out;subst eo130;obtain⟨Ao131,co131,eo131⟩:=jo HO395.out;subst eo131;obtain⟨Ao132,co132,eo132⟩:=jo HO398.out;subst eo132))
   go_ret2
   exact⟨_,T14_,T18_,T26_⟩
  rw[if_pos c13] at H
  obtain⟨c13b0,c13b1⟩:=ep_ c13
  clear c13
  replace H:=ifn_ H;obtain⟨c14,H⟩:=H
  have c14b0:=eq_true c14
  have c14b1:decide (0≤a1)=true:=decide_eq_true c14
  clear c14
  replace H:=ifn_ H;obtain⟨c15,H⟩:=H
  have c15b0:=eq_true c15
  have c15b1:decide ((a1:Int).toNat≤35184372088832)=true:=decide_eq_true c15
  clear c15
  obtain⟨y410,hy_⟩:∃ y_:List Int,y_=(List.replicate (a1:Int).toNat 0):=⟨_,rfl⟩
  replace H:(if 0≤(t393.length:Int) then(if((t393.length:Int):Int).toNat≤11728124029610 then(riffle_Turn.l0 kj5 l0 a1 t402 y410 (List.replicate ((t393.length:Int):Int).toNat []) l3 (l3.length:Int) 0 t384 t387 t390 t393 t396) else(none)) else(none))=some (r1,r2):=hyw_
  have Ny410:=am_ hy_
  clear hy_
  replace H:=ifn_ H;obtain⟨c16,H⟩:=H
  have c16b0:=eq_true c16
  have c16b1:decide (0≤(t393.length:Int))=true:=decide_eq_true c16
  clear c16
  replace H:=ifn_ H;obtain⟨c17,H⟩:=H
  have c17b0:=eq_true c17
  have c17b1:decide (((t393.length:Int):Int).toNat≤11728124029610)=true:=decide_eq_true c17
  clear c17
  obtain⟨y413,hy_⟩:∃ y_:List (List Int),y_=(List.replicate ((t393.length:Int):Int).toNat []):=⟨_,rfl⟩
  replace H:(riffle_Turn.l0 kj5 l0 a1 t402 y410 y413 l3 (l3.length:Int) 0 t384 t387 t390 t393 t396)=some (r1,r2):=hyw_
  have Ny413:=am_ hy_
  clear hy_
  have H':=am_ H
  clear H
  go_wp2_with(first|(refine gc_ 18 ?_;refine gl_ (some 47) Try.func18 #[.slice A3 l3.length c3] ?_;(with_reducible refine(perm_Check.calls kj5 _ _ l3 t383 _ ?side1 ?side2 A10.out).mono ?_);(case side1=>exact cu_ (jv HR3.out HB.out));(case side2=>exact HC3.out);rintro e w18 ⟨rfl,hb⟩;refine⟨_,rfl,?_⟩;have n0_:=am_ (ji T16_ hb);clear HB;have HB:=n0_;clear n0_;clear hb)|(refine gc_ 20 ?_;refine gl_ (some 55) Try.func20 #[.slice A0 l0.length c0,.int .i64 a1,.int .i64 a2] ?_;(with_reducible refine(riffle_read.calls kj5 _ _ l0 a1 a2 t384 t387 t390 t393 t396 t399 t402 t405 t408 _ ?side1 ?side2 A12.out).mono ?_);(case side1=>exact cu_ (jv HR0.out HB.out));(case side2=>exact HC0.out);rintro e w19 ⟨v385,v388,v391,v394,v397,v400,v403,v406,rfl,ho0,ho1,ho2,ho3,ho4,ho5,ho6,ho7,hb⟩;refine⟨_,rfl,?_⟩;have n_:=P9_ (jn ho0 (ja T16_)) (jn ho1 (ja T16_)) (Kd.S_lower ho2 (ja T16_)) (jn ho3 (ja T16_)) (jn ho4 (ja T16_)) (jn ho5 (ja T16_)) (jn ho6 (ja T16_)) (Kd.S_lower ho7 (ja T16_)) (ji T16_ hb);clear HB;obtain⟨HO386,HO389,HO392,HO395,HO398,HO401,HO404,HO407,HB⟩:=n_;clear hb ho0 ho1 ho2 ho3 ho4 ho5 ho6 ho7)|(refine gd_ 13 ?_;(try(refine gate_guard T0_ ?_;dsimp only));refine bx_ 13 #[.slice none 0 0,.slice none 0 0,.slice none 0 0,.slice none 0 0,.slice none 0 0] 57 ?_;intro gb409 hg w20 hbox hb;have n_:=P12_ (jc (ru_ HO386.out) hb) (jc (ru_ HO389.out) hb) (jA (su_ HO392.out) hb) (jc (ru_ HO395.out) hb) (jc (ru_ HO398.out) hb) (jc (ru_ HO401.out) hb) (jc (ru_ HO404.out) hb) (jA (su_ HO407.out) hb) (ji T16_ hb) (hbox) ((by rw[hg];exact(ja T16_):w.heap.size≤gb409)) ((by rw[hg];exact(ja T16_):w.heap.size≤gb409));clear HO386 HO389 HO392 HO395 HO398 HO401 HO404 HO407 HB;obtain⟨HO386,HO389,HO392,HO395,HO398,HO401,HO404,HO407,HB,BK409,GW409,GE409⟩:=n_;clear hb hbox hg;obtain⟨Ao21,co21,eo21⟩:=jo HO386.out;subst eo21;obtain⟨hcz22_0,hcz22_1,hcz22_2,hcz22_3,hcz22_4,hfz22_0,hfz22_1,hfz22_2,hfz22_3,hfz22_4⟩:=cz5_ BK409.out;obtain⟨Ao23,co23,eo23⟩:=jo HO389.out;subst eo23;obtain⟨Ao24,co24,eo24⟩:=Kd.S_slice HO392.out;subst eo24;obtain⟨Ao25,co25,eo25⟩:=jo HO395.out;subst eo25;obtain⟨Ao26,co26,eo26⟩:=jo HO398.out;subst eo26)|(refine gd_ 65 ?_;(try(refine gate_guard T0_ ?_;dsimp only));refine Kd.R_make (jb .i64) _ 3 rfl (N:=65) rfl 24 _ _ rfl a1 rfl rfl Try.underlying24 (.int .i64 0) 8 info3 rfl T3_ T2_ 0 (ok:=fun _=>True) (okp:=fun _=>True) rfl (fun _ hk=>hk) trivial (od_) (Nat.le_trans (Nat.mul_le_mul_right _ (od_:a1.toNat≤35184372088832)) T2_) (Below.refl _ _) (Nat.le_refl _) ?_;intro v411 w27 ho28 hb hg_ hnew_;clear hg_ hnew_;(first|rw[←Ny410.out] at ho28|(simp only[Int.reduceToNat] at ho28;rw[←Ny410.out] at ho28));have n_:=P11_ (jc (ru_ ((jd (je (p:=⟨gb409,4,none⟩) (je (p:=⟨gb409,3,none⟩) (je (p:=⟨gb409,2,none⟩) (je (p:=⟨gb409,1,none⟩) (je (p:=⟨gb409,0,none⟩) (js HO386.out BK409.out T3_) (fun _ hk=>hk.2) (.slice Ao21 t384.length co21)) (fun _ hk=>hk.2) (.slice Ao23 t387.length co23)) (fun _ hk=>hk.2) (.slice Ao24 t390.length co24)) (fun _ hk=>hk.2) (.slice Ao25 t393.length co25)) (fun _ hk=>hk.2) (.slice Ao26 t396.length co26)) (fun _ h_=>h_.1)))) hb) (jc (ru_ ((jd (je (p:=⟨gb409,4,none⟩) (je (p:=⟨gb409,3,none⟩) (je (p:=⟨gb409,2,none⟩) (je (p:=⟨gb409,1,none⟩) (je (p:=⟨gb409,0,none⟩) (js HO389.out BK409.out T3_) (fun _ hk=>hk.2) (.slice Ao21 t384.length co21)) (fun _ hk=>hk.2) (.slice Ao23 t387.length co23)) (fun _ hk=>hk.2) (.slice Ao24 t390.length co24)) (fun _ hk=>hk.2) (.slice Ao25 t393.length co25)) (fun _ hk=>hk.2) (.slice Ao26 t396.length co26)) (fun _ h_=>h_.1)))) hb) (jA (su_ ((jB (jC (p:=⟨gb409,4,none⟩) (jC (p:=⟨gb409,3,none⟩) (jC (p:=⟨gb409,2,none⟩) (jC (p:=⟨gb409,1,none⟩) (jC (p:=⟨gb409,0,none⟩) (Kd.S_types HO392.out BK409.out T3_) (fun _ hk=>hk.2) (.slice Ao21 t384.length co21)) (fun _ hk=>hk.2) (.slice Ao23 t387.length co23)) (fun _ hk=>hk.2) (.slice Ao24 t390.length co24)) (fun _ hk=>hk.2) (.slice Ao25 t393.length co25)) (fun _ hk=>hk.2) (.slice Ao26 t396.length co26)) (fun _ h_=>h_.1)))) hb) (jg (ru_ ((jd (je (p:=⟨gb409,4,none⟩) (je (p:=⟨gb409,3,none⟩) (je (p:=⟨gb409,2,none⟩) (je (p:=⟨gb409,1,none⟩) (je (p:=⟨gb409,0,none⟩) (js HO395.out BK409.out T3_) (fun _ hk=>hk.2) (.slice Ao21 t384.length co21)) (fun _ hk=>hk.2) (.slice Ao23 t387.length co23)) (fun _ hk=>hk.2) (.slice Ao24 t390.length co24)) (fun _ hk=>hk.2) (.slice Ao25 t393.length co25)) (fun _ hk=>hk.2) (.slice Ao26 t396.length co26)) (fun _ h_=>h_.1)))) (jf ho28) hb) (jg (ru_ ((jd (je (p:=⟨gb409,4,none⟩) (je (p:=⟨gb409,3,none⟩) (je (p:=⟨gb409,2,none⟩) (je (p:=⟨gb409,1,none⟩) (je (p:=⟨gb409,0,none⟩) (js HO398.out BK409.out T3_) (fun _ hk=>hk.2) (.slice Ao21 t384.length co21)) (fun _ hk=>hk.2) (.slice Ao23 t387.length co23)) (fun _ hk=>hk.2) (.slice Ao24 t390.length co24)) (fun _ hk=>hk.2) (.slice Ao25 t393.length co25)) (fun _ hk=>hk.2) (.slice Ao26 t396.length co26)) (fun _ h_=>h_.1)))) (jf ho28) hb) (jg (ru_ ((jd (je (p:=⟨gb409,4,none⟩) (je (p:=⟨gb409,3,none⟩) (je (p:=⟨gb409,2,none⟩) (je (p:=⟨gb409,1,none⟩) (je (p:=⟨gb409,0,none⟩) (js HO401.out BK409.out T3_) (fun _ hk=>hk.2) (.slice Ao21 t384.length co21)) (fun _ hk=>hk.2) (.slice Ao23 t387.length co23)) (fun _ hk=>hk.2) (.slice Ao24 t390.length co24)) (fun _ hk=>hk.2) (.slice Ao25 t393.length co25)) (fun _ hk=>hk.2) (.slice Ao26 t396.length co26)) (fun _ h_=>h_.1)))) (jf ho28) hb) (jg (ru_ ((jd (je (p:=⟨gb409,4,none⟩) (je (p:=⟨gb409,3,none⟩) (je (p:=⟨gb409,2,none⟩) (je (p:=⟨gb409,1,none⟩) (je (p:=⟨gb409,0,none⟩) (js HO404.out BK409.out T3_) (fun _ hk=>hk.2) (.slice Ao21 t384.length co21)) (fun _ hk=>hk.2) (.slice Ao23 t387.length co23)) (fun _ hk=>hk.2) (.slice Ao24 t390.length co24)) (fun _ hk=>hk.2) (.slice Ao25 t393.length co25)) (fun _ hk=>hk.2) (.slice Ao26 t396.length co26)) (fun _ h_=>h_.1)))) (jf ho28) hb) (jH (su_ ((jB (jC (p:=⟨gb409,4,none⟩) (jC (p:=⟨gb409,3,none⟩) (jC (p:=⟨gb409,2,none⟩) (jC (p:=⟨gb409,1,none⟩) (jC (p:=⟨gb409,0,none⟩) (Kd.S_types HO407.out BK409.out T3_) (fun _ hk=>hk.2) (.slice Ao21 t384.length co21)) (fun _ hk=>hk.2) (.slice Ao23 t387.length co23)) (fun _ hk=>hk.2) (.slice Ao24 t390.length co24)) (fun _ hk=>hk.2) (.slice Ao25 t393.length co25)) (fun _ hk=>hk.2) (.slice Ao26 t396.length co26)) (fun _ h_=>h_.1)))) (jf ho28) hb) (jn (jk (jk (jk (jk ho28 (jj (ru_ ((jd (je (p:=⟨gb409,4,none⟩) (je (p:=⟨gb409,3,none⟩) (je (p:=⟨gb409,2,none⟩) (je (p:=⟨gb409,1,none⟩) (je (p:=⟨gb409,0,none⟩) (js HO395.out BK409.out T3_) (fun _ hk=>hk.2) (.slice Ao21 t384.length co21)) (fun _ hk=>hk.2) (.slice Ao23 t387.length co23)) (fun _ hk=>hk.2) (.slice Ao24 t390.length co24)) (fun _ hk=>hk.2) (.slice Ao25 t393.length co25)) (fun _ hk=>hk.2) (.slice Ao26 t396.length co26)) (fun _ h_=>h_.1)))))) (jj (ru_ ((jd (je (p:=⟨gb409,4,none⟩) (je (p:=⟨gb409,3,none⟩) (je (p:=⟨gb409,2,none⟩) (je (p:=⟨gb409,1,none⟩) (je (p:=⟨gb409,0,none⟩) (js HO398.out BK409.out T3_) (fun _ hk=>hk.2) (.slice Ao21 t384.length co21)) (fun _ hk=>hk.2) (.slice Ao23 t387.length co23)) (fun _ hk=>hk.2) (.slice Ao24 t390.length co24)) (fun _ hk=>hk.2) (.slice Ao25 t393.length co25)) (fun _ hk=>hk.2) (.slice Ao26 t396.length co26)) (fun _ h_=>h_.1)))))) (jj (ru_ ((jd (je (p:=⟨gb409,4,none⟩) (je (p:=⟨gb409,3,none⟩) (je (p:=⟨gb409,2,none⟩) (je (p:=⟨gb409,1,none⟩) (je (p:=⟨gb409,0,none⟩) (js HO401.out BK409.out T3_) (fun _ hk=>hk.2) (.slice Ao21 t384.length co21)) (fun _ hk=>hk.2) (.slice Ao23 t387.length co23)) (fun _ hk=>hk.2) (.slice Ao24 t390.length co24)) (fun _ hk=>hk.2) (.slice Ao25 t393.length co25)) (fun _ hk=>hk.2) (.slice Ao26 t396.length co26)) (fun _ h_=>h_.1)))))) (jj (ru_ ((jd (je (p:=⟨gb409,4,none⟩) (je (p:=⟨gb409,3,none⟩) (je (p:=⟨gb409,2,none⟩) (je (p:=⟨gb409,1,none⟩) (je (p:=⟨gb409,0,none⟩) (js HO404.out BK409.out T3_) (fun _ hk=>hk.2) (.slice Ao21 t384.length co21)) (fun _ hk=>hk.2) (.slice Ao23 t387.length co23)) (fun _ hk=>hk.2) (.slice Ao24 t390.length co24)) (fun _ hk=>hk.2) (.slice Ao25 t393.length co25)) (fun _ hk=>hk.2) (.slice Ao26 t396.length co26)) (fun _ h_=>h_.1)))))) (ja T26_)) (jr (g:=gb409) (o:=.cells #[.slice Ao21 t384.length co21,.slice Ao23 t387.length co23,.slice Ao24 t390.length co24,.slice Ao25 t393.length co25,.slice Ao26 t396.length co26] 57 (0,0)) (by(with_reducible repeat(first|refine jp ?_ _|refine jl ?_|refine jm ?_ _));refine jt (cs:=#[.slice Ao21 t384.length co21,.slice Ao23 t387.length co23,.slice Ao24 t390.length co24,.slice Ao25 t393.length co25,.slice none 0 0]) ?_ 4 _ rfl;(with_reducible repeat(first|refine jp ?_ _|refine jl ?_|refine jm ?_ _));refine jt (cs:=#[.slice Ao21 t384.length co21,.slice Ao23 t387.length co23,.slice Ao24 t390.length co24,.slice none 0 0,.slice none 0 0]) ?_ 3 _ rfl;(with_reducible repeat(first|refine jp ?_ _|refine jl ?_|refine jm ?_ _));refine jt (cs:=#[.slice Ao21 t384.length co21,.slice Ao23 t387.length co23,.slice none 0 0,.slice none 0 0,.slice none 0 0]) ?_ 2 _ rfl;(with_reducible repeat(first|refine jp ?_ _|refine jl ?_|refine jm ?_ _));refine jt (cs:=#[.slice Ao21 t384.length co21,.slice none 0 0,.slice none 0 0,.slice none 0 0,.slice none 0 0]) ?_ 1 _ rfl;(with_reducible repeat(first|refine jp ?_ _|refine jl ?_|refine jm ?_ _));refine jt (cs:=#[.slice none 0 0,.slice none 0 0,.slice none 0 0,.slice none 0 0,.slice none 0 0]) ?_ 0 _ rfl;exact bu_ BK409.out) hb) (ji T26_ hb);clear HO386 HO389 HO392 HO395 HO398 HO401 HO404 HO407 BK409 HB;obtain⟨HO386,HO389,HO392,HO395,HO398,HO401,HO404,HO407,HO412,BK409,HB⟩:=n_;clear hb ho28;obtain⟨hcz29_0,hcz29_1,hcz29_2,hcz29_3,hcz29_4,hfz29_0,hfz29_1,hfz29_2,hfz29_3,hfz29_4⟩:=cz5_ BK409.out)|(refine gd_ 69 ?_;(try(refine gate_guard T0_ ?_;dsimp only));refine Kd.S_make (jy 3 (jb .i64)) _ 24 rfl (N:=69) rfl 51 _ _ rfl (t393.length:Int) rfl rfl Try.underlying51 (.slice none 0 0) 24 info24 rfl T3_ T2_ [] (ok:=fun _=>True) (okp:=fun _=>True) ⟨_,rfl,Kd.R_nil _ _ _ _ _⟩ (fun _ hk=>hk) trivial (od_) (Nat.le_trans (Nat.mul_le_mul_right _ (od_:(t393.length:Int).toNat≤11728124029610)) T2_) (Below.refl _ _) (Nat.le_refl _) ?_;intro v414 w30 ho31 hb hg_ hnew_;clear hg_ hnew_;(first|rw[←Ny413.out] at ho31|(simp only[Int.reduceToNat] at ho31;rw[←Ny413.out] at ho31));have n_:=P12_ (jc (ru_ HO386.out) hb) (jc (ru_ HO389.out) hb) (jA (su_ HO392.out) hb) (jc (ru_ HO395.out) hb) (jc (ru_ HO398.out) hb) (jc (ru_ HO401.out) hb) (jc (ru_ HO404.out) hb) (jH (su_ HO407.out) (Kd.S_base ho31) hb) (jc (ru_ HO412.out) hb) (Kd.S_lower (Kd.S_new' (Kd.S_new' (Kd.S_new' (Kd.S_new' (Kd.S_new' (Kd.S_new' ho31 (jj (ru_ HO395.out))) (jj (ru_ HO398.out))) (jj (ru_ HO401.out))) (jj (ru_ HO404.out))) (Kd.S_lt (su_ HO407.out))) (jj (ru_ HO412.out))) (ja T26_)) (jr (bu_ BK409.out) hb) (ji T26_ hb);clear HO386 HO389 HO392 HO395 HO398 HO401 HO404 HO407 HO412 BK409 HB;obtain⟨HO386,HO389,HO392,HO395,HO398,HO401,HO404,HO407,HO412,HO415,BK409,HB⟩:=n_;clear hb ho31))
  go_loopg [72] kj5 (fun kq v72 w'=>∃ (x18_2:List Int) (x19_2:List (List Int)) (x72_2:Int),v72 = .int .i64 x72_2∧Aside0 (riffle_Turn.l0 kq l0 a1 t402 x18_2 x19_2 l3 (l3.length:Int) x72_2 t384 t387 t390 t393 t396=some (r1,r2))∧Aside0 (kq≤kj5)∧Aside0 (ju (jb .i64) 3 w' w.heap.size (fun k_=>ne_ k_ v411∧ne_ k_ (.slice Ao25 t393.length co25)∧ne_ k_ (.slice Ao26 t396.length co26)) v403 t402)∧Aside0 (ju (jb .i64) 3 w' w.heap.size (fun k_=>ne_ k_ v403∧ne_ k_ (.slice Ao25 t393.length co25)∧ne_ k_ (.slice Ao26 t396.length co26)) v411 x18_2)∧Aside0 (Kd.S (jy 3 (jb .i64)) 24 w' w.heap.size (fun k_=>ne_ k_ v403∧ne_ k_ v411∧ne_ k_ (.slice Ao25 t393.length co25)∧ne_ k_ (.slice Ao26 t396.length co26)) v414 x19_2)∧Aside0 (ju (jb .u8) 5 w' w.heap.size (fun k_=>ne_ k_ (.slice Ao23 t387.length co23)) (.slice Ao21 t384.length co21) t384)∧Aside0 (ju (jb .u8) 5 w' w.heap.size (fun k_=>ne_ k_ (.slice Ao21 t384.length co21)) (.slice Ao23 t387.length co23) t387)∧Aside0 (Kd.S (jy 5 (jb .u8)) 23 w' w.heap.size (fun k_=>ne_ k_ (.slice Ao21 t384.length co21)∧ne_ k_ (.slice Ao23 t387.length co23)) (.slice Ao24 t390.length co24) t390)∧Aside0 (ju (jb .i64) 3 w' w.heap.size (fun k_=>ne_ k_ v403∧ne_ k_ v411∧ne_ k_ (.slice Ao26 t396.length co26)) (.slice Ao25 t393.length co25) t393)∧Aside0 (ju (jb .i64) 3 w' w.heap.size (fun k_=>ne_ k_ v403∧ne_ k_ v411∧ne_ k_ (.slice Ao25 t393.length co25)) (.slice Ao26 t396.length co26) t396)∧Aside0 (w'.heap[gb409]? = some (.cells #[(.slice Ao21 t384.length co21),(.slice Ao23 t387.length co23),(.slice Ao24 t390.length co24),(.slice Ao25 t393.length co25),(.slice Ao26 t396.length co26)] 57 (0,0)))∧Aside0 (Below w.heap.size w w'))
  case atStart=>exact⟨(y410),(y413),(0),T9_,H',⟨Nat.le_refl _⟩,⟨ru_ (jd HO404.out (fun _ hk=>⟨hk.2,⟨hk.1.1,hk.1.2.1⟩⟩))⟩,⟨ru_ (jd HO412.out (fun _ hk=>⟨hk.2,⟨hk.1.1.1.2,hk.1.1.2⟩⟩))⟩,⟨su_ (jB HO415.out (fun _ hk=>⟨hk.1.1.2,⟨hk.2,⟨hk.1.1.1.1.1.2,hk.1.1.1.1.2⟩⟩⟩))⟩,⟨ru_ HO386.out⟩,⟨ru_ HO389.out⟩,⟨su_ HO392.out⟩,⟨ru_ (jd HO395.out (fun _ hk=>⟨hk.1.2.2,⟨hk.2,hk.1.1⟩⟩))⟩,⟨ru_ (jd HO398.out (fun _ hk=>⟨hk.1.2.2,⟨hk.2,hk.1.1⟩⟩))⟩,⟨bu_ BK409.out⟩,⟨T26_⟩⟩
  clear H'
  (try clear c3);(try clear c9);(try clear c11);(try clear c11b0 c11b1);(try clear c13);(try clear c13b0 c13b1);(try clear c14);(try clear c14b0 c14b1);(try clear c15);(try clear c15b0 c15b1);(try clear c16);(try clear c16b0 c16b1);(try clear c17);(try clear c17b0 c17b1);(try clear hcz22_0 hcz22_1 hcz22_2 hcz22_3 hcz22_4 hfz22_0 hfz22_1 hfz22_2 hfz22_3 hfz22_4);(try clear hcz29_0 hcz29_1 hcz29_2 hcz29_3 hcz29_4 hfz29_0 hfz29_1 hfz29_2 hfz29_3 hfz29_4);(try clear BK409)
  obtain⟨x18_2,x19_2,x72_2,rfl,HA,HK2,HO_15,HO_18,HO_19,HO_410000,HO_410001,HO_410002,HO_410003,HO_410004,BK409,HB⟩:=hrel
  cases gk with
  | zero=>exact absurd HA.out (by simp[riffle_Turn.l0])
  | succ k2 =>
   have H:=HA.out
   clear HA
   simp only[riffle_Turn.l0] at H
   by_cases c32:x72_2<(l3.length:Int)
   ·rw[if_pos c32] at H
    have c32b0:=decide_eq_true c32
    clear c32
    replace H:=ifn_ H;obtain⟨c33,H⟩:=H
    have c33b0:=decide_eq_true c33
    clear c33
    replace H:=ifn_ H;obtain⟨c34,H⟩:=H
    have c34b0:=decide_eq_true c34
    clear c34
    replace H:=Option.bind_eq_some_iff.mp H
    obtain⟨t417,A350,H⟩:=H
    try dsimp only at H
    have A35:=am_ A350
    clear A350
    replace H:=ifn_ H;obtain⟨c36,H⟩:=H
    have c36b0:=decide_eq_true c36
    clear c36
    obtain⟨y418,hy_⟩:∃ y_:List Int,y_=(x18_2.set (x72_2:Int).toNat t417):=⟨_,rfl⟩
    replace H:(if 0≤t417 then(if t417<(x19_2.length:Int) then(if t417<(t396.length:Int) then(if(rd_L3 x19_2 t417).length<17592186044416 then(riffle_Turn.l0 k2 l0 a1 t402 y418 (x19_2.set (t417:Int).toNat ((rd_L3 x19_2 t417) ++ [wrap64 ((rd l3 x72_2)-(rd t396 t417))])) l3 (l3.length:Int) (wrap64 (x72_2+1)) t384 t387 t390 t393 t396) else(none)) else(none)) else(none)) else(none))=some (r1,r2):=hyw_
    have Ny418:=am_ hy_
    clear hy_
    replace H:=ifn_ H;obtain⟨c38,H⟩:=H
    have c38b0:=decide_eq_true c38
    clear c38
    replace H:=ifn_ H;obtain⟨c39,H⟩:=H
    have c39b0:=decide_eq_true c39
    clear c39
    replace H:=ifn_ H;obtain⟨c40,H⟩:=H
    have c40b0:=decide_eq_true c40
    clear c40
    replace H:=ifa_ H;obtain⟨LMc41,H⟩:=H
    obtain⟨y421,hy_⟩:∃ y_:List Int,y_=((rd_L3 x19_2 t417) ++ [wrap64 ((rd l3 x72_2)-(rd t396 t417))]):=⟨_,rfl⟩
    replace H:(riffle_Turn.l0 k2 l0 a1 t402 y418 (x19_2.set (t417:Int).toNat y421) l3 (l3.length:Int) (wrap64 (x72_2+1)) t384 t387 t390 t393 t396)=some (r1,r2):=hyw_
    have Ny421:=am_ hy_
    clear hy_
    obtain⟨y424,hy_⟩:∃ y_:List (List Int),y_=(x19_2.set (t417:Int).toNat y421):=⟨_,rfl⟩
    replace H:(riffle_Turn.l0 k2 l0 a1 t402 y418 y424 l3 (l3.length:Int) (wrap64 (x72_2+1)) t384 t387 t390 t393 t396)=some (r1,r2):=hyw_
    have Ny424:=am_ hy_
    clear hy_
    have H':=am_ H
    clear H
    have p416:0≤(x72_2:Int):=od_
    have q416:x72_2<(l3.length:Int):=od_
    obtain⟨ad416,e416,hx416_0⟩:=jI HR3.out x72_2 p416 q416
    cases e416
    (try(replace hx416_0:=(HB.out.cell (World.block_lt_of_cell? w _ hx416_0)).trans hx416_0))
    replace p416:=eq_true p416
    replace q416:=eq_true q416
    obtain⟨hcz43_0,hcz43_1,hcz43_2,hcz43_3,hcz43_4,hfz43_0,hfz43_1,hfz43_2,hfz43_3,hfz43_4⟩:=cz5_ BK409.out
    try go_wp2_with(first|(refine gc_ 33 ?_;refine gl_ (some 79) Try.func33 #[.agg #[.slice Ao21 t384.length co21,.slice Ao23 t387.length co23,.slice Ao24 t390.length co24,.slice Ao25 t393.length co25,.slice Ao26 t396.length co26],.int .i64 (rd l3 x72_2)] ?_;(with_reducible refine(riffle_cut_of.calls k2 _ _ t384 _ _ t387 _ _ t390 _ _ t393 _ _ t396 (rd l3 x72_2) t417 _ ?side1 ?side2 ?side3 ?side4 ?side5 ?side6 ?side7 ?side8 ?side9 ?side10 A35.out).mono ?_);(case side1=>exact cu_ ((jh HO_410000.out).2.2));(case side2=>exact(jh HO_410000.out).2.1);(case side3=>exact cu_ ((jh HO_410001.out).2.2));(case side4=>exact(jh HO_410001.out).2.1);(case side5=>exact cu_ ((jK HO_410002.out).2.2));(case side6=>exact(jK HO_410002.out).2.1);(case side7=>exact cu_ ((jh HO_410003.out).2.2));(case side8=>exact(jh HO_410003.out).2.1);(case side9=>exact cu_ ((jh HO_410004.out).2.2));(case side10=>exact(jh HO_410004.out).2.1);rintro e w44 ⟨rfl,hb⟩;refine⟨_,rfl,?_⟩;have n_:=P10_ (jc (ru_ HO_15.out) hb) (jc (ru_ HO_18.out) hb) (jA (su_ HO_19.out) hb) (jc (ru_ HO_410000.out) hb) (jc (ru_ HO_410001.out) hb) (jA (su_ HO_410002.out) hb) (jc (ru_ HO_410003.out) hb) (jc (ru_ HO_410004.out) hb) (jr (bu_ BK409.out) hb) (ji T26_ hb);clear HO_15 HO_18 HO_19 HO_410000 HO_410001 HO_410002 HO_410003 HO_410004 BK409 HB;obtain⟨HO_15,HO_18,HO_19,HO_410000,HO_410001,HO_410002,HO_410003,HO_410004,BK409,HB⟩:=n_;clear hb;have p37:0≤(x72_2:Int):=od_;have q37:(x72_2:Int)<((x18_2.length:Int):Int):=od_;obtain⟨go37,co37,eo37,gb37,gl37,cl37,HG37⟩:=Kd.R_form HO_18.out T2_;(first|cases eo37|(injection eo37 with ea_ en_ ec_;(first|subst ea_|(injection ea_ with ea_;subst ea_));subst ec_;clear en_));have GB37:=am_ gb37;have GG37:=am_ HG37;clear gb37 gl37 HG37;obtain⟨hx37_0,hf37_0⟩:=Kd.R_celln 0 HO_18.out (x72_2:Int) p37 q37;replace p37:=eq_true p37;replace q37:=eq_true q37;obtain⟨hy45_,hz45_⟩:=Kd.R_celln 0 HO_18.out (x72_2:Int) (od_) (od_);have HP45:=Kd.R_putg HO_18.out (x72_2:Int) t417)|(refine gs_ 3 83 ?_;refine sv_ 3 83 (w44.setCell ⟨go37,(x72_2:Int).toNat,none⟩ (.int .i64 t417)) ?_;intro w46 hw;have hg:w44.grownBy w46 (some go37):=(by rw[hw];exact HP45.2);have hp_:ju (jb .i64) 3 w46 w.heap.size (fun k_=>ne_ k_ v403∧ne_ k_ (.slice Ao25 t393.length co25)∧ne_ k_ (.slice Ao26 t396.length co26)) (.slice (some ⟨go37,0,none⟩) x18_2.length co37) y418:=(by rw[hw,Ny418.out];exact HP45.1);clear HP45;have n_:=P10_ (jw (v:=(.slice (some ⟨go37,0,none⟩) x18_2.length co37)) (v1:=(.slice (some ⟨go37,0,none⟩) x18_2.length co37)) (ok:=(fun k_=>ne_ k_ (.slice Ao25 t393.length co25)∧ne_ k_ (.slice Ao26 t396.length co26))) (ru_ (jd HO_15.out (fun _ hk=>⟨⟨hk.2.1,hk.2.2⟩,hk.1⟩))) hg (.inl rfl)) (hp_) (Kd.S_after (v:=(.slice (some ⟨go37,0,none⟩) x18_2.length co37)) (v1:=(.slice (some ⟨go37,0,none⟩) x18_2.length co37)) (ok:=(fun k_=>ne_ k_ v403∧ne_ k_ (.slice Ao25 t393.length co25)∧ne_ k_ (.slice Ao26 t396.length co26))) (su_ (jB HO_19.out (fun _ hk=>⟨⟨hk.1,⟨hk.2.2.1,hk.2.2.2⟩⟩,hk.2.1⟩))) hg (.inl rfl)) (jx (v:=(.slice (some ⟨go37,0,none⟩) x18_2.length co37)) (ru_ HO_410000.out) (jz HO_18.out) T3_ hg) (jx (v:=(.slice (some ⟨go37,0,none⟩) x18_2.length co37)) (ru_ HO_410001.out) (jz HO_18.out) T3_ hg) (Kd.S_over' (v:=(.slice (some ⟨go37,0,none⟩) x18_2.length co37)) (su_ HO_410002.out) (jz HO_18.out) T3_ hg) (jw (v:=(.slice (some ⟨go37,0,none⟩) x18_2.length co37)) (v1:=(.slice (some ⟨go37,0,none⟩) x18_2.length co37)) (ok:=(fun k_=>ne_ k_ v403∧ne_ k_ (.slice Ao26 t396.length co26))) (ru_ (jd HO_410003.out (fun _ hk=>⟨⟨hk.1,hk.2.2⟩,hk.2.1⟩))) hg (.inl rfl)) (jw (v:=(.slice (some ⟨go37,0,none⟩) x18_2.length co37)) (v1:=(.slice (some ⟨go37,0,none⟩) x18_2.length co37)) (ok:=(fun k_=>ne_ k_ v403∧ne_ k_ (.slice Ao25 t393.length co25))) (ru_ (jd HO_410004.out (fun _ hk=>⟨⟨hk.1,hk.2.2⟩,hk.2.1⟩))) hg (.inl rfl)) (blk_grown (g:=gb409) (o:=.cells #[.slice Ao21 t384.length co21,.slice Ao23 t387.length co23,.slice Ao24 t390.length co24,.slice Ao25 t393.length co25,.slice Ao26 t396.length co26] 57 (0,0)) (bu_ BK409.out) hg (Kd.R_ne HO_18.out BK409.out T3_)) ((by rw[hw];exact jJ (HB.out) GB37.out:Below w.heap.size w w46));clear HO_15 HO_18 HO_19 HO_410000 HO_410001 HO_410002 HO_410003 HO_410004 BK409 HB;obtain⟨HO_15,HO_18,HO_19,HO_410000,HO_410001,HO_410002,HO_410003,HO_410004,BK409,HB⟩:=n_;clear hg hw hp_))
    have n_:=P10_ (jq HO_15.out) (jq HO_18.out) (Kd.S_drew HO_19.out) (jq HO_410000.out) (jq HO_410001.out) (Kd.S_drew HO_410002.out) (jq HO_410003.out) (jq HO_410004.out) (jl BK409.out) (jG HB.out)
    clear HO_15 HO_18 HO_19 HO_410000 HO_410001 HO_410002 HO_410003 HO_410004 BK409 HB
    obtain⟨HO_15,HO_18,HO_19,HO_410000,HO_410001,HO_410002,HO_410003,HO_410004,BK409,HB⟩:=n_
    obtain⟨Ao48,co48,eo48⟩:=Kd.S_slice HO_19.out
    (first|subst eo48|(injection eo48 with f1_ f2_ f3_;have f4_:=f1_.symm;have f5_:=f3_.symm;clear f1_ f2_ f3_;subst f4_;subst f5_))
    have p419:0≤(t417:Int):=od_
    have q419:t417<(x19_2.length:Int):=od_
    obtain⟨ad419,A419_0,c419_0,e419,hx419_0,hl419_0,hi419_0⟩:=at_L3 (jK HO_19.out).2.2 t417 p419 q419
    cases e419
    obtain⟨ce419,hce419,hMe419,hcc419⟩:=Kd.S_get HO_19.out [] t417 p419 (by first|exact q419|exact od_|(have e_:=(jK HO_19.out).1;omega))
    obtain⟨ve419_0,rfl,ge419_0⟩:=hMe419
    have hv419_0:=hcc419 0 _ rfl
    rw[Nat.add_zero,show((jy 3 (jb .i64))).sz=1 from rfl,Nat.mul_one] at hv419_0
    replace hv419_0:=Option.some.inj (hv419_0.symm.trans hx419_0)
    rw[hv419_0] at ge419_0
    have HL419_0:=am_ (show ju (jb .i64) 3 _ _ _ _ (rd_L3 x19_2 t417) from ge419_0)
    clear hv419_0 ge419_0
    have HX419_0:=am_ hx419_0
    clear hcc419 hce419
    have HR419_0:=am_ hi419_0
    have HC419_0:=am_ hl419_0
    clear hi419_0 hl419_0
    replace p419:=eq_true p419
    replace q419:=eq_true q419
    obtain⟨ad420,e420,hx420_0,p420,q420⟩:=ai_ (jh HO_410004.out).2.2 t417
    cases e420
    have n_:=am_ (jB (ok':=(fun k_=>ne_ k_ v403∧ne_ k_ (.slice (some ⟨go37,0,none⟩) x18_2.length co37)∧ne_ k_ (.slice Ao25 t393.length co25)∧ne_ k_ (.slice (some ad420) t396.length co26))) HO_19.out (fun k_ hk=>⟨hk.1.1,⟨hk.2,⟨hk.1.2.1,hk.1.2.2⟩⟩⟩))
    clear HO_19
    have HO_19:=n_
    clear n_
    obtain⟨go49,co49,eo49,gb49,gl49,cl49,HG49⟩:=Kd.S_form HO_19.out (by have h_:(t417:Int)<((x19_2.length:Int):Int):=od_;have h2_:0≤(t417:Int):=(od_);omega)
    (first|cases eo49|(injection eo49 with ea_ en_ ec_;(first|subst ea_|(injection ea_ with ea_;subst ea_));subst ec_;clear en_))
    have GB49:=am_ gb49
    have GG49:=am_ HG49
    clear gb49 gl49 HG49
    (first|simp only[add_plain] at hx419_0|skip)
    obtain⟨oki49,ce49,hcl49,hM49,hcc49,_,_,hH49⟩:=Kd.S_elem HO_19.out [] (t417:Int) (od_) (by have h_:(t417:Int)<((x19_2.length:Int):Int):=od_;first|exact h_|(have e_:=(jK HO_19.out).1;omega)|simpa using h_)
    obtain⟨ve49_0,rfl,ge49_0⟩:=hM49
    have hv49:=hcc49 0 _ rfl
    have hX49:=HX419_0.out
    (try simp only[add_plain] at hX49)
    (try simp only[Nat.add_zero] at hv49)
    (try rw[show((jy 3 (jb .i64))).sz=1 from rfl,Nat.mul_one] at hv49)
    replace hv49:=Option.some.inj (hv49.symm.trans hX49)
    subst hv49
    clear hX49 hcc49 hcl49
    have UU49:=am_ (show ju (jb .i64) 3 _ w.heap.size oki49 (.slice A419_0 (rd_L3 x19_2 t417).length c419_0) (rd_L3 x19_2 t417) from ge49_0)
    have HH49:=am_ hH49
    have HN49:=am_ (jK HO_19.out).1
    clear hH49 ge49_0
    refine start_ (n:=17) (S:=fun w'=>w'.cell? ⟨gb409,0,none⟩=some (.slice Ao21 t384.length co21)∧w'.cell? ⟨gb409,1,none⟩=some (.slice Ao23 t387.length co23)∧w'.cell? ⟨gb409,2,none⟩=some (.slice Ao24 t390.length co24)∧w'.cell? ⟨gb409,3,none⟩=some (.slice Ao25 t393.length co25)∧w'.cell? ⟨gb409,4,none⟩=some (.slice (some ad420) t396.length co26)∧w'.cell? ⟨go49,(t417).toNat,none⟩=some (.slice A419_0 (rd_L3 x19_2 t417).length c419_0)∧w'.cell? (ad420.add (t417).toNat)=some (.int .i64 (rd t396 t417))) (ds:=[14,16]) #[false,false,false,false,false,false,false,false,false,false,false,false,false,false,false,false,false] T4_ rfl rfl ⟨bc_ BK409.out 0,bc_ BK409.out 1,bc_ BK409.out 2,bc_ BK409.out 3,bc_ BK409.out 4,hx419_0,hx420_0⟩ (fun hHeld=>?_);refine with_tabW riffle_Turn.tab17 riffle_Turn.bits17 (fun HT_ HW_=>?_)
    generalize w46.drew=w47 at HO_15 HO_18 HO_19 HO_410000 HO_410001 HO_410002 HO_410003 HO_410004 BK409 HB GG49 HH49 HL419_0 HR419_0 HX419_0 UU49 hx419_0 hx420_0 hHeld ⊢
    refine pz_ 0 (some 84) ?_
    refine pz_ 1 (some 85) ?_
    refine pz_ 2 (some 86) ?_
    refine pz_ 3 (some 87) ?_
    refine pz_ 4 (some 88) ?_
    refine pz_ 6 (some 90) ?_
    refine pz_ 7 (some 91) ?_
    refine pz_ 9 (some 93) ?_
    refine tz7_ 5 (some 89) hHeld ?_
    refine tz7_ 8 (some 92) hHeld ?_
    refine pz_ 10 (some 94) ?_
    refine tz7_ 11 (some 95) hHeld ?_
    refine pz_ 12 (some 96) ?_
    refine oz_ 13 (some 97) (fun K hK=>?_)
    refine value_ (w1:=?_) (v:=?_) T0_ rfl ?_ ?_
    rotate_left 2
    ·go_simp
     constructor
     ·rfl
     rfl
    refine hK.out _ _ ⟨(blk_cell (jm BK409.out _) 0).trans rfl,(blk_cell (jm BK409.out _) 1).trans rfl,(blk_cell (jm BK409.out _) 2).trans rfl,(blk_cell (jm BK409.out _) 3).trans rfl,(blk_cell (jm BK409.out _) 4).trans rfl,(World.cell?_alloc_lt _ _ _ (World.block_lt_of_cell? _ _ (hHeld.2.2.2.2.2.1))).trans (hHeld.2.2.2.2.2.1),(World.cell?_alloc_lt _ _ _ (World.block_lt_of_cell? _ _ (hHeld.2.2.2.2.2.2))).trans (hHeld.2.2.2.2.2.2)⟩ (fun hHeld=>?_)
    clear hK K
    refine norm_ (a':=?_) ?_ ?_
    rotate_left
    ·show Act.put _ (some 97) _=_
     simp only[Act.put,List.setIfInBounds_toArray,List.set_cons_zero,List.set_cons_succ,jD,jE]
     rfl
    refine last_ (i:=14) (N:=some 98) #[true,true,true,true,true,true,true,true,true,true,true,true,true,true,true,false,false] rfl rfl (one_of HT_.out T4_) T3_ (fun K hK=>?_)
    refine Kd.R_append_step (jb .i64) (w0:=w) w.heap.size T0_ (.tmp 89) (.tmp 97) 24 3 (.int .i64 0) 8 rfl Try.underlying24 info3 rfl T3_ T2_ (.slice A419_0 (rd_L3 x19_2 t417).length c419_0) (rd_L3 x19_2 t417) (wrap64 ((rd l3 x72_2)-(rd t396 t417))) [.int .i64 (wrap64 ((rd l3 x72_2)-(rd t396 t417)))] (fun k_=>oki49 k_∨((fun k_=>ne_ k_ v403∧ne_ k_ (.slice (some ⟨go37,0,none⟩) x18_2.length co37)∧ne_ k_ (.slice Ao25 t393.length co25)∧ne_ k_ (.slice (some ad420) t396.length co26))) k_∧w47.heap.size≤k_) (fun _=>False) rfl rfl ?aP (fun _ hk=>hk.elim) ?aF ?aO ?aB ?aS ?aL ?_
    (case aP=>exact rfl)
    (case aB=>exact T26_)
    (case aF=>exact(fun k_ hk=>.inr ⟨⟨jF (jj (ru_ HO_15.out)) k_ hk,jF (jj (ru_ HO_18.out)) k_ hk,jF (jj (ru_ HO_410003.out)) k_ hk,jF (jj (ru_ HO_410004.out)) k_ hk⟩,hk⟩))
    (case aO=>exact(ru_ (jd UU49.out (fun _ hk=>.inl hk))))
    (case aS=>exact(ja T26_))
    (case aL=>have:=LMc41.out;omega)
    intro v422 w50 ho hb hg hat
    rw[←Ny421.out] at ho
    have n_:=P11_ (Kd.R_grown2 (ru_ HO_15.out) rfl hg (fun k_ e_=>(HL419_0.out.1 k_ e_).1.1.1)) (Kd.R_grown2 (ru_ HO_18.out) rfl hg (fun k_ e_=>(HL419_0.out.1 k_ e_).1.2)) (jx (v:=(.slice A419_0 (rd_L3 x19_2 t417).length c419_0)) (ru_ HO_410000.out) (jz HL419_0.out) T3_ hg) (jx (v:=(.slice A419_0 (rd_L3 x19_2 t417).length c419_0)) (ru_ HO_410001.out) (jz HL419_0.out) T3_ hg) (Kd.S_over' (v:=(.slice A419_0 (rd_L3 x19_2 t417).length c419_0)) (su_ HO_410002.out) (jz HL419_0.out) T3_ hg) (Kd.R_grown2 (ru_ HO_410003.out) rfl hg (fun k_ e_=>(HL419_0.out.1 k_ e_).1.1.2.1)) (Kd.R_grown2 (ru_ HO_410004.out) rfl hg (fun k_ e_=>(HL419_0.out.1 k_ e_).1.1.2.2)) (blk_grown (g:=gb409) (o:=.cells #[.slice Ao21 t384.length co21,.slice Ao23 t387.length co23,.slice Ao24 t390.length co24,.slice Ao25 t393.length co25,.slice (some ad420) t396.length co26] 57 (0,0)) (bu_ BK409.out) hg (Kd.R_ne HL419_0.out BK409.out T3_)) (hb) (Kd.H_grown (Kd.H_widen (by repeat(first|exact HH49.out|refine Kd.H_alloc ?_ _|refine Kd.H_drewN ?_ _|refine Kd.H_drew ?_))) hg (fun k_ e_=>.inl (UU49.out.1 k_ e_))) (ho)
    clear HO_15 HO_18 HO_410000 HO_410001 HO_410002 HO_410003 HO_410004 BK409 HB HH49 HO_19 UU49 HL419_0
    obtain⟨HO_15,HO_18,HO_410000,HO_410001,HO_410002,HO_410003,HO_410004,BK409,HB,HH49,HO423⟩:=n_
    clear ho hb hg hat
    have p42:0≤(t417:Int):=od_
    have q42:(t417:Int)<((x19_2.length:Int):Int):=od_
    replace p42:=eq_true p42
    replace q42:=eq_true q42
    obtain⟨Ao53,co53,eo53⟩:=jo HO423.out
    (first|subst eo53|(injection eo53 with f1_ f2_ f3_;have f4_:=f1_.symm;have f5_:=f3_.symm;clear f1_ f2_ f3_;subst f4_;subst f5_))
    obtain⟨_,_,hraw51,_,_,hcc51,_⟩:=Kd.H_raw HH49.out (od_) (by have h_:(t417:Int)<((x19_2.length:Int):Int):=od_;first|exact h_|(have e_:=(HN49.out);omega)|simpa using h_)
    obtain⟨_,hfr51⟩:=Kd.H_at HH49.out (od_) (by have h_:(t417:Int)<((x19_2.length:Int):Int):=od_;first|exact h_|(have e_:=(HN49.out);omega)|simpa using h_)
    have hx51_0:=hcc51 0 _ rfl
    have hf51_0:=hfr51 0
    (try simp only[Nat.add_zero] at hx51_0 hf51_0)
    (try rw[show((jy 3 (jb .i64))).sz=1 from rfl,Nat.mul_one] at hx51_0)
    (try rw[show((jy 3 (jb .i64))).sz=1 from rfl,Nat.mul_one] at hf51_0)
    have HP51:=Kd.S_seg0 HH49.out (od_) (by have h_:(t417:Int)<((x19_2.length:Int):Int):=od_;first|exact h_|(have e_:=(HN49.out);omega)|simpa using h_) (seg:=[.slice Ao53 y421.length co53]) (j:=0) (show 1≤1 from by decide) (x':=y421) (Kd.M_row HO423.out) (fun _ hk=>hk)
    (try simp only[show((jy 3 (jb .i64))).sz=1 from rfl,Nat.mul_one,Nat.add_zero] at HP51)
    clear hcc51 hfr51
    have HNB409_go49:=am_ (show gb409≠go49 from by have h_:=Kd.R_ne hraw51 BK409.out T3_;intro e_;exact h_ T5_)
    have HS51:=HP51.1
    rw[←Ny424.out] at HS51
    have HQ51:=am_ HS51
    obtain⟨_,hgg51⟩:=jz hraw51 go49 rfl
    have GG51_:=am_ hgg51
    clear HP51 HS51 hgg51
    refine hK.out _ _ ?_
    clear hK K
    refine norm_ (a':=?_) ?_ ?_
    rotate_left
    ·show Act.put _ (some 98) _=_
     simp only[Act.put,List.setIfInBounds_toArray,List.set_cons_zero,List.set_cons_succ,jD,jE]
     rfl
    refine pz_ 15 (some 99) ?_
    refine last_ (i:=16) (N:=none) #[true,true,true,true,true,true,true,true,true,true,true,true,true,true,true,true,true] rfl rfl (one_of HT_.out T4_) T3_ (fun K hK=>?_)
    refine skip_ (w1:=?_) T0_ rfl ?_ ?_
    rotate_left
    ·go_simp
     rfl
    refine hK.out _ _ ?_
    clear hK K
    refine done_ (done_of HT_.out T4_) ?_
    try go_wp2
    go_roundg k2
    case measure=>have:=HJ5.out;have:=HK2.out;omega
    case rel=>exact⟨(y418),(y424),(wrap64 (x72_2+1)),T9_,H',⟨(by have:=HJ5.out;have:=HK2.out;omega)⟩,⟨ru_ (jd (je (p:=⟨go49,(t417:Int).toNat,none⟩) (js HO_15.out GG51_.out T3_) (fun _ hk=>hk.2) (.slice Ao53 y421.length co53)) (fun _ hk=>⟨hk.1.2,⟨hk.1.1.1,hk.1.1.2⟩⟩))⟩,⟨ru_ (jd (je (p:=⟨go49,(t417:Int).toNat,none⟩) (js HO_18.out GG51_.out T3_) (fun _ hk=>hk.2) (.slice Ao53 y421.length co53)) (fun _ hk=>⟨hk.1.1,⟨hk.1.2.1,hk.1.2.2⟩⟩))⟩,⟨(by(with_reducible repeat(first|apply Kd.S_alloc|apply Kd.S_drewN|apply Kd.S_drew));exact HQ51.out)⟩,⟨ru_ (jd (je (p:=⟨go49,(t417:Int).toNat,none⟩) (js HO_410000.out GG51_.out T3_) (fun _ hk=>hk.2) (.slice Ao53 y421.length co53)) (fun _ hk=>hk.1))⟩,⟨ru_ (jd (je (p:=⟨go49,(t417:Int).toNat,none⟩) (js HO_410001.out GG51_.out T3_) (fun _ hk=>hk.2) (.slice Ao53 y421.length co53)) (fun _ hk=>hk.1))⟩,⟨su_ (jB (jC (p:=⟨go49,(t417:Int).toNat,none⟩) (Kd.S_types HO_410002.out GG51_.out T3_) (fun _ hk=>hk.2) (.slice Ao53 y421.length co53)) (fun _ hk=>⟨hk.1.1,hk.1.2⟩))⟩,⟨ru_ (jd (je (p:=⟨go49,(t417:Int).toNat,none⟩) (js HO_410003.out GG51_.out T3_) (fun _ hk=>hk.2) (.slice Ao53 y421.length co53)) (fun _ hk=>⟨hk.1.1.1,⟨hk.1.2,hk.1.1.2⟩⟩))⟩,⟨ru_ (jd (je (p:=⟨go49,(t417:Int).toNat,none⟩) (js HO_410004.out GG51_.out T3_) (fun _ hk=>hk.2) (.slice Ao53 y421.length co53)) (fun _ hk=>⟨hk.1.1.1,⟨hk.1.2,hk.1.1.2⟩⟩))⟩,⟨(by(with_reducible repeat(first|refine jp ?_ _|refine jl ?_|refine jm ?_ _));refine blk_far ?_ HNB409_go49.out _;exact bu_ BK409.out)⟩,⟨(by repeat(first|(with_reducible first|exact HB.out|apply below_alloc|apply pw_below_drewN|apply jG|refine jJ ?_ GB49.out|refine jJ ?_ GE409.out)|exact HB.out))⟩⟩
   rw[if_neg c32] at H
   have c32b0:=decide_eq_false c32
   clear c32
   replace H:=Option.bind_eq_some_iff.mp H
   obtain⟨⟨t425,t426⟩,A540,H⟩:=H
   try dsimp only at H
   have A54:=am_ A540
   clear A540
   by_cases c55:t426=0
   rotate_left
   ·rw[if_neg c55] at H
    obtain⟨c55b0,c55b1⟩:=en_ c55
    obtain⟨rfl,rfl⟩:=sj2_ H
    obtain⟨hcz120_0,hcz120_1,hcz120_2,hcz120_3,hcz120_4,hfz120_0,hfz120_1,hfz120_2,hfz120_3,hfz120_4⟩:=cz5_ BK409.out
    obtain⟨Ao121,co121,eo121⟩:=jo HO_18.out
    subst eo121
    obtain⟨Ao122,co122,eo122⟩:=jo HO_15.out
    subst eo122
    go_wp2_with(first|(refine gc_ 34 ?_;refine gl_ (some 106) Try.func34 #[.slice Ao25 t393.length co25,.slice Ao121 x18_2.length co121,.slice Ao122 t402.length co122] ?_;(with_reducible refine(braid_Draws.calls k2 _ _ t393 _ _ x18_2 _ _ t402 t425 t426 _ ?side1 ?side2 ?side3 ?side4 ?side5 ?side6 A54.out).mono ?_);(case side1=>exact cu_ ((jh HO_410003.out).2.2));(case side2=>exact(jh HO_410003.out).2.1);(case side3=>exact cu_ ((jh HO_18.out).2.2));(case side4=>exact(jh HO_18.out).2.1);(case side5=>exact cu_ ((jh HO_15.out).2.2));(case side6=>exact(jh HO_15.out).2.1);rintro e w123 ⟨v427,rfl,ho0,hb⟩;refine⟨_,rfl,?_⟩;have n_:=P11_ (jg (ru_ HO_15.out) (jf ho0) hb) (jg (ru_ HO_18.out) (jf ho0) hb) (jH (su_ HO_19.out) (jf ho0) hb) (jc (ru_ HO_410000.out) hb) (jc (ru_ HO_410001.out) hb) (jA (su_ HO_410002.out) hb) (jg (ru_ HO_410003.out) (jf ho0) hb) (jg (ru_ HO_410004.out) (jf ho0) hb) (jn (jk (jk (jk (jk ho0 (jj (ru_ HO_15.out))) (jj (ru_ HO_18.out))) (jj (ru_ HO_410003.out))) (jj (ru_ HO_410004.out))) (ja T26_)) (jr (bu_ BK409.out) hb) (ji T26_ hb);clear HO_15 HO_18 HO_19 HO_410000 HO_410001 HO_410002 HO_410003 HO_410004 BK409 HB;obtain⟨HO_15,HO_18,HO_19,HO_410000,HO_410001,HO_410002,HO_410003,HO_410004,HO428,BK409,HB⟩:=n_;clear hb ho0))
    go_ret2
    exact⟨_,T14_,T18_,T26_⟩
   rw[if_pos c55] at H
   obtain⟨c55b0,c55b1⟩:=ep_ c55
   clear c55
   replace H:=Option.bind_eq_some_iff.mp H
   obtain⟨t429,A560,H⟩:=H
   try dsimp only at H
   have A56:=am_ A560
   clear A560
   replace H:=Option.bind_eq_some_iff.mp H
   obtain⟨⟨t432,t433⟩,A570,H⟩:=H
   try dsimp only at H
   have A57:=am_ A570
   clear A570
   by_cases c58:t433=0
   rotate_left
   ·rw[if_neg c58] at H
    obtain⟨c58b0,c58b1⟩:=en_ c58
    obtain⟨rfl,rfl⟩:=sj2_ H
    obtain⟨hcz111_0,hcz111_1,hcz111_2,hcz111_3,hcz111_4,hfz111_0,hfz111_1,hfz111_2,hfz111_3,hfz111_4⟩:=cz5_ BK409.out
    obtain⟨Ao112,co112,eo112⟩:=jo HO_18.out
    subst eo112
    obtain⟨Ao113,co113,eo113⟩:=jo HO_15.out
    subst eo113
    try go_wp2_with(first|(refine gc_ 34 ?_;refine gl_ (some 106) Try.func34 #[.slice Ao25 t393.length co25,.slice Ao112 x18_2.length co112,.slice Ao113 t402.length co113] ?_;(with_reducible refine(braid_Draws.calls k2 _ _ t393 _ _ x18_2 _ _ t402 t425 t426 _ ?side1 ?side2 ?side3 ?side4 ?side5 ?side6 A54.out).mono ?_);(case side1=>exact cu_ ((jh HO_410003.out).2.2));(case side2=>exact(jh HO_410003.out).2.1);(case side3=>exact cu_ ((jh HO_18.out).2.2));(case side4=>exact(jh HO_18.out).2.1);(case side5=>exact cu_ ((jh HO_15.out).2.2));(case side6=>exact(jh HO_15.out).2.1);rintro e w114 ⟨v427,rfl,ho0,hb⟩;refine⟨_,rfl,?_⟩;have n_:=P11_ (jg (ru_ HO_15.out) (jf ho0) hb) (jg (ru_ HO_18.out) (jf ho0) hb) (jH (su_ HO_19.out) (jf ho0) hb) (jc (ru_ HO_410000.out) hb) (jc (ru_ HO_410001.out) hb) (jA (su_ HO_410002.out) hb) (jg (ru_ HO_410003.out) (jf ho0) hb) (jg (ru_ HO_410004.out) (jf ho0) hb) (jn (jk (jk (jk (jk ho0 (jj (ru_ HO_15.out))) (jj (ru_ HO_18.out))) (jj (ru_ HO_410003.out))) (jj (ru_ HO_410004.out))) (ja T26_)) (jr (bu_ BK409.out) hb) (ji T26_ hb);clear HO_15 HO_18 HO_19 HO_410000 HO_410001 HO_410002 HO_410003 HO_410004 BK409 HB;obtain⟨HO_15,HO_18,HO_19,HO_410000,HO_410001,HO_410002,HO_410003,HO_410004,HO428,BK409,HB⟩:=n_;clear hb ho0))
    have n_:=P11_ (jq HO_15.out) (jq HO_18.out) (Kd.S_drew HO_19.out) (jq HO_410000.out) (jq HO_410001.out) (Kd.S_drew HO_410002.out) (jq HO_410003.out) (jq HO_410004.out) (jq HO428.out) (jl BK409.out) (jG HB.out)
    clear HO_15 HO_18 HO_19 HO_410000 HO_410001 HO_410002 HO_410003 HO_410004 HO428 BK409 HB
    obtain⟨HO_15,HO_18,HO_19,HO_410000,HO_410001,HO_410002,HO_410003,HO_410004,HO428,BK409,HB⟩:=n_
    refine start_ (n:=12) (S:=fun w'=>w'.cell? ⟨gb409,0,none⟩=some (.slice Ao21 t384.length co21)∧w'.cell? ⟨gb409,1,none⟩=some (.slice Ao23 t387.length co23)∧w'.cell? ⟨gb409,2,none⟩=some (.slice Ao24 t390.length co24)∧w'.cell? ⟨gb409,3,none⟩=some (.slice Ao25 t393.length co25)∧w'.cell? ⟨gb409,4,none⟩=some (.slice Ao26 t396.length co26)) (ds:=[]) #[false,false,false,false,false,false,false,false,false,false,false,false] T4_ rfl rfl ⟨bc_ BK409.out 0,bc_ BK409.out 1,bc_ BK409.out 2,bc_ BK409.out 3,bc_ BK409.out 4⟩ (fun hHeld=>?_);refine with_tabW riffle_Turn.tab22 riffle_Turn.bits22 (fun HT_ HW_=>?_)
    generalize w114.drew=w115 at HO_15 HO_18 HO_19 HO_410000 HO_410001 HO_410002 HO_410003 HO_410004 HO428 BK409 HB hHeld ⊢
    refine pz_ 0 (some 113) ?_
    refine pz_ 1 (some 114) ?_
    refine pz_ 3 (some 116) ?_
    refine pz_ 5 (some 118) ?_
    refine tz5_ 2 (some 115) hHeld ?_
    refine oz_ 4 (some 117) (fun K hK=>?_)
    refine goes_ Try.func36 T4_ rfl #[.int .i64 a1] T0_ rfl rfl T17_ ?_
    with_reducible refine(braid_Bounds.calls k2 a1 t429 _ A56.out).mono ?_
    rintro e w116 ⟨v430,rfl,ho0,hb⟩
    refine⟨_,rfl,?_⟩
    have n_:=P12_ (jg (ru_ HO_15.out) (jf ho0) hb) (jg (ru_ HO_18.out) (jf ho0) hb) (jH (su_ HO_19.out) (jf ho0) hb) (jc (ru_ HO_410000.out) hb) (jc (ru_ HO_410001.out) hb) (jA (su_ HO_410002.out) hb) (jg (ru_ HO_410003.out) (jf ho0) hb) (jg (ru_ HO_410004.out) (jf ho0) hb) (jg (ru_ HO428.out) (jf ho0) hb) (jn (jk (jk (jk (jk (jk ho0 (jj (ru_ HO_15.out))) (jj (ru_ HO_18.out))) (jj (ru_ HO_410003.out))) (jj (ru_ HO_410004.out))) (jj (ru_ HO428.out))) (ja T26_)) (jr (bu_ BK409.out) hb) (ji T26_ hb)
    clear HO_15 HO_18 HO_19 HO_410000 HO_410001 HO_410002 HO_410003 HO_410004 HO428 BK409 HB
    obtain⟨HO_15,HO_18,HO_19,HO_410000,HO_410001,HO_410002,HO_410003,HO_410004,HO428,HO431,BK409,HB⟩:=n_
    (try clear hb);(try clear hk);(try clear ho0)
    obtain⟨Ao117,co117,eo117⟩:=jo HO431.out
    (first|subst eo117|(injection eo117 with f1_ f2_ f3_;have f4_:=f1_.symm;have f5_:=f3_.symm;clear f1_ f2_ f3_;subst f4_;subst f5_))
    obtain⟨Ao118,co118,eo118⟩:=jo HO428.out
    (first|subst eo118|(injection eo118 with f1_ f2_ f3_;have f4_:=f1_.symm;have f5_:=f3_.symm;clear f1_ f2_ f3_;subst f4_;subst f5_))
    refine hK.out _ _ ⟨bc_ BK409.out 0,bc_ BK409.out 1,bc_ BK409.out 2,bc_ BK409.out 3,bc_ BK409.out 4⟩ (fun hHeld=>?_)
    clear hK K
    refine norm_ (a':=?_) ?_ ?_
    rotate_left
    ·show Act.put _ (some 117) _=_
     simp only[Act.put,List.setIfInBounds_toArray,List.set_cons_zero,List.set_cons_succ,jD,jE]
     rfl
    refine oz_ 6 (some 119) (fun K hK=>?_)
    refine goes_ Try.func35 T4_ rfl #[.slice Ao23 t387.length co23,.slice Ao117 t429.length co117,.slice Ao118 t425.length co118] T0_ rfl rfl T17_ ?_
    with_reducible refine(draw_Turn.calls _ _ t387 _ _ t429 _ _ t425 t432 t433 _ ?side1 ?side2 ?side3 ?side4 ?side5 ?side6 A57.out).mono ?_
    (case side1=>exact cu_ ((jh HO_410001.out).2.2))
    (case side2=>exact(jh HO_410001.out).2.1)
    (case side3=>exact cu_ ((jh HO431.out).2.2))
    (case side4=>exact(jh HO431.out).2.1)
    (case side5=>exact cu_ ((jh HO428.out).2.2))
    (case side6=>exact(jh HO428.out).2.1)
    rintro e w119 ⟨v434,rfl,ho0,hb⟩
    refine⟨_,rfl,?_⟩
    have n_:=P13_ (jc (ru_ HO_15.out) hb) (jc (ru_ HO_18.out) hb) (jA (su_ HO_19.out) hb) (jg (ru_ HO_410000.out) (jf ho0) hb) (jg (ru_ HO_410001.out) (jf ho0) hb) (jH (su_ HO_410002.out) (jf ho0) hb) (jc (ru_ HO_410003.out) hb) (jc (ru_ HO_410004.out) hb) (jc (ru_ HO428.out) hb) (jc (ru_ HO431.out) hb) (jn (jk (jk ho0 (jj (ru_ HO_410000.out))) (jj (ru_ HO_410001.out))) (ja T26_)) (jr (bu_ BK409.out) hb) (ji T26_ hb)
    clear HO_15 HO_18 HO_19 HO_410000 HO_410001 HO_410002 HO_410003 HO_410004 HO428 HO431 BK409 HB
    obtain⟨HO_15,HO_18,HO_19,HO_410000,HO_410001,HO_410002,HO_410003,HO_410004,HO428,HO431,HO435,BK409,HB⟩:=n_
    (try clear hb);(try clear hk);(try clear ho0)
    refine hK.out _ _ ⟨bc_ BK409.out 0,bc_ BK409.out 1,bc_ BK409.out 2,bc_ BK409.out 3,bc_ BK409.out 4⟩ (fun hHeld=>?_)
    clear hK K
    refine norm_ (a':=?_) ?_ ?_
    rotate_left
    ·show Act.put _ (some 119) _=_
     simp only[Act.put,List.setIfInBounds_toArray,List.set_cons_zero,List.set_cons_succ,jD,jE]
     rfl
    refine pz_ 7 (some 112) ?_
    refine pz_ 8 (some 120) ?_
    refine pz_ 9 (some 121) ?_
    refine pz_ 10 (some 24) ?_
    refine pz_ 11 (some 17) ?_
    refine done_ (done_of HT_.out T4_) ?_
    try go_wp2
    go_ret2
    exact⟨_,T14_,T18_,T26_⟩
   rw[if_pos c58] at H
   obtain⟨c58b0,c58b1⟩:=ep_ c58
   clear c58
   obtain⟨y436,hy_⟩:∃ y_:List Int,y_=(([]:List Int)):=⟨_,rfl⟩
   replace H:(if y436.length+l0.length<140737488355328 then((some (y436 ++ l0:List Int)).bind fun y439=>(if 0≤(t384.length:Int) then(if(t384.length:Int)≤(y439.length:Int) then(riffle_Turn.l1 k2 x19_2 (cpy y439 (((t384.length:Int):Int).toNat) t432) (wrap64 ((t384.length:Int)+(cpn y439 (((t384.length:Int):Int).toNat) t432))) t393 (t393.length:Int) 0 t384 t387 t390 t393 t396) else(none)) else(none))) else(none))=some (r1,r2):=hyw_
   have Ny436:=am_ hy_
   clear hy_
   replace H:=ifa_ H;obtain⟨LMc59,H⟩:=H
   obtain⟨y439,hy_⟩:∃ y_:List Int,y_=(y436 ++ l0):=⟨_,rfl⟩
   replace H:(if 0≤(t384.length:Int) then(if(t384.length:Int)≤(y439.length:Int) then(riffle_Turn.l1 k2 x19_2 (cpy y439 (((t384.length:Int):Int).toNat) t432) (wrap64 ((t384.length:Int)+(cpn y439 (((t384.length:Int):Int).toNat) t432))) t393 (t393.length:Int) 0 t384 t387 t390 t393 t396) else(none)) else(none))=some (r1,r2):=hyw_
   have Ny439:=am_ hy_
   clear hy_
   replace H:=ifn_ H;obtain⟨c60,H⟩:=H
   have c60b0:=eq_true c60
   have c60b1:decide (0≤(t384.length:Int))=true:=decide_eq_true c60
   clear c60
   replace H:=ifn_ H;obtain⟨c61,H⟩:=H
   have c61b0:=eq_true c61
   have c61b1:decide ((t384.length:Int)≤(y439.length:Int))=true:=decide_eq_true c61
   clear c61
   obtain⟨y442,hy_⟩:∃ y_:List Int,y_=(y439.drop ((t384.length:Int):Int).toNat):=⟨_,rfl⟩
   replace H:(riffle_Turn.l1 k2 x19_2 (cpy y439 (((t384.length:Int):Int).toNat) t432) (wrap64 ((t384.length:Int)+(cpn y439 (((t384.length:Int):Int).toNat) t432))) t393 (t393.length:Int) 0 t384 t387 t390 t393 t396)=some (r1,r2):=hyw_
   have Ny442:=am_ hy_
   clear hy_
   obtain⟨y446,hy_⟩:∃ y_:List Int,y_=(cpy y439 (((t384.length:Int):Int).toNat) t432):=⟨_,rfl⟩
   replace H:(riffle_Turn.l1 k2 x19_2 y446 (wrap64 ((t384.length:Int)+(cpn y439 (((t384.length:Int):Int).toNat) t432))) t393 (t393.length:Int) 0 t384 t387 t390 t393 t396)=some (r1,r2):=hyw_
   have Ny446:=am_ hy_
   clear hy_
   have H':=am_ H
   clear H
   obtain⟨hcz62_0,hcz62_1,hcz62_2,hcz62_3,hcz62_4,hfz62_0,hfz62_1,hfz62_2,hfz62_3,hfz62_4⟩:=cz5_ BK409.out
   obtain⟨Ao63,co63,eo63⟩:=jo HO_18.out
   subst eo63
   obtain⟨Ao64,co64,eo64⟩:=jo HO_15.out
   subst eo64
   try go_wp2_with(first|(refine gc_ 34 ?_;refine gl_ (some 106) Try.func34 #[.slice Ao25 t393.length co25,.slice Ao63 x18_2.length co63,.slice Ao64 t402.length co64] ?_;(with_reducible refine(braid_Draws.calls k2 _ _ t393 _ _ x18_2 _ _ t402 t425 t426 _ ?side1 ?side2 ?side3 ?side4 ?side5 ?side6 A54.out).mono ?_);(case side1=>exact cu_ ((jh HO_410003.out).2.2));(case side2=>exact(jh HO_410003.out).2.1);(case side3=>exact cu_ ((jh HO_18.out).2.2));(case side4=>exact(jh HO_18.out).2.1);(case side5=>exact cu_ ((jh HO_15.out).2.2));(case side6=>exact(jh HO_15.out).2.1);rintro e w65 ⟨v427,rfl,ho0,hb⟩;refine⟨_,rfl,?_⟩;have n_:=P11_ (jg (ru_ HO_15.out) (jf ho0) hb) (jg (ru_ HO_18.out) (jf ho0) hb) (jH (su_ HO_19.out) (jf ho0) hb) (jc (ru_ HO_410000.out) hb) (jc (ru_ HO_410001.out) hb) (jA (su_ HO_410002.out) hb) (jg (ru_ HO_410003.out) (jf ho0) hb) (jg (ru_ HO_410004.out) (jf ho0) hb) (jn (jk (jk (jk (jk ho0 (jj (ru_ HO_15.out))) (jj (ru_ HO_18.out))) (jj (ru_ HO_410003.out))) (jj (ru_ HO_410004.out))) (ja T26_)) (jr (bu_ BK409.out) hb) (ji T26_ hb);clear HO_15 HO_18 HO_19 HO_410000 HO_410001 HO_410002 HO_410003 HO_410004 BK409 HB;obtain⟨HO_15,HO_18,HO_19,HO_410000,HO_410001,HO_410002,HO_410003,HO_410004,HO428,BK409,HB⟩:=n_;clear hb ho0))
   have n_:=P11_ (jq HO_15.out) (jq HO_18.out) (Kd.S_drew HO_19.out) (jq HO_410000.out) (jq HO_410001.out) (Kd.S_drew HO_410002.out) (jq HO_410003.out) (jq HO_410004.out) (jq HO428.out) (jl BK409.out) (jG HB.out)
   clear HO_15 HO_18 HO_19 HO_410000 HO_410001 HO_410002 HO_410003 HO_410004 HO428 BK409 HB
   obtain⟨HO_15,HO_18,HO_19,HO_410000,HO_410001,HO_410002,HO_410003,HO_410004,HO428,BK409,HB⟩:=n_
   refine start_ (n:=12) (S:=fun w'=>w'.cell? ⟨gb409,0,none⟩=some (.slice Ao21 t384.length co21)∧w'.cell? ⟨gb409,1,none⟩=some (.slice Ao23 t387.length co23)∧w'.cell? ⟨gb409,2,none⟩=some (.slice Ao24 t390.length co24)∧w'.cell? ⟨gb409,3,none⟩=some (.slice Ao25 t393.length co25)∧w'.cell? ⟨gb409,4,none⟩=some (.slice Ao26 t396.length co26)) (ds:=[]) #[false,false,false,false,false,false,false,false,false,false,false,false] T4_ rfl rfl ⟨bc_ BK409.out 0,bc_ BK409.out 1,bc_ BK409.out 2,bc_ BK409.out 3,bc_ BK409.out 4⟩ (fun hHeld=>?_);refine with_tabW riffle_Turn.tab22 riffle_Turn.bits22 (fun HT_ HW_=>?_)
   generalize w65.drew=w66 at HO_15 HO_18 HO_19 HO_410000 HO_410001 HO_410002 HO_410003 HO_410004 HO428 BK409 HB hHeld ⊢
   refine pz_ 0 (some 113) ?_
   refine pz_ 1 (some 114) ?_
   refine pz_ 3 (some 116) ?_
   refine pz_ 5 (some 118) ?_
   refine tz5_ 2 (some 115) hHeld ?_
   refine oz_ 4 (some 117) (fun K hK=>?_)
   refine goes_ Try.func36 T4_ rfl #[.int .i64 a1] T0_ rfl rfl T17_ ?_
   with_reducible refine(braid_Bounds.calls k2 a1 t429 _ A56.out).mono ?_
   rintro e w67 ⟨v430,rfl,ho0,hb⟩
   refine⟨_,rfl,?_⟩
   have n_:=P12_ (jg (ru_ HO_15.out) (jf ho0) hb) (jg (ru_ HO_18.out) (jf ho0) hb) (jH (su_ HO_19.out) (jf ho0) hb) (jc (ru_ HO_410000.out) hb) (jc (ru_ HO_410001.out) hb) (jA (su_ HO_410002.out) hb) (jg (ru_ HO_410003.out) (jf ho0) hb) (jg (ru_ HO_410004.out) (jf ho0) hb) (jg (ru_ HO428.out) (jf ho0) hb) (jn (jk (jk (jk (jk (jk ho0 (jj (ru_ HO_15.out))) (jj (ru_ HO_18.out))) (jj (ru_ HO_410003.out))) (jj (ru_ HO_410004.out))) (jj (ru_ HO428.out))) (ja T26_)) (jr (bu_ BK409.out) hb) (ji T26_ hb)
   clear HO_15 HO_18 HO_19 HO_410000 HO_410001 HO_410002 HO_410003 HO_410004 HO428 BK409 HB
   obtain⟨HO_15,HO_18,HO_19,HO_410000,HO_410001,HO_410002,HO_410003,HO_410004,HO428,HO431,BK409,HB⟩:=n_
   (try clear hb);(try clear hk);(try clear ho0)
   obtain⟨Ao68,co68,eo68⟩:=jo HO431.out
   (first|subst eo68|(injection eo68 with f1_ f2_ f3_;have f4_:=f1_.symm;have f5_:=f3_.symm;clear f1_ f2_ f3_;subst f4_;subst f5_))
   obtain⟨Ao69,co69,eo69⟩:=jo HO428.out
   (first|subst eo69|(injection eo69 with f1_ f2_ f3_;have f4_:=f1_.symm;have f5_:=f3_.symm;clear f1_ f2_ f3_;subst f4_;subst f5_))
   refine hK.out _ _ ⟨bc_ BK409.out 0,bc_ BK409.out 1,bc_ BK409.out 2,bc_ BK409.out 3,bc_ BK409.out 4⟩ (fun hHeld=>?_)
   clear hK K
   refine norm_ (a':=?_) ?_ ?_
   rotate_left
   ·show Act.put _ (some 117) _=_
    simp only[Act.put,List.setIfInBounds_toArray,List.set_cons_zero,List.set_cons_succ,jD,jE]
    rfl
   refine oz_ 6 (some 119) (fun K hK=>?_)
   refine goes_ Try.func35 T4_ rfl #[.slice Ao23 t387.length co23,.slice Ao68 t429.length co68,.slice Ao69 t425.length co69] T0_ rfl rfl T17_ ?_
   with_reducible refine(draw_Turn.calls _ _ t387 _ _ t429 _ _ t425 t432 t433 _ ?side1 ?side2 ?side3 ?side4 ?side5 ?side6 A57.out).mono ?_
   (case side1=>exact cu_ ((jh HO_410001.out).2.2))
   (case side2=>exact(jh HO_410001.out).2.1)
   (case side3=>exact cu_ ((jh HO431.out).2.2))
   (case side4=>exact(jh HO431.out).2.1)
   (case side5=>exact cu_ ((jh HO428.out).2.2))
   (case side6=>exact(jh HO428.out).2.1)
   rintro e w70 ⟨v434,rfl,ho0,hb⟩
   refine⟨_,rfl,?_⟩
   have n_:=P13_ (jc (ru_ HO_15.out) hb) (jc (ru_ HO_18.out) hb) (jA (su_ HO_19.out) hb) (jg (ru_ HO_410000.out) (jf ho0) hb) (jg (ru_ HO_410001.out) (jf ho0) hb) (jH (su_ HO_410002.out) (jf ho0) hb) (jc (ru_ HO_410003.out) hb) (jc (ru_ HO_410004.out) hb) (jc (ru_ HO428.out) hb) (jc (ru_ HO431.out) hb) (jn (jk (jk ho0 (jj (ru_ HO_410000.out))) (jj (ru_ HO_410001.out))) (ja T26_)) (jr (bu_ BK409.out) hb) (ji T26_ hb)
   clear HO_15 HO_18 HO_19 HO_410000 HO_410001 HO_410002 HO_410003 HO_410004 HO428 HO431 BK409 HB
   obtain⟨HO_15,HO_18,HO_19,HO_410000,HO_410001,HO_410002,HO_410003,HO_410004,HO428,HO431,HO435,BK409,HB⟩:=n_
   (try clear hb);(try clear hk);(try clear ho0)
   refine hK.out _ _ ⟨bc_ BK409.out 0,bc_ BK409.out 1,bc_ BK409.out 2,bc_ BK409.out 3,bc_ BK409.out 4⟩ (fun hHeld=>?_)
   clear hK K
   refine norm_ (a':=?_) ?_ ?_
   rotate_left
   ·show Act.put _ (some 119) _=_
    simp only[Act.put,List.setIfInBounds_toArray,List.set_cons_zero,List.set_cons_succ,jD,jE]
    rfl
   refine pz_ 7 (some 112) ?_
   refine pz_ 8 (some 120) ?_
   refine pz_ 9 (some 121) ?_
   refine pz_ 10 (some 24) ?_
   refine pz_ 11 (some 17) ?_
   refine done_ (done_of HT_.out T4_) ?_
   try go_wp2_with(first|(refine gd_ 125 ?_;(try(refine gate_guard T0_ ?_;dsimp only));refine Kd.R_lit (jb .u8) _ 5 ?hg (N:=125) ?hd (xs:=([]:List Int)) (inner:=[]) (ok:=fun _=>True) (okp:=fun _=>True) ?hr ?hp (fun _ hk=>hk) trivial (Below.refl _ _) (Nat.le_refl _) T1_ ?_;(case hd=>rfl);(case hg=>rfl);(case hr=>first|(go_simp;done)|(go_simp;rfl));(case hp=>exact(Reps.none _ _));intro v437 w71 ho72 hb hg_ hnew_;clear hg_ hnew_;(first|rw[←Ny436.out] at ho72|(simp only[Int.reduceToNat] at ho72;rw[←Ny436.out] at ho72));have n_:=P14_ (jc (ru_ HO_15.out) hb) (jc (ru_ HO_18.out) hb) (jA (su_ HO_19.out) hb) (jg (ru_ HO_410000.out) (jf ho72) hb) (jg (ru_ HO_410001.out) (jf ho72) hb) (jH (su_ HO_410002.out) (jf ho72) hb) (jc (ru_ HO_410003.out) hb) (jc (ru_ HO_410004.out) hb) (jc (ru_ HO428.out) hb) (jc (ru_ HO431.out) hb) (jg (ru_ HO435.out) (jf ho72) hb) (jn (jk (jk (jk ho72 (jj (ru_ HO_410000.out))) (jj (ru_ HO_410001.out))) (jj (ru_ HO435.out))) (ja T26_)) (jr (bu_ BK409.out) hb) (ji T26_ hb);clear HO_15 HO_18 HO_19 HO_410000 HO_410001 HO_410002 HO_410003 HO_410004 HO428 HO431 HO435 BK409 HB;obtain⟨HO_15,HO_18,HO_19,HO_410000,HO_410001,HO_410002,HO_410003,HO_410004,HO428,HO431,HO435,HO438,BK409,HB⟩:=n_;clear hb ho72)|(refine gb_ .append #[.tmp 125,.tmp 126] ?_;(try(refine gate_guard T0_ ?_;dsimp only));at_builtin;refine Kd.R_append_rows (jb .u8) (w0:=w) w.heap.size rfl (.tmp 125) (.tmp 126) 23 5 (.int .u8 0) 1 rfl Try.underlying23 info5 rfl T3_ T2_ v437 y436 l0 _ _ _ (fun k_=>ne_ k_ (.slice Ao21 t384.length co21)∧ne_ k_ (.slice Ao23 t387.length co23)∧ne_ k_ v434) (fun _=>False) rfl rfl ?aO ?aR (fun _ _ h=>h) (fun _ h=>h.elim) ?aF ?aB ?aS ?aL ?_;(case aR=>exact cu_ (jv HR0.out HB.out));(case aB=>exact T26_);(case aF=>exact(fun k_ hk=>⟨jF (jj (ru_ HO_410000.out)) k_ hk,jF (jj (ru_ HO_410001.out)) k_ hk,jF (jj (ru_ HO435.out)) k_ hk⟩));(case aO=>exact(ru_ (jd HO438.out (fun _ hk=>⟨hk.1.1.2,⟨hk.1.2,hk.2⟩⟩))));(case aS=>exact(ja T26_));(case aL=>have:=LMc59.out;omega);intro v440 w73 ho hb hg hat;rw[←Ny439.out] at ho;have n_:=P14_ (jx (ru_ HO_15.out) (jz (ru_ HO438.out)) T3_ hg) (jx (ru_ HO_18.out) (jz (ru_ HO438.out)) T3_ hg) (Kd.S_over' (su_ HO_19.out) (jz (ru_ HO438.out)) T3_ hg) (jw (ok:=(fun k_=>ne_ k_ (.slice Ao23 t387.length co23)∧ne_ k_ v434)) (ru_ HO_410000.out) hg hat) (jw (ok:=(fun k_=>ne_ k_ (.slice Ao21 t384.length co21)∧ne_ k_ v434)) (ru_ HO_410001.out) hg hat) (Kd.S_after (ok:=(fun k_=>ne_ k_ (.slice Ao21 t384.length co21)∧ne_ k_ (.slice Ao23 t387.length co23)∧ne_ k_ v434)) (su_ (jB HO_410002.out (fun _ hk=>⟨⟨hk.1.1.1,⟨hk.1.1.2,hk.1.2⟩⟩,hk.2⟩))) hg hat) (jx (ru_ HO_410003.out) (jz (ru_ HO438.out)) T3_ hg) (jx (ru_ HO_410004.out) (jz (ru_ HO438.out)) T3_ hg) (blk_grown (g:=gb409) (o:=.cells #[.slice Ao21 t384.length co21,.slice Ao23 t387.length co23,.slice Ao24 t390.length co24,.slice Ao25 t393.length co25,.slice Ao26 t396.length co26] 57 (0,0)) (bu_ BK409.out) hg (Kd.R_ne HO438.out BK409.out T3_)) (jx (ru_ HO428.out) (jz (ru_ HO438.out)) T3_ hg) (jx (ru_ HO431.out) (jz (ru_ HO438.out)) T3_ hg) (jw (ok:=(fun k_=>ne_ k_ (.slice Ao21 t384.length co21)∧ne_ k_ (.slice Ao23 t387.length co23))) (ru_ (jd HO435.out (fun _ hk=>⟨⟨hk.1.1.2,hk.1.2⟩,hk.2⟩))) hg hat) (hb) (ho);clear HO_15 HO_18 HO_19 HO_410000 HO_410001 HO_410002 HO_410003 HO_410004 BK409 HO428 HO431 HO435 HB HO438;obtain⟨HO_15,HO_18,HO_19,HO_410000,HO_410001,HO_410002,HO_410003,HO_410004,BK409,HO428,HO431,HO435,HB,HO441⟩:=n_;clear ho hb hg hat;obtain⟨hcz74_0,hcz74_1,hcz74_2,hcz74_3,hcz74_4,hfz74_0,hfz74_1,hfz74_2,hfz74_3,hfz74_4⟩:=cz5_ BK409.out;obtain⟨Ao76,co76,eo76⟩:=jo HO441.out;subst eo76;have q75:((t384.length:Int):Int)≤((y439.length:Int):Int):=od_;obtain⟨i075,hi075,_,hsz75,_⟩:=info_parts info5;have hroom75:y439.length≤co76:=(jh HO441.out).2.1;have hC75:Kd.C (jb .u8) _ Ao76 y439.length y439:=(jh HO441.out).2.2;have q075:(0:Int)≤((t384.length:Int):Int):=od_;have hcut75:=cut_from (P:=Try.prog) 23 5 .i64 Try.underlying23 hi075 1 hsz75 Ao76 y439.length co76 (t384.length:Int) q075 q75;have hr75:=Kd.C_drop (m:=((t384.length:Int):Int).toNat) (c:=co76) hC75 T2_ hroom75;obtain⟨A75,hA75⟩:∃ A1,A1=(if co76=((t384.length:Int):Int).toNat then Ao76 else(Ao76:Option Addr).map (·.add (((t384.length:Int):Int).toNat*1))):=⟨_,rfl⟩;obtain⟨c75,hc75⟩:∃ c1,c1=co76-((t384.length:Int):Int).toNat:=⟨_,rfl⟩;have hy75:y442.length=y439.length-((t384.length:Int):Int).toNat:=(by rw[Ny442.out,List.length_drop] <;> omega);rw[show(y439).drop ((t384.length:Int):Int).toNat=y442 from Ny442.out.symm] at hr75;replace hr75:Kd.C (jb .u8) _ A75 y442.length y442:=(by rw[hA75];exact hr75);rw[←hy75,←hA75,←hc75] at hcut75;have HR445:=am_ hr75;have HC445:=am_ (show y442.length≤c75 from by rw[hy75,hc75];exact Nat.sub_le_sub_right hroom75 _);clear hr75 hC75 hroom75 hi075 hsz75 hc75;have KY75:=am_ hy75;have KA75:=am_ hA75;clear hy75 hA75;have KL75:=am_ (show((t384.length:Int):Int).toNat≤y439.length from by omega);replace q75:=eq_true q75;obtain⟨Ao77,co77,eo77⟩:=jo HO435.out;subst eo77)|(refine gb_ .copy #[.tmp 135,.tmp 136] ?_;(try(refine gate_guard T0_ ?_;dsimp only));have hyc_:=KY75.out;have hac_:=KA75.out;have hlc_:((t384.length:Int):Int)≤(y439.length:Int):=(od_);have h0c_:(0:Int)≤((t384.length:Int):Int):=(od_);refine Kd.R_copyin (w0:=w) w.heap.size rfl (.tmp 135) (.tmp 136) 23 5 rfl Try.underlying23 T4_ Ao76 y439.length co76 y439 t432 (((t384.length:Int):Int).toNat) _ _ _ _ _ _ rfl rfl hyc_ hac_ ?hoff (ru_ HO441.out) ?hR ?hB ?_;(case hoff=>omega);(case hR=>exact cu_ ((jh HO435.out).2.2));(case hB=>exact T26_);intro w78 ho hb hg;clear hyc_ hac_ hlc_ h0c_;rw[←Ny446.out] at ho;have n_:=P14_ (jx (v:=(.slice Ao76 y439.length co76)) (ru_ HO_15.out) (jz HO441.out) T3_ hg) (jx (v:=(.slice Ao76 y439.length co76)) (ru_ HO_18.out) (jz HO441.out) T3_ hg) (Kd.S_over' (v:=(.slice Ao76 y439.length co76)) (su_ HO_19.out) (jz HO441.out) T3_ hg) (jw (v:=(.slice Ao76 y439.length co76)) (v1:=(.slice Ao76 y439.length co76)) (ok:=(fun k_=>ne_ k_ (.slice Ao23 t387.length co23)∧ne_ k_ (.slice Ao77 t432.length co77))) (ru_ HO_410000.out) hg (.inl rfl)) (jw (v:=(.slice Ao76 y439.length co76)) (v1:=(.slice Ao76 y439.length co76)) (ok:=(fun k_=>ne_ k_ (.slice Ao21 t384.length co21)∧ne_ k_ (.slice Ao77 t432.length co77))) (ru_ HO_410001.out) hg (.inl rfl)) (Kd.S_after (v:=(.slice Ao76 y439.length co76)) (v1:=(.slice Ao76 y439.length co76)) (ok:=(fun k_=>ne_ k_ (.slice Ao21 t384.length co21)∧ne_ k_ (.slice Ao23 t387.length co23)∧ne_ k_ (.slice Ao77 t432.length co77))) (su_ HO_410002.out) hg (.inl rfl)) (jx (v:=(.slice Ao76 y439.length co76)) (ru_ HO_410003.out) (jz HO441.out) T3_ hg) (jx (v:=(.slice Ao76 y439.length co76)) (ru_ HO_410004.out) (jz HO441.out) T3_ hg) (blk_grown (g:=gb409) (o:=.cells #[.slice Ao21 t384.length co21,.slice Ao23 t387.length co23,.slice Ao24 t390.length co24,.slice Ao25 t393.length co25,.slice Ao26 t396.length co26] 57 (0,0)) (bu_ BK409.out) hg (Kd.R_ne HO441.out BK409.out T3_)) (jx (v:=(.slice Ao76 y439.length co76)) (ru_ HO428.out) (jz HO441.out) T3_ hg) (jx (v:=(.slice Ao76 y439.length co76)) (ru_ HO431.out) (jz HO441.out) T3_ hg) (jw (v:=(.slice Ao76 y439.length co76)) (v1:=(.slice Ao76 y439.length co76)) (ok:=(fun k_=>ne_ k_ (.slice Ao21 t384.length co21)∧ne_ k_ (.slice Ao23 t387.length co23))) (ru_ HO435.out) hg (.inl rfl)) (ho) (hb);clear HO_15 HO_18 HO_19 HO_410000 HO_410001 HO_410002 HO_410003 HO_410004 BK409 HO428 HO431 HO435 HO441 HB;obtain⟨HO_15,HO_18,HO_19,HO_410000,HO_410001,HO_410002,HO_410003,HO_410004,BK409,HO428,HO431,HO435,HO441,HB⟩:=n_;clear ho hb hg;obtain⟨hcz79_0,hcz79_1,hcz79_2,hcz79_3,hcz79_4,hfz79_0,hfz79_1,hfz79_2,hfz79_3,hfz79_4⟩:=cz5_ BK409.out))
   go_loopg [26,142] k2 (fun kq v26 v142 w'=>∃ (x25_3:List Int) (x26_3:Int) (x142_3:Int),v26 = .int .i64 x26_3∧v142 = .int .i64 x142_3∧Aside0 (riffle_Turn.l1 kq x19_2 x25_3 x26_3 t393 (t393.length:Int) x142_3 t384 t387 t390 t393 t396=some (r1,r2))∧Aside0 (kq≤k2)∧Aside0 (Kd.S (jy 3 (jb .i64)) 24 w' w.heap.size (fun k_=>ne_ k_ (.slice Ao25 t393.length co25)∧ne_ k_ (.slice Ao25 t393.length co25)∧ne_ k_ (.slice Ao26 t396.length co26)) v414 x19_2)∧Aside0 (ju (jb .u8) 5 w' w.heap.size (fun k_=>ne_ k_ (.slice Ao21 t384.length co21)∧ne_ k_ (.slice Ao23 t387.length co23)) (.slice Ao76 y439.length co76) x25_3)∧Aside0 (ju (jb .i64) 3 w' w.heap.size (fun k_=>ne_ k_ (.slice Ao26 t396.length co26)) (.slice Ao25 t393.length co25) t393)∧Aside0 (ju (jb .u8) 5 w' w.heap.size (fun k_=>ne_ k_ (.slice Ao76 y439.length co76)∧ne_ k_ (.slice Ao23 t387.length co23)) (.slice Ao21 t384.length co21) t384)∧Aside0 (ju (jb .u8) 5 w' w.heap.size (fun k_=>ne_ k_ (.slice Ao76 y439.length co76)∧ne_ k_ (.slice Ao21 t384.length co21)) (.slice Ao23 t387.length co23) t387)∧Aside0 (Kd.S (jy 5 (jb .u8)) 23 w' w.heap.size (fun k_=>ne_ k_ (.slice Ao76 y439.length co76)∧ne_ k_ (.slice Ao21 t384.length co21)∧ne_ k_ (.slice Ao23 t387.length co23)) (.slice Ao24 t390.length co24) t390)∧Aside0 (ju (jb .i64) 3 w' w.heap.size (fun k_=>ne_ k_ (.slice Ao26 t396.length co26)) (.slice Ao25 t393.length co25) t393)∧Aside0 (ju (jb .i64) 3 w' w.heap.size (fun k_=>ne_ k_ (.slice Ao25 t393.length co25)∧ne_ k_ (.slice Ao25 t393.length co25)) (.slice Ao26 t396.length co26) t396)∧Aside0 (w'.heap[gb409]? = some (.cells #[(.slice Ao21 t384.length co21),(.slice Ao23 t387.length co23),(.slice Ao24 t390.length co24),(.slice Ao25 t393.length co25),(.slice Ao26 t396.length co26)] 57 (0,0)))∧Aside0 (Below w.heap.size w w'))
   case atStart=>exact⟨(y446),(wrap64 ((t384.length:Int)+(cpn y439 (((t384.length:Int):Int).toNat) t432))),(0),T9_,T9_,H',⟨Nat.le_refl _⟩,⟨su_ (jB HO_19.out (fun _ hk=>⟨hk.1.1.2.2.1,⟨hk.1.1.2.2.1,hk.1.1.2.2.2⟩⟩))⟩,⟨ru_ (jd HO441.out (fun _ hk=>⟨hk.1,hk.2.1⟩))⟩,⟨ru_ (jd HO_410003.out (fun _ hk=>hk.1.1.2.2))⟩,⟨ru_ (jd HO_410000.out (fun _ hk=>⟨hk.2,hk.1.1⟩))⟩,⟨ru_ (jd HO_410001.out (fun _ hk=>⟨hk.2,hk.1.1⟩))⟩,⟨su_ (jB HO_410002.out (fun _ hk=>⟨hk.2,⟨hk.1.1,hk.1.2.1⟩⟩))⟩,⟨ru_ (jd HO_410003.out (fun _ hk=>hk.1.1.2.2))⟩,⟨ru_ (jd HO_410004.out (fun _ hk=>⟨hk.1.1.2.2,hk.1.1.2.2⟩))⟩,⟨bu_ BK409.out⟩,⟨T26_⟩⟩
   clear H'
   (try clear c1);(try clear c3);(try clear c32);(try clear c32b0);(try clear c55);(try clear c55b0 c55b1);(try clear c58);(try clear c58b0 c58b1);(try clear c60);(try clear c60b0 c60b1);(try clear c61);(try clear c61b0 c61b1);(try clear c75);(try clear q75);(try clear hcz62_0 hcz62_1 hcz62_2 hcz62_3 hcz62_4 hfz62_0 hfz62_1 hfz62_2 hfz62_3 hfz62_4);(try clear hcz74_0 hcz74_1 hcz74_2 hcz74_3 hcz74_4 hfz74_0 hfz74_1 hfz74_2 hfz74_3 hfz74_4);(try clear hcz79_0 hcz79_1 hcz79_2 hcz79_3 hcz79_4 hfz79_0 hfz79_1 hfz79_2 hfz79_3 hfz79_4);(try clear q075);(try clear BK409)
   obtain⟨x25_3,x26_3,x142_3,rfl,rfl,HA,HK3,HO_19,HO_25,HO_140,HO_410000,HO_410001,HO_410002,HO_410003,HO_410004,BK409,HB⟩:=hrel
   have hl25_3:=(jh HO_25.out).1
   rw[hl25_3] at HO_25
   (try simp only[hl25_3])
   (try simp only[hl25_3] at BK409)
   (try simp only[hl25_3] at HO_19)
   (try simp only[hl25_3] at HO_140)
   (try simp only[hl25_3] at HO_410000)
   (try simp only[hl25_3] at HO_410001)
   (try simp only[hl25_3] at HO_410002)
   (try simp only[hl25_3] at HO_410003)
   (try simp only[hl25_3] at HO_410004)
   cases gk with
   | zero=>exact absurd HA.out (by simp[riffle_Turn.l1])
   | succ k3 =>
    have H:=HA.out
    clear HA
    simp only[riffle_Turn.l1] at H
    by_cases c80:x142_3<(t393.length:Int)
    rotate_left
    ·rw[if_neg c80] at H
     have c80b0:=decide_eq_false c80
     (try(have c80b0_:=c80b0;simp only[hl25_3] at c80b0_))
     clear c80
     obtain⟨rfl,rfl⟩:=sj2_ H
     go_wp2
     go_ret2
     exact⟨_,T14_,ru_ (jd HO_25.out (fun _ hk=>trivial)),T26_⟩
    rw[if_pos c80] at H
    have c80b0:=decide_eq_true c80
    (try(have c80b0_:=c80b0;simp only[hl25_3] at c80b0_))
    clear c80
    replace H:=ifn_ H;obtain⟨c81,H⟩:=H
    have c81b0:=decide_eq_true c81
    (try(have c81b0_:=c81b0;simp only[hl25_3] at c81b0_))
    clear c81
    replace H:=ifn_ H;obtain⟨c82,H⟩:=H
    have c82b0:=decide_eq_true c82
    (try(have c82b0_:=c82b0;simp only[hl25_3] at c82b0_))
    clear c82
    replace H:=ifn_ H;obtain⟨c83,H⟩:=H
    have c83b0:=decide_eq_true c83
    (try(have c83b0_:=c83b0;simp only[hl25_3] at c83b0_))
    clear c83
    replace H:=Option.bind_eq_some_iff.mp H
    obtain⟨⟨t451,t452⟩,A840,H⟩:=H
    try dsimp only at H
    have A84:=am_ A840
    clear A840
    by_cases c85:t452=0
    rotate_left
    ·rw[if_neg c85] at H
     obtain⟨c85b0,c85b1⟩:=en_ c85
     obtain⟨rfl,rfl⟩:=sj2_ H
     obtain⟨ad449,e449,hx449_0,p449,q449⟩:=ai_ (jh HO_140.out).2.2 x142_3
     cases e449
     obtain⟨Ao109,co109,eo109⟩:=Kd.S_slice HO_19.out
     subst eo109
     have p450:0≤(x142_3:Int):=od_
     have q450:x142_3<(x19_2.length:Int):=od_
     obtain⟨ad450,A450_0,c450_0,e450,hx450_0,hl450_0,hi450_0⟩:=at_L3 (jK HO_19.out).2.2 x142_3 p450 q450
     cases e450
     obtain⟨ce450,hce450,hMe450,hcc450⟩:=Kd.S_get HO_19.out [] x142_3 p450 T11_
     obtain⟨ve450_0,rfl,ge450_0⟩:=hMe450
     have hv450_0:=hcc450 0 _ rfl
     rw[Nat.add_zero,show((jy 3 (jb .i64))).sz=1 from rfl,Nat.mul_one] at hv450_0
     replace hv450_0:=Option.some.inj (hv450_0.symm.trans hx450_0)
     rw[hv450_0] at ge450_0
     have HL450_0:=am_ (show ju (jb .i64) 3 _ _ _ _ (rd_L3 x19_2 x142_3) from ge450_0)
     clear hv450_0 ge450_0
     have HX450_0:=am_ hx450_0
     clear hcc450 hce450
     have HR450_0:=am_ hi450_0
     have HC450_0:=am_ hl450_0
     clear hi450_0 hl450_0
     replace p450:=eq_true p450
     replace q450:=eq_true q450
     go_wp2_with(first|(refine gc_ 37 ?_;refine gl_ (some 152) Try.func37 #[.slice A450_0 (rd_L3 x19_2 x142_3).length c450_0] ?_;(with_reducible refine(perm_Draws.calls k3 _ _ (rd_L3 x19_2 x142_3) t451 t452 _ ?side1 ?side2 A84.out).mono ?_);(case side1=>exact cu_ HR450_0.out);(case side2=>exact HC450_0.out);rintro e w110 ⟨v453,rfl,ho0,hb⟩;refine⟨_,rfl,?_⟩;have n_:=P14_ (jH (su_ HO_19.out) (jf ho0) hb) (jc (ru_ HO_25.out) hb) (jg (ru_ HO_140.out) (jf ho0) hb) (jc (ru_ HO_410000.out) hb) (jc (ru_ HO_410001.out) hb) (jA (su_ HO_410002.out) hb) (jg (ru_ HO_410003.out) (jf ho0) hb) (jg (ru_ HO_410004.out) (jf ho0) hb) (jg (ru_ HL450_0.out) (jf ho0) hb) (jn (jk (jk (jk (jk ho0 (jj (ru_ HO_140.out))) (jj (ru_ HO_410003.out))) (jj (ru_ HO_410004.out))) (jj (ru_ HL450_0.out))) (ja T26_)) (jr (bu_ BK409.out) hb) (jv (cu_ HR450_0.out) hb) (pw_cell_below hb HX450_0.out) (ji T26_ hb);clear HO_19 HO_25 HO_140 HO_410000 HO_410001 HO_410002 HO_410003 HO_410004 HL450_0 BK409 HR450_0 HX450_0 HB;obtain⟨HO_19,HO_25,HO_140,HO_410000,HO_410001,HO_410002,HO_410003,HO_410004,HL450_0,HO454,BK409,HR450_0,HX450_0,HB⟩:=n_;clear hb ho0))
     go_ret2
     exact⟨_,T14_,T18_,T26_⟩
    rw[if_pos c85] at H
    obtain⟨c85b0,c85b1⟩:=ep_ c85
    clear c85
    replace H:=ifn_ H;obtain⟨c86,H⟩:=H
    have c86b0:=decide_eq_true c86
    (try(have c86b0_:=c86b0;simp only[hl25_3] at c86b0_))
    clear c86
    replace H:=Option.bind_eq_some_iff.mp H
    obtain⟨t456,A870,H⟩:=H
    try dsimp only at H
    have A87:=am_ A870
    clear A870
    replace H:=Option.bind_eq_some_iff.mp H
    obtain⟨⟨t459,t460⟩,A880,H⟩:=H
    try dsimp only at H
    have A88:=am_ A880
    clear A880
    by_cases c89:t460=0
    rotate_left
    ·rw[if_neg c89] at H
     obtain⟨c89b0,c89b1⟩:=en_ c89
     obtain⟨rfl,rfl⟩:=sj2_ H
     obtain⟨ad449,e449,hx449_0,p449,q449⟩:=ai_ (jh HO_140.out).2.2 x142_3
     cases e449
     obtain⟨Ao102,co102,eo102⟩:=Kd.S_slice HO_19.out
     subst eo102
     have p450:0≤(x142_3:Int):=od_
     have q450:x142_3<(x19_2.length:Int):=od_
     obtain⟨ad450,A450_0,c450_0,e450,hx450_0,hl450_0,hi450_0⟩:=at_L3 (jK HO_19.out).2.2 x142_3 p450 q450
     cases e450
     obtain⟨ce450,hce450,hMe450,hcc450⟩:=Kd.S_get HO_19.out [] x142_3 p450 T11_
     obtain⟨ve450_0,rfl,ge450_0⟩:=hMe450
     have hv450_0:=hcc450 0 _ rfl
     rw[Nat.add_zero,show((jy 3 (jb .i64))).sz=1 from rfl,Nat.mul_one] at hv450_0
     replace hv450_0:=Option.some.inj (hv450_0.symm.trans hx450_0)
     rw[hv450_0] at ge450_0
     have HL450_0:=am_ (show ju (jb .i64) 3 _ _ _ _ (rd_L3 x19_2 x142_3) from ge450_0)
     clear hv450_0 ge450_0
     have HX450_0:=am_ hx450_0
     clear hcc450 hce450
     have HR450_0:=am_ hi450_0
     have HC450_0:=am_ hl450_0
     clear hi450_0 hl450_0
     replace p450:=eq_true p450
     replace q450:=eq_true q450
     try go_wp2_with(first|(refine gc_ 37 ?_;refine gl_ (some 152) Try.func37 #[.slice A450_0 (rd_L3 x19_2 x142_3).length c450_0] ?_;(with_reducible refine(perm_Draws.calls k3 _ _ (rd_L3 x19_2 x142_3) t451 t452 _ ?side1 ?side2 A84.out).mono ?_);(case side1=>exact cu_ HR450_0.out);(case side2=>exact HC450_0.out);rintro e w103 ⟨v453,rfl,ho0,hb⟩;refine⟨_,rfl,?_⟩;have n_:=P14_ (jH (su_ HO_19.out) (jf ho0) hb) (jc (ru_ HO_25.out) hb) (jg (ru_ HO_140.out) (jf ho0) hb) (jc (ru_ HO_410000.out) hb) (jc (ru_ HO_410001.out) hb) (jA (su_ HO_410002.out) hb) (jg (ru_ HO_410003.out) (jf ho0) hb) (jg (ru_ HO_410004.out) (jf ho0) hb) (jg (ru_ HL450_0.out) (jf ho0) hb) (jn (jk (jk (jk (jk ho0 (jj (ru_ HO_140.out))) (jj (ru_ HO_410003.out))) (jj (ru_ HO_410004.out))) (jj (ru_ HL450_0.out))) (ja T26_)) (jr (bu_ BK409.out) hb) (jv (cu_ HR450_0.out) hb) (pw_cell_below hb HX450_0.out) (ji T26_ hb);clear HO_19 HO_25 HO_140 HO_410000 HO_410001 HO_410002 HO_410003 HO_410004 HL450_0 BK409 HR450_0 HX450_0 HB;obtain⟨HO_19,HO_25,HO_140,HO_410000,HO_410001,HO_410002,HO_410003,HO_410004,HL450_0,HO454,BK409,HR450_0,HX450_0,HB⟩:=n_;clear hb ho0))
     have n_:=P13_ (Kd.S_drew HO_19.out) (jq HO_25.out) (jq HO_140.out) (jq HO_410000.out) (jq HO_410001.out) (Kd.S_drew HO_410002.out) (jq HO_410003.out) (jq HO_410004.out) (jq HL450_0.out) (jq HO454.out) (jl BK409.out) (Kd.C_drew HR450_0.out) (jG HB.out)
     clear HO_19 HO_25 HO_140 HO_410000 HO_410001 HO_410002 HO_410003 HO_410004 HL450_0 HO454 BK409 HR450_0 HB
     obtain⟨HO_19,HO_25,HO_140,HO_410000,HO_410001,HO_410002,HO_410003,HO_410004,HL450_0,HO454,BK409,HR450_0,HB⟩:=n_
     have p455:0≤(x142_3:Int):=od_
     have q455:x142_3<(t390.length:Int):=od_
     obtain⟨ad455,A455_0,c455_0,e455,hx455_0,hl455_0,hi455_0⟩:=at_L2 (jK HO_410002.out).2.2 x142_3 p455 q455
     cases e455
     obtain⟨ce455,hce455,hMe455,hcc455⟩:=Kd.S_get HO_410002.out [] x142_3 p455 (by first|exact q455|exact od_|(have e_:=(jK HO_410002.out).1;omega))
     obtain⟨ve455_0,rfl,ge455_0⟩:=hMe455
     have hv455_0:=hcc455 0 _ rfl
     rw[Nat.add_zero,show((jy 5 (jb .u8))).sz=1 from rfl,Nat.mul_one] at hv455_0
     replace hv455_0:=Option.some.inj (hv455_0.symm.trans hx455_0)
     rw[hv455_0] at ge455_0
     have HL455_0:=am_ (show ju (jb .u8) 5 _ _ _ _ (rd_L2 t390 x142_3) from ge455_0)
     clear hv455_0 ge455_0
     have HX455_0:=am_ hx455_0
     clear hcc455 hce455
     have HR455_0:=am_ hi455_0
     have HC455_0:=am_ hl455_0
     clear hi455_0 hl455_0
     replace p455:=eq_true p455
     replace q455:=eq_true q455
     refine start_ (n:=15) (S:=fun w'=>w'.cell? ⟨gb409,0,none⟩=some (.slice Ao21 t384.length co21)∧w'.cell? ⟨gb409,1,none⟩=some (.slice Ao23 t387.length co23)∧w'.cell? ⟨gb409,2,none⟩=some (.slice (some ad455) t390.length co24)∧w'.cell? ⟨gb409,3,none⟩=some (.slice (some ad449) t393.length co25)∧w'.cell? ⟨gb409,4,none⟩=some (.slice Ao26 t396.length co26)∧w'.cell? (ad455.add (x142_3).toNat)=some (.slice A455_0 (rd_L2 t390 x142_3).length c455_0)) (ds:=[]) #[false,false,false,false,false,false,false,false,false,false,false,false,false,false,false] T4_ rfl rfl ⟨bc_ BK409.out 0,bc_ BK409.out 1,bc_ BK409.out 2,bc_ BK409.out 3,bc_ BK409.out 4,hx455_0⟩ (fun hHeld=>?_);refine with_tabW riffle_Turn.tab34 riffle_Turn.bits34 (fun HT_ HW_=>?_)
     generalize w103.drew=w104 at HO_19 HO_25 HO_140 HO_410000 HO_410001 HO_410002 HO_410003 HO_410004 HL450_0 HO454 BK409 HR450_0 HB HL455_0 HR455_0 HX455_0 hx455_0 hHeld ⊢
     refine pz_ 0 (some 159) ?_
     refine pz_ 1 (some 160) ?_
     refine pz_ 3 (some 162) ?_
     refine pz_ 6 (some 165) ?_
     refine pz_ 8 (some 167) ?_
     refine tz6_ 2 (some 161) hHeld ?_
     refine pz_ 4 (some 163) ?_
     refine tz6_ 5 (some 164) hHeld ?_
     refine oz_ 7 (some 166) (fun K hK=>?_)
     refine goes_ Try.func38 T4_ rfl #[.int .i64 (rd t393 x142_3)] T0_ rfl rfl T17_ ?_
     with_reducible refine(perm_Bounds.calls k3 (rd t393 x142_3) t456 _ A87.out).mono ?_
     rintro e w105 ⟨v457,rfl,ho0,hb⟩
     have HS5_:=(hb.cell (World.block_lt_of_cell? _ _ (hHeld.2.2.2.2.2))).trans (hHeld.2.2.2.2.2)
     refine⟨_,rfl,?_⟩
     have n_:=P17_ (jH (su_ HO_19.out) (jf ho0) hb) (jc (ru_ HO_25.out) hb) (jg (ru_ HO_140.out) (jf ho0) hb) (jc (ru_ HO_410000.out) hb) (jc (ru_ HO_410001.out) hb) (jA (su_ HO_410002.out) hb) (jg (ru_ HO_410003.out) (jf ho0) hb) (jg (ru_ HO_410004.out) (jf ho0) hb) (jg (ru_ HL450_0.out) (jf ho0) hb) (jg (ru_ HO454.out) (jf ho0) hb) (jc (ru_ HL455_0.out) hb) (jn (jk (jk (jk (jk (jk ho0 (jj (ru_ HO_140.out))) (jj (ru_ HO_410003.out))) (jj (ru_ HO_410004.out))) (jj (ru_ HL450_0.out))) (jj (ru_ HO454.out))) (ja T26_)) (jr (bu_ BK409.out) hb) (jv (cu_ HR450_0.out) hb) (jv (cu_ HR455_0.out) hb) (pw_cell_below hb HX455_0.out) (ji T26_ hb)
     clear HO_19 HO_25 HO_140 HO_410000 HO_410001 HO_410002 HO_410003 HO_410004 HL450_0 HO454 HL455_0 BK409 HR450_0 HR455_0 HX455_0 HB
     obtain⟨HO_19,HO_25,HO_140,HO_410000,HO_410001,HO_410002,HO_410003,HO_410004,HL450_0,HO454,HL455_0,HO458,BK409,HR450_0,HR455_0,HX455_0,HB⟩:=n_
     (try clear hb);(try clear hk);(try clear ho0)
     obtain⟨Ao106,co106,eo106⟩:=jo HO458.out
     (first|subst eo106|(injection eo106 with f1_ f2_ f3_;have f4_:=f1_.symm;have f5_:=f3_.symm;clear f1_ f2_ f3_;subst f4_;subst f5_))
     obtain⟨Ao107,co107,eo107⟩:=jo HO454.out
     (first|subst eo107|(injection eo107 with f1_ f2_ f3_;have f4_:=f1_.symm;have f5_:=f3_.symm;clear f1_ f2_ f3_;subst f4_;subst f5_))
     refine hK.out _ _ ⟨bc_ BK409.out 0,bc_ BK409.out 1,bc_ BK409.out 2,bc_ BK409.out 3,bc_ BK409.out 4,HS5_⟩ (fun hHeld=>?_)
     clear hK K
     refine norm_ (a':=?_) ?_ ?_
     rotate_left
     ·show Act.put _ (some 166) _=_
      simp only[Act.put,List.setIfInBounds_toArray,List.set_cons_zero,List.set_cons_succ,jD,jE]
      rfl
     refine oz_ 9 (some 168) (fun K hK=>?_)
     refine goes_ Try.func35 T4_ rfl #[.slice A455_0 (rd_L2 t390 x142_3).length c455_0,.slice Ao106 t456.length co106,.slice Ao107 t451.length co107] T0_ rfl rfl T17_ ?_
     with_reducible refine(draw_Turn.calls _ _ (rd_L2 t390 x142_3) _ _ t456 _ _ t451 t459 t460 _ ?side1 ?side2 ?side3 ?side4 ?side5 ?side6 A88.out).mono ?_
     (case side1=>exact cu_ HR455_0.out)
     (case side2=>exact HC455_0.out)
     (case side3=>exact cu_ ((jh HO458.out).2.2))
     (case side4=>exact(jh HO458.out).2.1)
     (case side5=>exact cu_ ((jh HO454.out).2.2))
     (case side6=>exact(jh HO454.out).2.1)
     rintro e w108 ⟨v461,rfl,ho0,hb⟩
     have HS5_:=(hb.cell (World.block_lt_of_cell? _ _ (hHeld.2.2.2.2.2))).trans (hHeld.2.2.2.2.2)
     refine⟨_,rfl,?_⟩
     have n_:=P18_ (jA (su_ HO_19.out) hb) (jg (ru_ HO_25.out) (jf ho0) hb) (jc (ru_ HO_140.out) hb) (jg (ru_ HO_410000.out) (jf ho0) hb) (jg (ru_ HO_410001.out) (jf ho0) hb) (jH (su_ HO_410002.out) (jf ho0) hb) (jc (ru_ HO_410003.out) hb) (jc (ru_ HO_410004.out) hb) (jc (ru_ HL450_0.out) hb) (jc (ru_ HO454.out) hb) (jg (ru_ HL455_0.out) (jf ho0) hb) (jc (ru_ HO458.out) hb) (jn (jk (jk (jk (jk ho0 (jj (ru_ HO_25.out))) (jj (ru_ HO_410000.out))) (jj (ru_ HO_410001.out))) (jj (ru_ HL455_0.out))) (ja T26_)) (jr (bu_ BK409.out) hb) (jv (cu_ HR450_0.out) hb) (jv (cu_ HR455_0.out) hb) (pw_cell_below hb HX455_0.out) (ji T26_ hb)
     clear HO_19 HO_25 HO_140 HO_410000 HO_410001 HO_410002 HO_410003 HO_410004 HL450_0 HO454 HL455_0 HO458 BK409 HR450_0 HR455_0 HX455_0 HB
     obtain⟨HO_19,HO_25,HO_140,HO_410000,HO_410001,HO_410002,HO_410003,HO_410004,HL450_0,HO454,HL455_0,HO458,HO462,BK409,HR450_0,HR455_0,HX455_0,HB⟩:=n_
     (try clear hb);(try clear hk);(try clear ho0)
     refine hK.out _ _ ⟨bc_ BK409.out 0,bc_ BK409.out 1,bc_ BK409.out 2,bc_ BK409.out 3,bc_ BK409.out 4,HS5_⟩ (fun hHeld=>?_)
     clear hK K
     refine norm_ (a':=?_) ?_ ?_
     rotate_left
     ·show Act.put _ (some 168) _=_
      simp only[Act.put,List.setIfInBounds_toArray,List.set_cons_zero,List.set_cons_succ,jD,jE]
      rfl
     refine pz_ 10 (some 158) ?_
     refine pz_ 11 (some 169) ?_
     refine pz_ 12 (some 170) ?_
     refine pz_ 13 (some 31) ?_
     refine pz_ 14 (some 30) ?_
     refine done_ (done_of HT_.out T4_) ?_
     try go_wp2
     go_ret2
     exact⟨_,T14_,T18_,T26_⟩
    rw[if_pos c89] at H
    obtain⟨c89b0,c89b1⟩:=ep_ c89
    clear c89
    replace H:=ifn_ H;obtain⟨c90,H⟩:=H
    have c90b0:=eq_true c90
    have c90b1:decide (0≤x26_3)=true:=decide_eq_true c90
    (try(have c90b1_:=c90b1;simp only[hl25_3] at c90b1_))
    clear c90
    replace H:=ifn_ H;obtain⟨c91,H⟩:=H
    have c91b0:=eq_true c91
    have c91b1:decide (x26_3≤(x25_3.length:Int))=true:=decide_eq_true c91
    (try(have c91b1_:=c91b1;simp only[hl25_3] at c91b1_))
    clear c91
    obtain⟨y463,hy_⟩:∃ y_:List Int,y_=(x25_3.drop (x26_3:Int).toNat):=⟨_,rfl⟩
    replace H:(riffle_Turn.l1 k3 x19_2 (cpy x25_3 ((x26_3:Int).toNat) t459) (wrap64 (x26_3+(cpn x25_3 ((x26_3:Int).toNat) t459))) t393 (t393.length:Int) (wrap64 (x142_3+1)) t384 t387 t390 t393 t396)=some (r1,r2):=hyw_
    have Ny463:=am_ hy_
    clear hy_
    obtain⟨y467,hy_⟩:∃ y_:List Int,y_=(cpy x25_3 ((x26_3:Int).toNat) t459):=⟨_,rfl⟩
    replace H:(riffle_Turn.l1 k3 x19_2 y467 (wrap64 (x26_3+(cpn x25_3 ((x26_3:Int).toNat) t459))) t393 (t393.length:Int) (wrap64 (x142_3+1)) t384 t387 t390 t393 t396)=some (r1,r2):=hyw_
    have Ny467:=am_ hy_
    clear hy_
    have H':=am_ H
    clear H
    obtain⟨ad449,e449,hx449_0,p449,q449⟩:=ai_ (jh HO_140.out).2.2 x142_3
    cases e449
    obtain⟨Ao92,co92,eo92⟩:=Kd.S_slice HO_19.out
    subst eo92
    have p450:0≤(x142_3:Int):=od_
    have q450:x142_3<(x19_2.length:Int):=od_
    obtain⟨ad450,A450_0,c450_0,e450,hx450_0,hl450_0,hi450_0⟩:=at_L3 (jK HO_19.out).2.2 x142_3 p450 q450
    cases e450
    obtain⟨ce450,hce450,hMe450,hcc450⟩:=Kd.S_get HO_19.out [] x142_3 p450 T11_
    obtain⟨ve450_0,rfl,ge450_0⟩:=hMe450
    have hv450_0:=hcc450 0 _ rfl
    rw[Nat.add_zero,show((jy 3 (jb .i64))).sz=1 from rfl,Nat.mul_one] at hv450_0
    replace hv450_0:=Option.some.inj (hv450_0.symm.trans hx450_0)
    rw[hv450_0] at ge450_0
    have HL450_0:=am_ (show ju (jb .i64) 3 _ _ _ _ (rd_L3 x19_2 x142_3) from ge450_0)
    clear hv450_0 ge450_0
    have HX450_0:=am_ hx450_0
    clear hcc450 hce450
    have HR450_0:=am_ hi450_0
    have HC450_0:=am_ hl450_0
    clear hi450_0 hl450_0
    replace p450:=eq_true p450
    replace q450:=eq_true q450
    try go_wp2_with(first|(refine gc_ 37 ?_;refine gl_ (some 152) Try.func37 #[.slice A450_0 (rd_L3 x19_2 x142_3).length c450_0] ?_;(with_reducible refine(perm_Draws.calls k3 _ _ (rd_L3 x19_2 x142_3) t451 t452 _ ?side1 ?side2 A84.out).mono ?_);(case side1=>exact cu_ HR450_0.out);(case side2=>exact HC450_0.out);rintro e w93 ⟨v453,rfl,ho0,hb⟩;refine⟨_,rfl,?_⟩;have n_:=P14_ (jH (su_ HO_19.out) (jf ho0) hb) (jc (ru_ HO_25.out) hb) (jg (ru_ HO_140.out) (jf ho0) hb) (jc (ru_ HO_410000.out) hb) (jc (ru_ HO_410001.out) hb) (jA (su_ HO_410002.out) hb) (jg (ru_ HO_410003.out) (jf ho0) hb) (jg (ru_ HO_410004.out) (jf ho0) hb) (jg (ru_ HL450_0.out) (jf ho0) hb) (jn (jk (jk (jk (jk ho0 (jj (ru_ HO_140.out))) (jj (ru_ HO_410003.out))) (jj (ru_ HO_410004.out))) (jj (ru_ HL450_0.out))) (ja T26_)) (jr (bu_ BK409.out) hb) (jv (cu_ HR450_0.out) hb) (pw_cell_below hb HX450_0.out) (ji T26_ hb);clear HO_19 HO_25 HO_140 HO_410000 HO_410001 HO_410002 HO_410003 HO_410004 HL450_0 BK409 HR450_0 HX450_0 HB;obtain⟨HO_19,HO_25,HO_140,HO_410000,HO_410001,HO_410002,HO_410003,HO_410004,HL450_0,HO454,BK409,HR450_0,HX450_0,HB⟩:=n_;clear hb ho0))
    have n_:=P13_ (Kd.S_drew HO_19.out) (jq HO_25.out) (jq HO_140.out) (jq HO_410000.out) (jq HO_410001.out) (Kd.S_drew HO_410002.out) (jq HO_410003.out) (jq HO_410004.out) (jq HL450_0.out) (jq HO454.out) (jl BK409.out) (Kd.C_drew HR450_0.out) (jG HB.out)
    clear HO_19 HO_25 HO_140 HO_410000 HO_410001 HO_410002 HO_410003 HO_410004 HL450_0 HO454 BK409 HR450_0 HB
    obtain⟨HO_19,HO_25,HO_140,HO_410000,HO_410001,HO_410002,HO_410003,HO_410004,HL450_0,HO454,BK409,HR450_0,HB⟩:=n_
    have p455:0≤(x142_3:Int):=od_
    have q455:x142_3<(t390.length:Int):=od_
    obtain⟨ad455,A455_0,c455_0,e455,hx455_0,hl455_0,hi455_0⟩:=at_L2 (jK HO_410002.out).2.2 x142_3 p455 q455
    cases e455
    obtain⟨ce455,hce455,hMe455,hcc455⟩:=Kd.S_get HO_410002.out [] x142_3 p455 (by first|exact q455|exact od_|(have e_:=(jK HO_410002.out).1;omega))
    obtain⟨ve455_0,rfl,ge455_0⟩:=hMe455
    have hv455_0:=hcc455 0 _ rfl
    rw[Nat.add_zero,show((jy 5 (jb .u8))).sz=1 from rfl,Nat.mul_one] at hv455_0
    replace hv455_0:=Option.some.inj (hv455_0.symm.trans hx455_0)
    rw[hv455_0] at ge455_0
    have HL455_0:=am_ (show ju (jb .u8) 5 _ _ _ _ (rd_L2 t390 x142_3) from ge455_0)
    clear hv455_0 ge455_0
    have HX455_0:=am_ hx455_0
    clear hcc455 hce455
    have HR455_0:=am_ hi455_0
    have HC455_0:=am_ hl455_0
    clear hi455_0 hl455_0
    replace p455:=eq_true p455
    replace q455:=eq_true q455
    refine start_ (n:=15) (S:=fun w'=>w'.cell? ⟨gb409,0,none⟩=some (.slice Ao21 t384.length co21)∧w'.cell? ⟨gb409,1,none⟩=some (.slice Ao23 t387.length co23)∧w'.cell? ⟨gb409,2,none⟩=some (.slice (some ad455) t390.length co24)∧w'.cell? ⟨gb409,3,none⟩=some (.slice (some ad449) t393.length co25)∧w'.cell? ⟨gb409,4,none⟩=some (.slice Ao26 t396.length co26)∧w'.cell? (ad455.add (x142_3).toNat)=some (.slice A455_0 (rd_L2 t390 x142_3).length c455_0)) (ds:=[]) #[false,false,false,false,false,false,false,false,false,false,false,false,false,false,false] T4_ rfl rfl ⟨bc_ BK409.out 0,bc_ BK409.out 1,bc_ BK409.out 2,bc_ BK409.out 3,bc_ BK409.out 4,hx455_0⟩ (fun hHeld=>?_);refine with_tabW riffle_Turn.tab34 riffle_Turn.bits34 (fun HT_ HW_=>?_)
    generalize w93.drew=w94 at HO_19 HO_25 HO_140 HO_410000 HO_410001 HO_410002 HO_410003 HO_410004 HL450_0 HO454 BK409 HR450_0 HB HL455_0 HR455_0 HX455_0 hx455_0 hHeld ⊢
    refine pz_ 0 (some 159) ?_
    refine pz_ 1 (some 160) ?_
    refine pz_ 3 (some 162) ?_
    refine pz_ 6 (some 165) ?_
    refine pz_ 8 (some 167) ?_
    refine tz6_ 2 (some 161) hHeld ?_
    refine pz_ 4 (some 163) ?_
    refine tz6_ 5 (some 164) hHeld ?_
    refine oz_ 7 (some 166) (fun K hK=>?_)
    refine goes_ Try.func38 T4_ rfl #[.int .i64 (rd t393 x142_3)] T0_ rfl rfl T17_ ?_
    with_reducible refine(perm_Bounds.calls k3 (rd t393 x142_3) t456 _ A87.out).mono ?_
    rintro e w95 ⟨v457,rfl,ho0,hb⟩
    have HS5_:=(hb.cell (World.block_lt_of_cell? _ _ (hHeld.2.2.2.2.2))).trans (hHeld.2.2.2.2.2)
    refine⟨_,rfl,?_⟩
    have n_:=P17_ (jH (su_ HO_19.out) (jf ho0) hb) (jc (ru_ HO_25.out) hb) (jg (ru_ HO_140.out) (jf ho0) hb) (jc (ru_ HO_410000.out) hb) (jc (ru_ HO_410001.out) hb) (jA (su_ HO_410002.out) hb) (jg (ru_ HO_410003.out) (jf ho0) hb) (jg (ru_ HO_410004.out) (jf ho0) hb) (jg (ru_ HL450_0.out) (jf ho0) hb) (jg (ru_ HO454.out) (jf ho0) hb) (jc (ru_ HL455_0.out) hb) (jn (jk (jk (jk (jk (jk ho0 (jj (ru_ HO_140.out))) (jj (ru_ HO_410003.out))) (jj (ru_ HO_410004.out))) (jj (ru_ HL450_0.out))) (jj (ru_ HO454.out))) (ja T26_)) (jr (bu_ BK409.out) hb) (jv (cu_ HR450_0.out) hb) (jv (cu_ HR455_0.out) hb) (pw_cell_below hb HX455_0.out) (ji T26_ hb)
    clear HO_19 HO_25 HO_140 HO_410000 HO_410001 HO_410002 HO_410003 HO_410004 HL450_0 HO454 HL455_0 BK409 HR450_0 HR455_0 HX455_0 HB
    obtain⟨HO_19,HO_25,HO_140,HO_410000,HO_410001,HO_410002,HO_410003,HO_410004,HL450_0,HO454,HL455_0,HO458,BK409,HR450_0,HR455_0,HX455_0,HB⟩:=n_
    (try clear hb);(try clear hk);(try clear ho0)
    obtain⟨Ao96,co96,eo96⟩:=jo HO458.out
    (first|subst eo96|(injection eo96 with f1_ f2_ f3_;have f4_:=f1_.symm;have f5_:=f3_.symm;clear f1_ f2_ f3_;subst f4_;subst f5_))
    obtain⟨Ao97,co97,eo97⟩:=jo HO454.out
    (first|subst eo97|(injection eo97 with f1_ f2_ f3_;have f4_:=f1_.symm;have f5_:=f3_.symm;clear f1_ f2_ f3_;subst f4_;subst f5_))
    refine hK.out _ _ ⟨bc_ BK409.out 0,bc_ BK409.out 1,bc_ BK409.out 2,bc_ BK409.out 3,bc_ BK409.out 4,HS5_⟩ (fun hHeld=>?_)
    clear hK K
    refine norm_ (a':=?_) ?_ ?_
    rotate_left
    ·show Act.put _ (some 166) _=_
     simp only[Act.put,List.setIfInBounds_toArray,List.set_cons_zero,List.set_cons_succ,jD,jE]
     rfl
    refine oz_ 9 (some 168) (fun K hK=>?_)
    refine goes_ Try.func35 T4_ rfl #[.slice A455_0 (rd_L2 t390 x142_3).length c455_0,.slice Ao96 t456.length co96,.slice Ao97 t451.length co97] T0_ rfl rfl T17_ ?_
    with_reducible refine(draw_Turn.calls _ _ (rd_L2 t390 x142_3) _ _ t456 _ _ t451 t459 t460 _ ?side1 ?side2 ?side3 ?side4 ?side5 ?side6 A88.out).mono ?_
    (case side1=>exact cu_ HR455_0.out)
    (case side2=>exact HC455_0.out)
    (case side3=>exact cu_ ((jh HO458.out).2.2))
    (case side4=>exact(jh HO458.out).2.1)
    (case side5=>exact cu_ ((jh HO454.out).2.2))
    (case side6=>exact(jh HO454.out).2.1)
    rintro e w98 ⟨v461,rfl,ho0,hb⟩
    have HS5_:=(hb.cell (World.block_lt_of_cell? _ _ (hHeld.2.2.2.2.2))).trans (hHeld.2.2.2.2.2)
    refine⟨_,rfl,?_⟩
    have n_:=P18_ (jA (su_ HO_19.out) hb) (jg (ru_ HO_25.out) (jf ho0) hb) (jc (ru_ HO_140.out) hb) (jg (ru_ HO_410000.out) (jf ho0) hb) (jg (ru_ HO_410001.out) (jf ho0) hb) (jH (su_ HO_410002.out) (jf ho0) hb) (jc (ru_ HO_410003.out) hb) (jc (ru_ HO_410004.out) hb) (jc (ru_ HL450_0.out) hb) (jc (ru_ HO454.out) hb) (jg (ru_ HL455_0.out) (jf ho0) hb) (jc (ru_ HO458.out) hb) (jn (jk (jk (jk (jk ho0 (jj (ru_ HO_25.out))) (jj (ru_ HO_410000.out))) (jj (ru_ HO_410001.out))) (jj (ru_ HL455_0.out))) (ja T26_)) (jr (bu_ BK409.out) hb) (jv (cu_ HR450_0.out) hb) (jv (cu_ HR455_0.out) hb) (pw_cell_below hb HX455_0.out) (ji T26_ hb)
    clear HO_19 HO_25 HO_140 HO_410000 HO_410001 HO_410002 HO_410003 HO_410004 HL450_0 HO454 HL455_0 HO458 BK409 HR450_0 HR455_0 HX455_0 HB
    obtain⟨HO_19,HO_25,HO_140,HO_410000,HO_410001,HO_410002,HO_410003,HO_410004,HL450_0,HO454,HL455_0,HO458,HO462,BK409,HR450_0,HR455_0,HX455_0,HB⟩:=n_
    (try clear hb);(try clear hk);(try clear ho0)
    refine hK.out _ _ ⟨bc_ BK409.out 0,bc_ BK409.out 1,bc_ BK409.out 2,bc_ BK409.out 3,bc_ BK409.out 4,HS5_⟩ (fun hHeld=>?_)
    clear hK K
    refine norm_ (a':=?_) ?_ ?_
    rotate_left
    ·show Act.put _ (some 168) _=_
     simp only[Act.put,List.setIfInBounds_toArray,List.set_cons_zero,List.set_cons_succ,jD,jE]
     rfl
    refine pz_ 10 (some 158) ?_
    refine pz_ 11 (some 169) ?_
    refine pz_ 12 (some 170) ?_
    refine pz_ 13 (some 31) ?_
    refine pz_ 14 (some 30) ?_
    refine done_ (done_of HT_.out T4_) ?_
    have q99:(x26_3:Int)≤((x25_3.length:Int):Int):=od_
    obtain⟨i099,hi099,_,hsz99,_⟩:=info_parts info5
    have hroom99:x25_3.length≤co76:=(jh HO_25.out).2.1
    have hC99:Kd.C (jb .u8) _ Ao76 x25_3.length x25_3:=(jh HO_25.out).2.2
    have q099:(0:Int)≤(x26_3:Int):=od_
    have hcut99:=cut_from (P:=Try.prog) 23 5 .i64 Try.underlying23 hi099 1 hsz99 Ao76 x25_3.length co76 x26_3 q099 q99
    have hr99:=Kd.C_drop (m:=(x26_3:Int).toNat) (c:=co76) hC99 T2_ hroom99
    obtain⟨A99,hA99⟩:∃ A1,A1=(if co76=(x26_3:Int).toNat then Ao76 else(Ao76:Option Addr).map (·.add ((x26_3:Int).toNat*1))):=⟨_,rfl⟩
    obtain⟨c99,hc99⟩:∃ c1,c1=co76-(x26_3:Int).toNat:=⟨_,rfl⟩
    have hy99:y463.length=x25_3.length-(x26_3:Int).toNat:=(by rw[Ny463.out,List.length_drop] <;> omega)
    rw[show(x25_3).drop (x26_3:Int).toNat=y463 from Ny463.out.symm] at hr99
    replace hr99:Kd.C (jb .u8) _ A99 y463.length y463:=(by rw[hA99];exact hr99)
    rw[←hy99,←hA99,←hc99] at hcut99
    have HR466:=am_ hr99
    have HC466:=am_ (show y463.length≤c99 from by rw[hy99,hc99];exact Nat.sub_le_sub_right hroom99 _)
    clear hr99 hC99 hroom99 hi099 hsz99 hc99
    have KY99:=am_ hy99
    have KA99:=am_ hA99
    clear hy99 hA99
    have KL99:=am_ (show(x26_3:Int).toNat≤x25_3.length from by omega)
    replace q99:=eq_true q99
    obtain⟨Ao100,co100,eo100⟩:=jo HO462.out
    subst eo100
    have n_:=am_ (jd (ok':=(fun k_=>ne_ k_ (.slice Ao21 t384.length co21)∧ne_ k_ (.slice Ao23 t387.length co23)∧ne_ k_ (.slice Ao100 t459.length co100))) HO_25.out (fun k_ hk=>⟨hk.1.1,⟨hk.1.2,hk.2⟩⟩))
    clear HO_25
    have HO_25:=n_
    clear n_
    try go_wp2_with(first|(refine gb_ .copy #[.tmp 177,.tmp 178] ?_;(try(refine gate_guard T0_ ?_;dsimp only));have hyc_:=KY99.out;have hac_:=KA99.out;have hlc_:(x26_3:Int)≤(x25_3.length:Int):=(od_);have h0c_:(0:Int)≤(x26_3:Int):=(od_);refine Kd.R_copyin (w0:=w) w.heap.size rfl (.tmp 177) (.tmp 178) 23 5 rfl Try.underlying23 T4_ Ao76 x25_3.length co76 x25_3 t459 ((x26_3:Int).toNat) _ _ _ _ _ _ rfl rfl hyc_ hac_ ?hoff (ru_ HO_25.out) ?hR ?hB ?_;(case hoff=>omega);(case hR=>exact cu_ ((jh HO462.out).2.2));(case hB=>exact T26_);intro w101 ho hb hg;clear hyc_ hac_ hlc_ h0c_;rw[←Ny467.out] at ho;have n_:=P15_ (Kd.S_over' (v:=(.slice Ao76 x25_3.length co76)) (su_ HO_19.out) (jz HO_25.out) T3_ hg) (ho) (jx (v:=(.slice Ao76 x25_3.length co76)) (ru_ HO_140.out) (jz HO_25.out) T3_ hg) (jw (v:=(.slice Ao76 x25_3.length co76)) (v1:=(.slice Ao76 x25_3.length co76)) (ok:=(fun k_=>ne_ k_ (.slice Ao23 t387.length co23)∧ne_ k_ (.slice Ao100 t459.length co100))) (ru_ (jd HO_410000.out (fun _ hk=>⟨⟨hk.1.2,hk.2⟩,hk.1.1⟩))) hg (.inl rfl)) (jw (v:=(.slice Ao76 x25_3.length co76)) (v1:=(.slice Ao76 x25_3.length co76)) (ok:=(fun k_=>ne_ k_ (.slice Ao21 t384.length co21)∧ne_ k_ (.slice Ao100 t459.length co100))) (ru_ (jd HO_410001.out (fun _ hk=>⟨⟨hk.1.2,hk.2⟩,hk.1.1⟩))) hg (.inl rfl)) (Kd.S_after (v:=(.slice Ao76 x25_3.length co76)) (v1:=(.slice Ao76 x25_3.length co76)) (ok:=(fun k_=>ne_ k_ (.slice Ao21 t384.length co21)∧ne_ k_ (.slice Ao23 t387.length co23)∧ne_ k_ (.slice Ao100 t459.length co100))) (su_ (jB HO_410002.out (fun _ hk=>⟨⟨hk.1.2.1,⟨hk.1.2.2,hk.2⟩⟩,hk.1.1⟩))) hg (.inl rfl)) (jx (v:=(.slice Ao76 x25_3.length co76)) (ru_ HO_410003.out) (jz HO_25.out) T3_ hg) (jx (v:=(.slice Ao76 x25_3.length co76)) (ru_ HO_410004.out) (jz HO_25.out) T3_ hg) (blk_grown (g:=gb409) (o:=.cells #[.slice Ao21 t384.length co21,.slice Ao23 t387.length co23,.slice (some ad455) t390.length co24,.slice (some ad449) t393.length co25,.slice Ao26 t396.length co26] 57 (0,0)) (bu_ BK409.out) hg (Kd.R_ne HO_25.out BK409.out T3_)) (jx (v:=(.slice Ao76 x25_3.length co76)) (ru_ HL450_0.out) (jz HO_25.out) T3_ hg) (jx (v:=(.slice Ao76 x25_3.length co76)) (ru_ HO454.out) (jz HO_25.out) T3_ hg) (jw (v:=(.slice Ao76 x25_3.length co76)) (v1:=(.slice Ao76 x25_3.length co76)) (ok:=(fun k_=>ne_ k_ (.slice Ao21 t384.length co21)∧ne_ k_ (.slice Ao23 t387.length co23)∧ne_ k_ (.slice (some ad455) t390.length co24)∧ne_ k_ (.slice Ao100 t459.length co100))) (ru_ (jd HL455_0.out (fun _ hk=>⟨⟨hk.1.1.2.1,⟨hk.1.1.2.2,⟨hk.1.2,hk.2⟩⟩⟩,hk.1.1.1⟩))) hg (.inl rfl)) (jx (v:=(.slice Ao76 x25_3.length co76)) (ru_ HO458.out) (jz HO_25.out) T3_ hg) (jw (v:=(.slice Ao76 x25_3.length co76)) (v1:=(.slice Ao76 x25_3.length co76)) (ok:=(fun k_=>ne_ k_ (.slice Ao21 t384.length co21)∧ne_ k_ (.slice Ao23 t387.length co23)∧ne_ k_ (.slice A455_0 (rd_L2 t390 x142_3).length c455_0))) (ru_ (jd HO462.out (fun _ hk=>⟨⟨hk.1.1.2,⟨hk.1.2,hk.2⟩⟩,hk.1.1.1.2⟩))) hg (.inl rfl)) (hb);clear HO_19 HO_25 HO_140 HO_410000 HO_410001 HO_410002 HO_410003 HO_410004 BK409 HL450_0 HO454 HL455_0 HO458 HO462 HB;obtain⟨HO_19,HO_25,HO_140,HO_410000,HO_410001,HO_410002,HO_410003,HO_410004,BK409,HL450_0,HO454,HL455_0,HO458,HO462,HB⟩:=n_;clear ho hb hg))
    (try simp only[←hl25_3])
    go_roundg k3
    case measure=>have:=HJ5.out;have:=HK2.out;have:=HK3.out;omega
    case rel=>exact⟨(y467),(wrap64 (x26_3+(cpn x25_3 ((x26_3:Int).toNat) t459))),(wrap64 (x142_3+1)),T9_,T9_,H',⟨(by have:=HJ5.out;have:=HK2.out;have:=HK3.out;omega)⟩,⟨(by(try simp only[hl25_3]);(with_reducible repeat(first|apply Kd.S_alloc|apply Kd.S_drewN|apply Kd.S_drew));exact jB HO_19.out (fun _ hk=>⟨hk.1.1.1,⟨hk.1.1.2.1,hk.1.1.2.2⟩⟩))⟩,⟨(by(try simp only[hl25_3]);(with_reducible repeat(first|apply Kd.R_alloc|apply Kd.R_drewN|apply jq));exact jd HO_25.out (fun _ hk=>⟨hk.1,hk.2.1⟩))⟩,⟨(by(try simp only[hl25_3]);(with_reducible repeat(first|apply Kd.R_alloc|apply Kd.R_drewN|apply jq));exact jd HO_140.out (fun _ hk=>hk.1.1))⟩,⟨(by(try simp only[hl25_3]);(with_reducible repeat(first|apply Kd.R_alloc|apply Kd.R_drewN|apply jq));exact jd HO_410000.out (fun _ hk=>⟨hk.2,hk.1.1⟩))⟩,⟨(by(try simp only[hl25_3]);(with_reducible repeat(first|apply Kd.R_alloc|apply Kd.R_drewN|apply jq));exact jd HO_410001.out (fun _ hk=>⟨hk.2,hk.1.1⟩))⟩,⟨(by(try simp only[hl25_3]);(with_reducible repeat(first|apply Kd.S_alloc|apply Kd.S_drewN|apply Kd.S_drew));exact jB HO_410002.out (fun _ hk=>⟨hk.2,⟨hk.1.1,hk.1.2.1⟩⟩))⟩,⟨(by(try simp only[hl25_3]);(with_reducible repeat(first|apply Kd.R_alloc|apply Kd.R_drewN|apply jq));exact jd HO_410003.out (fun _ hk=>hk.1.1))⟩,⟨(by(try simp only[hl25_3]);(with_reducible repeat(first|apply Kd.R_alloc|apply Kd.R_drewN|apply jq));exact jd HO_410004.out (fun _ hk=>⟨hk.1.1.1,hk.1.1.2⟩))⟩,⟨(by(try simp only[hl25_3]);(with_reducible repeat(first|refine jp ?_ _|refine jl ?_|refine jm ?_ _));exact BK409.out)⟩,⟨T26_⟩⟩
def churnlaw13_counted.l0:Nat→List Int→Int→Option (List Int)
 | 0,_,_=>none
 | k+1,x1,x2=>if x2≤24 then(if x1.length<140737488355328 then(churnlaw13_counted.l0 k (x1 ++ [(x2) % 256]) (wrap64 (x2+1))) else(none)) else(some x1)
def churnlaw13_counted.f (k:Nat)  :Option (List Int):=churnlaw13_counted.l0 k (List.replicate 18 0) 1
theorem churnlaw13_counted.mono_l:∀ k,(∀ y0 y1,LeO (churnlaw13_counted.l0 k y0 y1) (churnlaw13_counted.l0 (k+1) y0 y1))
 | 0=>fun _ _ r h=>by simp[churnlaw13_counted.l0] at h
 | k+1=>by
  have ih0:=churnlaw13_counted.mono_l k
  intro y0 y1
  unfold churnlaw13_counted.l0
  with_reducible repeat' first|exact ih0 _ _|exact LeO.refl _|exact LeO.none _|refine LeO.ite ?_ ?_|refine LeO.bind ?_ (fun _=>?_)
theorem churnlaw13_counted.mono:∀ k,LeO (churnlaw13_counted.f k ) (churnlaw13_counted.f (k+1) ):=by
 intro  k
 have ih0:=churnlaw13_counted.mono_l k
 unfold churnlaw13_counted.f
 with_reducible repeat' first|exact ih0 _ _|exact LeO.refl _|exact LeO.none _|refine LeO.ite ?_ ?_|refine LeO.bind ?_ (fun _=>?_)
set_option maxHeartbeats 8000000 in
set_option maxRecDepth 100000 in
theorem churnlaw13_counted.calls (k:Nat)  (r:List Int) (w:World) (h:churnlaw13_counted.f k  = some r) :
  Calls Try.prog 19 #[] w fun e w'=>∃ v0_:Value,e = .returned (v0_)∧ju (jb .u8) 5 w' w.heap.size (fun _=>True) v0_ r∧Below w.heap.size w w':=by
 have HB:=am_ (Below.refl w.heap.size w)
 have H:(churnlaw13_counted.l0 k (List.replicate 18 0) 1)=some r:=h
 clear h
 obtain⟨y470,hy_⟩:∃ y_:List Int,y_=(List.replicate 18 0):=⟨_,rfl⟩
 replace H:(churnlaw13_counted.l0 k y470 1)=some r:=hyw_
 have Ny470:=am_ hy_
 clear hy_
 have H':=am_ H
 clear H
 go_enter Try.func19,Try.ntmps19
 go_wp2_with(first|(refine gd_ 3 ?_;refine Kd.R_makecap (jb .u8) _ 5 rfl (N:=3) rfl 23 _ _ rfl 18 rfl rfl Try.underlying23 (.int .u8 0) 1 info5 rfl T3_ T2_ 0 (ok:=fun _=>True) (okp:=fun _=>True) rfl (fun _ hk=>hk) trivial T2_ T2_ (Below.refl _ _) (Nat.le_refl _) ?_;intro v471 w1 ho2 hb hg_ hnew_;clear hg_ hnew_;(first|rw[←Ny470.out] at ho2|(simp only[Int.reduceToNat] at ho2;rw[←Ny470.out] at ho2));have n_:=P2_ (jn ho2 (ja T16_)) (ji T16_ hb);clear HB;obtain⟨HO472,HB⟩:=n_;clear hb ho2))
 go_loopg [1,2] k (fun kq v1 v2 w'=>∃ (x1_1:List Int) (x2_1:Int),v2 = .int .i64 x2_1∧Aside0 (churnlaw13_counted.l0 kq x1_1 x2_1=some r)∧Aside0 (kq≤k)∧Aside0 (ju (jb .u8) 5 w' w.heap.size (fun _=>True) v1 x1_1)∧Aside0 (Below w.heap.size w w'))
 case atStart=>exact⟨(y470),(1),T9_,H',⟨Nat.le_refl _⟩,⟨ru_ HO472.out⟩,⟨T16_⟩⟩
 clear H'
 obtain⟨x1_1,x2_1,rfl,HA,HK1,HO_1,HB⟩:=hrel
 cases gk with
 | zero=>exact absurd HA.out (by simp[churnlaw13_counted.l0])
 | succ k1 =>
  have H:=HA.out
  clear HA
  simp only[churnlaw13_counted.l0] at H
  by_cases c3:x2_1≤24
  rotate_left
  ·rw[if_neg c3] at H
   have c3b0:=decide_eq_false c3
   clear c3
   obtain rfl:=Option.some.inj H
   obtain⟨rfl⟩:=sj1_ H
   go_wp2
   go_ret
   exact⟨_,T14_,ru_ HO_1.out,T16_⟩
  rw[if_pos c3] at H
  have c3b0:=decide_eq_true c3
  clear c3
  replace H:=ifa_ H;obtain⟨LMc4,H⟩:=H
  obtain⟨y473,hy_⟩:∃ y_:List Int,y_=(x1_1 ++ [(x2_1) % 256]):=⟨_,rfl⟩
  replace H:(churnlaw13_counted.l0 k1 y473 (wrap64 (x2_1+1)))=some r:=hyw_
  have Ny473:=am_ hy_
  clear hy_
  have H':=am_ H
  clear H
  go_wp2_with(first|(refine gb_ .append #[.tmp 8,.tmp 11] ?_;at_builtin;refine Kd.R_append (jb .u8) (w0:=w) w.heap.size rfl (.tmp 8) (.tmp 11) 23 5 (.int .u8 0) 1 rfl Try.underlying23 info5 rfl T3_ T2_ u1 x1_1 ((x2_1) % 256) [.int .u8 ((x2_1) % 256)] (fun _=>True) (fun _=>False) rfl rfl ?aP (fun _ hk=>hk.elim) ?aF ?aO ?aB ?aS ?aL ?_;(case aP=>exact rfl);(case aB=>exact T16_);(case aF=>exact(fun _ _=>trivial));(case aO=>exact(ru_ HO_1.out));(case aS=>exact(ja T16_));(case aL=>have:=LMc4.out;omega);intro v474 w5 ho hb hg hat;rw[←Ny473.out] at ho;have n_:=P2_ (hb) (ho);clear HB HO_1;obtain⟨HB,HO475⟩:=n_;clear ho hb hg hat))
  go_roundg k1
  case measure=>have:=HK1.out;omega
  case rel=>exact⟨(y473),(wrap64 (x2_1+1)),T9_,H',⟨T7_⟩,⟨ru_ HO475.out⟩,⟨T16_⟩⟩
def churnlaw13_alive.f (k:Nat)  :Option (Bool):=(churnlaw13_counted.f k).bind fun t476=>((riffle_Order.f k t476 3 1).bind fun bt479=>((churnlaw13_counted.f k).bind fun t483=>((riffle_Shuffle_string.f k t483 2 (([(⟨#[97]⟩:ByteArray),(⟨#[98]⟩:ByteArray),(⟨#[99]⟩:ByteArray),(⟨#[100]⟩:ByteArray)]:List ByteArray))).bind fun bt489=>((churnlaw13_counted.f k).bind fun t493=>((riffle_Turn.f k t493 2 1 (([1,0]:List Int))).bind fun bt499=>(if bt479.2=0 then(if bt489.2=0 then(if bt499.2=0 then(if(bt479.1.length:Int)=3 then(if(bt489.1.length:Int)=4 then(if(bt499.1.length:Int)=42 then(if 0<(bt479.1.length:Int) then(if(rd bt479.1 0)=2 then(if 1<(bt479.1.length:Int) then(if(rd bt479.1 1)=0 then(if 2<(bt479.1.length:Int) then(if(rd bt479.1 2)=1 then(if 1<(bt489.1.length:Int) then(if(rdOf ByteArray.empty bt489.1 1).toList=([99]:List UInt8) then(if 3<(bt489.1.length:Int) then(some ((rdOf ByteArray.empty bt489.1 3).toList == ([98]:List UInt8))) else(none)) else(some false)) else(none)) else(some false)) else(none)) else(some false)) else(none)) else(some false)) else(none)) else(some false)) else(some false)) else(some false)) else(some false)) else(some false)) else(some false)))))))
theorem churnlaw13_alive.mono:∀ k,LeO (churnlaw13_alive.f k ) (churnlaw13_alive.f (k+1) ):=by
 intro  k
 unfold churnlaw13_alive.f
 with_reducible repeat' first|exact churnlaw13_counted.mono _|exact riffle_Order.mono _ _ _ _|exact riffle_Shuffle_string.mono _ _ _ _|exact riffle_Turn.mono _ _ _ _ _|exact LeO.refl _|exact LeO.none _|refine LeO.ite ?_ ?_|refine LeO.bind ?_ (fun _=>?_)
set_option maxHeartbeats 8000000 in
set_option maxRecDepth 100000 in
theorem churnlaw13_alive.calls (k:Nat)  (r:Bool) (w:World) (hr_:r=true) (h:churnlaw13_alive.f k  = some r) :
  Calls Try.prog 10 #[] w fun e w'=>e = .returned (.bool r)∧Below w.heap.size w w':=by
 have HR_:=am_ hr_
 clear hr_
 have HB:=am_ (Below.refl w.heap.size w)
 have H:((churnlaw13_counted.f k).bind fun t476=>((riffle_Order.f k t476 3 1).bind fun bt479=>((churnlaw13_counted.f k).bind fun t483=>((riffle_Shuffle_string.f k t483 2 (([(⟨#[97]⟩:ByteArray),(⟨#[98]⟩:ByteArray),(⟨#[99]⟩:ByteArray),(⟨#[100]⟩:ByteArray)]:List ByteArray))).bind fun bt489=>((churnlaw13_counted.f k).bind fun t493=>((riffle_Turn.f k t493 2 1 (([1,0]:List Int))).bind fun bt499=>(if bt479.2=0 then(if bt489.2=0 then(if bt499.2=0 then(if(bt479.1.length:Int)=3 then(if(bt489.1.length:Int)=4 then(if(bt499.1.length:Int)=42 then(if 0<(bt479.1.length:Int) then(if(rd bt479.1 0)=2 then(if 1<(bt479.1.length:Int) then(if(rd bt479.1 1)=0 then(if 2<(bt479.1.length:Int) then(if(rd bt479.1 2)=1 then(if 1<(bt489.1.length:Int) then(if(rdOf ByteArray.empty bt489.1 1).toList=([99]:List UInt8) then(if 3<(bt489.1.length:Int) then(some ((rdOf ByteArray.empty bt489.1 3).toList == ([98]:List UInt8))) else(none)) else(some false)) else(none)) else(some false)) else(none)) else(some false)) else(none)) else(some false)) else(none)) else(some false)) else(some false)) else(some false)) else(some false)) else(some false)) else(some false))))))))=some r:=h
 clear h
 replace H:=Option.bind_eq_some_iff.mp H
 obtain⟨t476,A10,H⟩:=H
 try dsimp only at H
 have A1:=am_ A10
 clear A10
 replace H:=Option.bind_eq_some_iff.mp H
 obtain⟨⟨t479,t480⟩,A20,H⟩:=H
 try dsimp only at H
 have A2:=am_ A20
 clear A20
 replace H:=Option.bind_eq_some_iff.mp H
 obtain⟨t483,A30,H⟩:=H
 try dsimp only at H
 have A3:=am_ A30
 clear A30
 obtain⟨y486,hy_⟩:∃ y_:List ByteArray,y_=(([(⟨#[97]⟩:ByteArray),(⟨#[98]⟩:ByteArray),(⟨#[99]⟩:ByteArray),(⟨#[100]⟩:ByteArray)]:List ByteArray)):=⟨_,rfl⟩
 replace H:((riffle_Shuffle_string.f k t483 2 y486).bind fun bt489=>((churnlaw13_counted.f k).bind fun t493=>((riffle_Turn.f k t493 2 1 (([1,0]:List Int))).bind fun bt499=>(if t480=0 then(if bt489.2=0 then(if bt499.2=0 then(if(t479.length:Int)=3 then(if(bt489.1.length:Int)=4 then(if(bt499.1.length:Int)=42 then(if 0<(t479.length:Int) then(if(rd t479 0)=2 then(if 1<(t479.length:Int) then(if(rd t479 1)=0 then(if 2<(t479.length:Int) then(if(rd t479 2)=1 then(if 1<(bt489.1.length:Int) then(if(rdOf ByteArray.empty bt489.1 1).toList=([99]:List UInt8) then(if 3<(bt489.1.length:Int) then(some ((rdOf ByteArray.empty bt489.1 3).toList == ([98]:List UInt8))) else(none)) else(some false)) else(none)) else(some false)) else(none)) else(some false)) else(none)) else(some false)) else(none)) else(some false)) else(some false)) else(some false)) else(some false)) else(some false)) else(some false)))))=some r:=hyw_
 have Ny486:=am_ hy_
 clear hy_
 replace H:=Option.bind_eq_some_iff.mp H
 obtain⟨⟨t489,t490⟩,A40,H⟩:=H
 try dsimp only at H
 have A4:=am_ A40
 clear A40
 replace H:=Option.bind_eq_some_iff.mp H
 obtain⟨t493,A50,H⟩:=H
 try dsimp only at H
 have A5:=am_ A50
 clear A50
 obtain⟨y496,hy_⟩:∃ y_:List Int,y_=(([1,0]:List Int)):=⟨_,rfl⟩
 replace H:((riffle_Turn.f k t493 2 1 y496).bind fun bt499=>(if t480=0 then(if t490=0 then(if bt499.2=0 then(if(t479.length:Int)=3 then(if(t489.length:Int)=4 then(if(bt499.1.length:Int)=42 then(if 0<(t479.length:Int) then(if(rd t479 0)=2 then(if 1<(t479.length:Int) then(if(rd t479 1)=0 then(if 2<(t479.length:Int) then(if(rd t479 2)=1 then(if 1<(t489.length:Int) then(if(rdOf ByteArray.empty t489 1).toList=([99]:List UInt8) then(if 3<(t489.length:Int) then(some ((rdOf ByteArray.empty t489 3).toList == ([98]:List UInt8))) else(none)) else(some false)) else(none)) else(some false)) else(none)) else(some false)) else(none)) else(some false)) else(none)) else(some false)) else(some false)) else(some false)) else(some false)) else(some false)) else(some false)))=some r:=hyw_
 have Ny496:=am_ hy_
 clear hy_
 replace H:=Option.bind_eq_some_iff.mp H
 obtain⟨⟨t499,t500⟩,A60,H⟩:=H
 try dsimp only at H
 have A6:=am_ A60
 clear A60
 by_cases c7:t480=0
 rotate_left
 ·rw[if_neg c7] at H
  obtain⟨c7b0,c7b1⟩:=en_ c7
  obtain rfl:=Option.some.inj H
  exact absurd HR_.out T3_
 rw[if_pos c7] at H
 obtain⟨c7b0,c7b1⟩:=ep_ c7
 clear c7
 by_cases c8:t490=0
 rotate_left
 ·rw[if_neg c8] at H
  obtain⟨c8b0,c8b1⟩:=en_ c8
  obtain rfl:=Option.some.inj H
  exact absurd HR_.out T3_
 rw[if_pos c8] at H
 obtain⟨c8b0,c8b1⟩:=ep_ c8
 clear c8
 by_cases c9:t500=0
 rotate_left
 ·rw[if_neg c9] at H
  obtain⟨c9b0,c9b1⟩:=en_ c9
  obtain rfl:=Option.some.inj H
  exact absurd HR_.out T3_
 rw[if_pos c9] at H
 obtain⟨c9b0,c9b1⟩:=ep_ c9
 clear c9
 by_cases c10:(t479.length:Int)=3
 rotate_left
 ·rw[if_neg c10] at H
  obtain⟨c10b0,c10b1⟩:=en_ c10
  obtain rfl:=Option.some.inj H
  exact absurd HR_.out T3_
 rw[if_pos c10] at H
 obtain⟨c10b0,c10b1⟩:=ep_ c10
 clear c10
 by_cases c11:(t489.length:Int)=4
 rotate_left
 ·rw[if_neg c11] at H
  obtain⟨c11b0,c11b1⟩:=en_ c11
  obtain rfl:=Option.some.inj H
  exact absurd HR_.out T3_
 rw[if_pos c11] at H
 obtain⟨c11b0,c11b1⟩:=ep_ c11
 clear c11
 by_cases c12:(t499.length:Int)=42
 rotate_left
 ·rw[if_neg c12] at H
  obtain⟨c12b0,c12b1⟩:=en_ c12
  obtain rfl:=Option.some.inj H
  exact absurd HR_.out T3_
 rw[if_pos c12] at H
 obtain⟨c12b0,c12b1⟩:=ep_ c12
 clear c12
 replace H:=ifn_ H;obtain⟨c13,H⟩:=H
 have c13b0:=decide_eq_true c13
 have c13b1:decide (0<t479.length)=true:=decide_eq_true T2_
 clear c13
 by_cases c14:(rd t479 0)=2
 rotate_left
 ·rw[if_neg c14] at H
  obtain⟨c14b0,c14b1⟩:=en_ c14
  obtain rfl:=Option.some.inj H
  exact absurd HR_.out T3_
 rw[if_pos c14] at H
 obtain⟨c14b0,c14b1⟩:=ep_ c14
 clear c14
 replace H:=ifn_ H;obtain⟨c15,H⟩:=H
 have c15b0:=decide_eq_true c15
 have c15b1:decide (1<t479.length)=true:=decide_eq_true T2_
 clear c15
 by_cases c16:(rd t479 1)=0
 rotate_left
 ·rw[if_neg c16] at H
  obtain⟨c16b0,c16b1⟩:=en_ c16
  obtain rfl:=Option.some.inj H
  exact absurd HR_.out T3_
 rw[if_pos c16] at H
 obtain⟨c16b0,c16b1⟩:=ep_ c16
 clear c16
 replace H:=ifn_ H;obtain⟨c17,H⟩:=H
 have c17b0:=decide_eq_true c17
 have c17b1:decide (2<t479.length)=true:=decide_eq_true T2_
 clear c17
 by_cases c18:(rd t479 2)=1
 rotate_left
 ·rw[if_neg c18] at H
  obtain⟨c18b0,c18b1⟩:=en_ c18
  obtain rfl:=Option.some.inj H
  exact absurd HR_.out T3_
 rw[if_pos c18] at H
 obtain⟨c18b0,c18b1⟩:=ep_ c18
 clear c18
 replace H:=ifn_ H;obtain⟨c19,H⟩:=H
 have c19b0:=decide_eq_true c19
 have c19b1:decide (1<t489.length)=true:=decide_eq_true T2_
 clear c19
 by_cases c20:(rdOf ByteArray.empty t489 1).toList=([99]:List UInt8)
 rotate_left
 ·rw[if_neg c20] at H
  obtain⟨c20b0,c20b1⟩:=en_ c20
  obtain rfl:=Option.some.inj H
  exact absurd HR_.out T3_
 rw[if_pos c20] at H
 obtain⟨c20b0,c20b1⟩:=ep_ c20
 clear c20
 replace H:=ifn_ H;obtain⟨c21,H⟩:=H
 have c21b0:=decide_eq_true c21
 have c21b1:decide (3<t489.length)=true:=decide_eq_true T2_
 clear c21
 obtain rfl:=Option.some.inj H
 obtain⟨rfl⟩:=sj1_ H
 go_enter Try.func10,Try.ntmps10
 go_wp2_with(first|(refine gc_ 19 ?_;refine gl_ (some 8) Try.func19 #[] ?_;(with_reducible refine(churnlaw13_counted.calls k  t476 _ A1.out).mono ?_);rintro e w22 ⟨v477,rfl,ho0,hb⟩;refine⟨_,rfl,?_⟩;have n_:=P2_ (jn ho0 (ja T16_)) (ji T16_ hb);clear HB;obtain⟨HO478,HB⟩:=n_;clear hb ho0;obtain⟨Ao23,co23,eo23⟩:=jo HO478.out;subst eo23)|(refine gc_ 11 ?_;refine gl_ (some 9) Try.func11 #[.slice Ao23 t476.length co23,.int .i64 3,.int .i64 1] ?_;(with_reducible refine(riffle_Order.calls k _ _ t476 3 1 t479 t480 _ ?side1 ?side2 A2.out).mono ?_);(case side1=>exact cu_ ((jh HO478.out).2.2));(case side2=>exact(jh HO478.out).2.1);rintro e w24 ⟨v481,rfl,ho0,hb⟩;refine⟨_,rfl,?_⟩;have n_:=P3_ (jc (ru_ HO478.out) hb) (jn ho0 (ja T16_)) (ji T16_ hb);clear HO478 HB;obtain⟨HO478,HO482,HB⟩:=n_;clear hb ho0)|(refine gc_ 19 ?_;refine gl_ (some 13) Try.func19 #[] ?_;(with_reducible refine(churnlaw13_counted.calls k  t483 _ A3.out).mono ?_);rintro e w25 ⟨v484,rfl,ho0,hb⟩;refine⟨_,rfl,?_⟩;have n_:=P4_ (jg (ru_ HO478.out) (jf ho0) hb) (jc (ru_ HO482.out) hb) (jn (jk ho0 (jj (ru_ HO478.out))) (ja T16_)) (ji T16_ hb);clear HO478 HO482 HB;obtain⟨HO478,HO482,HO485,HB⟩:=n_;clear hb ho0)|(refine gd_ 14 ?_;(try(refine gate_guard T0_ ?_;dsimp only));refine Kd.R_lit Kd.string _ 9 ?hg (N:=14) ?hd (xs:=([(⟨#[97]⟩:ByteArray),(⟨#[98]⟩:ByteArray),(⟨#[99]⟩:ByteArray),(⟨#[100]⟩:ByteArray)]:List ByteArray)) (inner:=[.string (⟨#[97]⟩:ByteArray),.string (⟨#[98]⟩:ByteArray),.string (⟨#[99]⟩:ByteArray),.string (⟨#[100]⟩:ByteArray)]) (ok:=fun _=>True) (okp:=fun _=>True) ?hr ?hp (fun _ hk=>hk) trivial (Below.refl _ _) (Nat.le_refl _) T1_ ?_;(case hd=>rfl);(case hg=>rfl);(case hr=>first|(go_simp;done)|(go_simp;rfl));(case hp=>exact(Reps.one (show Kd.M Kd.string _ _ _ (⟨#[97]⟩:ByteArray) [.string (⟨#[97]⟩:ByteArray)] from rfl) (Reps.one (show Kd.M Kd.string _ _ _ (⟨#[98]⟩:ByteArray) [.string (⟨#[98]⟩:ByteArray)] from rfl) (Reps.one (show Kd.M Kd.string _ _ _ (⟨#[99]⟩:ByteArray) [.string (⟨#[99]⟩:ByteArray)] from rfl) (Reps.one (show Kd.M Kd.string _ _ _ (⟨#[100]⟩:ByteArray) [.string (⟨#[100]⟩:ByteArray)] from rfl) (Reps.none _ _))))));intro v487 w26 ho27 hb hg_ hnew_;clear hg_ hnew_;(first|rw[←Ny486.out] at ho27|(simp only[Int.reduceToNat] at ho27;rw[←Ny486.out] at ho27));have n_:=P5_ (jc (ru_ HO478.out) hb) (jc (ru_ HO482.out) hb) (jc (ru_ HO485.out) hb) (jn ho27 (ja T16_)) (ji T16_ hb);clear HO478 HO482 HO485 HB;obtain⟨HO478,HO482,HO485,HO488,HB⟩:=n_;clear hb ho27;obtain⟨Ao28,co28,eo28⟩:=jo HO485.out;subst eo28;obtain⟨Ao29,co29,eo29⟩:=jo HO488.out;subst eo29)|(refine gc_ 15 ?_;refine gl_ (some 15) Try.func15 #[.slice Ao28 t483.length co28,.int .i64 2,.slice Ao29 y486.length co29] ?_;(with_reducible refine(riffle_Shuffle_string.calls k _ _ t483 2 _ _ y486 t489 t490 _ ?side1 ?side2 ?side3 ?side4 A4.out).mono ?_);(case side1=>exact cu_ ((jh HO485.out).2.2));(case side2=>exact(jh HO485.out).2.1);(case side3=>exact cu_ ((jh HO488.out).2.2));(case side4=>exact(jh HO488.out).2.1);rintro e w30 ⟨v491,rfl,ho0,hb⟩;refine⟨_,rfl,?_⟩;have n_:=P6_ (jc (ru_ HO478.out) hb) (jc (ru_ HO482.out) hb) (jc (ru_ HO485.out) hb) (jg (ru_ HO488.out) (jf ho0) hb) (jn (jk ho0 (jj (ru_ HO488.out))) (ja T16_)) (ji T16_ hb);clear HO478 HO482 HO485 HO488 HB;obtain⟨HO478,HO482,HO485,HO488,HO492,HB⟩:=n_;clear hb ho0)|(refine gc_ 19 ?_;refine gl_ (some 19) Try.func19 #[] ?_;(with_reducible refine(churnlaw13_counted.calls k  t493 _ A5.out).mono ?_);rintro e w31 ⟨v494,rfl,ho0,hb⟩;refine⟨_,rfl,?_⟩;have n_:=P7_ (jg (ru_ HO478.out) (jf ho0) hb) (jc (ru_ HO482.out) hb) (jg (ru_ HO485.out) (jf ho0) hb) (jc (ru_ HO488.out) hb) (jc (ru_ HO492.out) hb) (jn (jk (jk ho0 (jj (ru_ HO478.out))) (jj (ru_ HO485.out))) (ja T16_)) (ji T16_ hb);clear HO478 HO482 HO485 HO488 HO492 HB;obtain⟨HO478,HO482,HO485,HO488,HO492,HO495,HB⟩:=n_;clear hb ho0)|(refine gd_ 20 ?_;(try(refine gate_guard T0_ ?_;dsimp only));refine Kd.R_lit (jb .i64) _ 3 ?hg (N:=20) ?hd (xs:=([1,0]:List Int)) (inner:=[.int .i64 1,.int .i64 0]) (ok:=fun _=>True) (okp:=fun _=>True) ?hr ?hp (fun _ hk=>hk) trivial (Below.refl _ _) (Nat.le_refl _) T1_ ?_;(case hd=>rfl);(case hg=>rfl);(case hr=>first|(go_simp;done)|(go_simp;rfl));(case hp=>exact(Reps.one (show Kd.M (jb .i64) _ _ _ 1 [.int .i64 1] from rfl) (Reps.one (show Kd.M (jb .i64) _ _ _ 0 [.int .i64 0] from rfl) (Reps.none _ _))));intro v497 w32 ho33 hb hg_ hnew_;clear hg_ hnew_;(first|rw[←Ny496.out] at ho33|(simp only[Int.reduceToNat] at ho33;rw[←Ny496.out] at ho33));have n_:=P8_ (jc (ru_ HO478.out) hb) (jg (ru_ HO482.out) (jf ho33) hb) (jc (ru_ HO485.out) hb) (jc (ru_ HO488.out) hb) (jc (ru_ HO492.out) hb) (jc (ru_ HO495.out) hb) (jn (jk ho33 (jj (ru_ HO482.out))) (ja T16_)) (ji T16_ hb);clear HO478 HO482 HO485 HO488 HO492 HO495 HB;obtain⟨HO478,HO482,HO485,HO488,HO492,HO495,HO498,HB⟩:=n_;clear hb ho33;obtain⟨Ao34,co34,eo34⟩:=jo HO495.out;subst eo34;obtain⟨Ao35,co35,eo35⟩:=jo HO498.out;subst eo35)|(refine gc_ 17 ?_;refine gl_ (some 21) Try.func17 #[.slice Ao34 t493.length co34,.int .i64 2,.int .i64 1,.slice Ao35 y496.length co35] ?_;(with_reducible refine(riffle_Turn.calls k _ _ t493 2 1 _ _ y496 t499 t500 _ ?side1 ?side2 ?side3 ?side4 A6.out).mono ?_);(case side1=>exact cu_ ((jh HO495.out).2.2));(case side2=>exact(jh HO495.out).2.1);(case side3=>exact cu_ ((jh HO498.out).2.2));(case side4=>exact(jh HO498.out).2.1);rintro e w36 ⟨v501,rfl,ho0,hb⟩;refine⟨_,rfl,?_⟩;have n_:=P9_ (jg (ru_ HO478.out) (jf ho0) hb) (jc (ru_ HO482.out) hb) (jg (ru_ HO485.out) (jf ho0) hb) (jc (ru_ HO488.out) hb) (jc (ru_ HO492.out) hb) (jg (ru_ HO495.out) (jf ho0) hb) (jc (ru_ HO498.out) hb) (jn (jk (jk (jk ho0 (jj (ru_ HO478.out))) (jj (ru_ HO485.out))) (jj (ru_ HO495.out))) (ja T16_)) (ji T16_ hb);clear HO478 HO482 HO485 HO488 HO492 HO495 HO498 HB;obtain⟨HO478,HO482,HO485,HO488,HO492,HO495,HO498,HO502,HB⟩:=n_;clear hb ho0;obtain⟨Ao37,co37,eo37⟩:=jo HO482.out;subst eo37;obtain⟨Ao38,co38,eo38⟩:=jo HO492.out;subst eo38;obtain⟨Ao39,co39,eo39⟩:=jo HO502.out;subst eo39;have p503:0≤(0:Int):=T2_;have q503:0<(t479.length:Int):=od_;obtain⟨ad503,e503,hx503_0⟩:=jI (jh HO482.out).2.2 0 p503 q503;cases e503;have qi503:(0<t479.length)=True:=eq_true T2_;(try rw[show((0:Int)).toNat=0 from rfl] at hx503_0);(try rw[Addr.add_zero'] at hx503_0);replace p503:=eq_true p503;replace q503:=eq_true q503;have p504:0≤(1:Int):=T2_;have q504:1<(t479.length:Int):=od_;obtain⟨ad504,e504,hx504_0⟩:=jI (jh HO482.out).2.2 1 p504 q504;obtain rfl:ad503=ad504:=(by injection e504);(try simp only[show(1:Int).toNat=1 from rfl,Nat.reduceMul,Nat.reduceEqDiff,Go.Addr.add,↓reduceIte] at hx504_0);have qi504:(1<t479.length)=True:=eq_true T2_;(try rw[show((1:Int)).toNat=1 from rfl] at hx504_0);replace p504:=eq_true p504;replace q504:=eq_true q504;have p505:0≤(2:Int):=T2_;have q505:2<(t479.length:Int):=od_;obtain⟨ad505,e505,hx505_0⟩:=jI (jh HO482.out).2.2 2 p505 q505;obtain rfl:ad503=ad505:=(by injection e505);(try simp only[show(2:Int).toNat=2 from rfl,Nat.reduceMul,Nat.reduceEqDiff,Go.Addr.add,↓reduceIte] at hx505_0);have qi505:(2<t479.length)=True:=eq_true T2_;(try rw[show((2:Int)).toNat=2 from rfl] at hx505_0);replace p505:=eq_true p505;replace q505:=eq_true q505;have p506:0≤(1:Int):=T2_;have q506:1<(t489.length:Int):=od_;obtain⟨ad506,e506,hx506_0⟩:=Kd.at_string (jh HO492.out).2.2 1 p506 q506;cases e506;(try simp only[show(1:Int).toNat=1 from rfl,Nat.reduceMul,Nat.reduceEqDiff,Go.Addr.add,↓reduceIte] at hx506_0);have qi506:(1<t489.length)=True:=eq_true T2_;(try rw[show((1:Int)).toNat=1 from rfl] at hx506_0);replace p506:=eq_true p506;replace q506:=eq_true q506;have p507:0≤(3:Int):=T2_;have q507:3<(t489.length:Int):=od_;obtain⟨ad507,e507,hx507_0⟩:=Kd.at_string (jh HO492.out).2.2 3 p507 q507;obtain rfl:ad506=ad507:=(by injection e507);(try simp only[show(3:Int).toNat=3 from rfl,Nat.reduceMul,Nat.reduceEqDiff,Go.Addr.add,↓reduceIte] at hx507_0);have qi507:(3<t489.length)=True:=eq_true T2_;(try rw[show((3:Int)).toNat=3 from rfl] at hx507_0);replace p507:=eq_true p507;replace q507:=eq_true q507))
 go_ret
 exact⟨T14_,T16_⟩
end Go.Proofs.Ytbnifpfnjhdenaa.Q
end
section
set_option linter.unusedVariables false
set_option linter.unusedSimpArgs false
namespace Go.Proofs.Ytbnifpfnjhdenaa.Q
open Go.RowKit Go.Proofs.YtbnifpfnjhdenaaW.PrintWords Go.Proofs.YtbnifpfnjhdenaaW.PrintLast Go.Proofs.YtbnifpfnjhdenaaW.PrintMore Go.Proofs.Ytbnifpfnjhdenaa.Pl
def rcTape (ys:List Int) (x:Int) (way v:Nat):List Int:=ys ++ (if way=1 then [(v:Int),x] else [x,(v:Int)])
def rcCnt (os:Nat→List Int):Nat→Nat
 | 0=>0
 | v+1=>rcCnt os v+if rd (os v) 0=0 then 1 else 0
theorem rcCnt_le (os:Nat→List Int):∀ v,rcCnt os v≤v
 | 0=>Nat.le_refl _
 | v+1=>by have:=rcCnt_le os v;simp only[rcCnt];split <;> omega
def RcTold (ys:List Int) (x:Int):Prop:=(∃ k,churnlaw13_alive.f k=some true)∧∀ way,way<2→∃ os:Nat→List Int,rcCnt os 256=128∧∀ v,v<256→(os v).length=2∧∃ k,riffle_Order.f k (rcTape ys x way v) 2 (1+(way:Int))=some (os v,0)
theorem ord_calls {k:Nat} {A:Option Addr} {n c:Nat} {l r:List Int} {a1 a2 e2:Int} {w:World} (hr:Kd.C (Kd.int .u8) w A l.length l∧l.length≤c) (e:n=l.length) (h:riffle_Order.f k l a1 a2=some (r,e2)) :
  Calls Try.prog 11 #[.slice A n c,.int .i64 a1,.int .i64 a2] w fun e w'=>∃ (A1:Option Addr) (c1:Nat),e = .returned (.tuple #[.slice A1 r.length c1,.int .i64 e2])∧RK .i64 3 w' w.heap.size w'.heap.size (.slice A1 r.length c1) r∧Below w.heap.size w w':=by
 subst e
 refine(riffle_Order.calls k A c l a1 a2 r e2 w hr.1 hr.2 h).mono ?_
 rintro e w' ⟨v,rfl,h1,hb⟩
 obtain⟨A1,c1,rfl⟩:=(RK.of h1).lit
 exact⟨A1,c1,rfl,RK.of h1,hb⟩
set_option maxHeartbeats 2000000 in
set_option maxRecDepth 100000 in
theorem rc_calls (x:Int) (ys:List Int) (w:World) (hT:RcTold ys x) (hl:ys.length=18) :
  Calls Try.prog 8 #[.int .u8 x,.agg (ys.map (Value.int .u8)).toArray] w fun e w'=>e = .returned (.bool true)∧Below w.heap.size w w':=by
 obtain⟨⟨k,hk⟩,hO⟩:=hT
 have HO:=Aside0.mk hO
 have HL:=Aside0.mk hl
 have HK:=Aside0.mk hk
 obtain⟨c,hc⟩:∃ c,c=(ys.map (Value.int .u8)).toArray:=⟨_,rfl⟩
 rw[←hc]
 have HC:=Aside0.mk hc
 clear hO hl hk hc
 go_enter Try.func8,Try.ntmps8
 go_wp2_with(fail)
 have HN:=Aside0.mk (show Kd.C (Kd.int .u8) (w.alloc (.cells c 46)) (some ⟨w.heap.size,0,none⟩) 18 ys from by have h:=C_lit .u8 w ys 46 (by have:=HL.out;omega);rw[←HC.out,HL.out] at h;exact h)
 have HW:=Aside0.mk (below_alloc (Below.refl w.heap.size w) (.cells c 46))
 with_reducible refine(churnlaw13_alive.calls k true _ rfl HK.out).mono ?_
 rintro e_ w1 ⟨rfl,hb⟩
 replace HN:=Aside0.mk (Kd.C_below HN.out hb)
 replace HW:=Aside0.mk (below_step HW.out hb)
 obtain⟨g,hg⟩:∃ g,g=w.heap.size:=⟨_,rfl⟩
 rw[←hg] at HN
 rw[←hg]
 clear hb hg HC
 go_wp2_with(fail)
 have hsl:∀ W:World,(Instr.sliceAt 46 (.pointer (some ⟨g,0,none⟩)) none none none).run Try.prog W = .ok (.slice (some ⟨g,0,none⟩) 18 18) W:=fun W=>rc_slice (e:=5) (by kernel_rfl) (by kernel_rfl) W g
 have HB:=Aside0.mk (Below.refl w1.heap.size w1)
 go_loopg [5] 2 (fun gq_ v5 wq=>∃ way:Nat,v5 = .int .i64 way∧Aside0 (way≤2)∧Aside0 (2-way≤gq_)∧Aside0 (Below w1.heap.size w1 wq))
 case atStart=>exact⟨0,rfl,⟨by omega⟩,⟨by omega⟩,HB⟩
 case round =>
  clear HB
  obtain⟨way,rfl,HI,HG,HB⟩:=hrel
  by_cases hi:way<2
  ·have d1:decide ((way:Int)<2)=true:=decide_eq_true (by omega)
   obtain⟨os,hcnt,hos⟩:=HO.out way hi
   have HCN:=Aside0.mk hcnt
   have HOS:=Aside0.mk hos
   have HIL:=Aside0.mk hi
   clear hcnt hos hi
   go_wp2_with(fail)
   have HB0:=HB
   clear HB
   go_loopg [6,7] 256 (fun gq_ v6 v7 wq=>∃ v:Nat,v6 = .int .i64 (rcCnt os v)∧v7 = .int .i64 v∧Aside0 (v≤256)∧Aside0 (256-v≤gq_)∧Aside0 (Below w1.heap.size w1 wq))
   case atStart=>exact⟨0,rfl,rfl,⟨by omega⟩,⟨by omega⟩,HB0⟩
   case round =>
    clear HB0
    obtain⟨v,rfl,rfl,HV,HG2,HB⟩:=hrel
    by_cases hv:v<256
    ·have c1:decide ((v:Int)<256)=true:=decide_eq_true (by omega)
     have c2:IntKind.u8.wrap (v:Int)=(v:Int):=by simp[IntKind.wrap,IntKind.signed,IntKind.bits];omega
     obtain⟨hlen,kk,hord⟩:=HOS.out v hv
     have HLEN:=Aside0.mk hlen
     have HVL:=Aside0.mk hv
     have HBr:=Aside0.mk (Below.refl wr.heap.size wr)
     have HN2:=Aside0.mk (Kd.C_below HN.out HB.out)
     clear hlen hv
     obtain rfl|rfl:way=0∨way=1:=by have:=HIL.out;omega
     ·replace hord:riffle_Order.f kk (ys ++ [x,(v:Int)]) 2 1=some (os v,0):=hord
      have HORD:=Aside0.mk hord
      clear hord
      go_wp2_with(first
  | ((with_reducible refine gate_dst (N:=21) rfl ?_);refine Kd.R_lit (Kd.int .u8) wr.heap.size 5 ?hg (N:=21) ?hd (xs:=([]:List Int)) (inner:=[]) (ok:=fun _=>True) (okp:=fun _=>True) ?hr ?hp (fun _ hk=>hk) trivial (Below.refl _ _) (Nat.le_refl _) (by simp) ?_;(case hd=>rfl);(case hg=>rfl);(case hr=>first|(go_simp;done)|(go_simp;rfl));(case hp=>exact(Reps.none _ _));intro v21 w21 ho21 hb hg hn;have HB21:=Aside0.mk hb;have HO21:=Aside0.mk ho21;have HBS:=Aside0.mk (below_step HBr.out hb);clear hb hg hn ho21)
  | ((with_reducible refine gate_builtin (b:=.append) (xs:=#[.tmp 21,.tmp 22]) rfl ?_);at_builtin;go_loud (refine Kd.R_app_int (k:=.u8) wr.heap.size rfl (.tmp 21) (.tmp 22) 23 5 1 rfl Try.underlying23 info5 (by omega) v21 [] ys (some ⟨g,0,none⟩) 18 18 (fun _=>True) rfl rfl trivial HO21.out (Kd.C_below HN2.out HB21.out) ?hbs ?hl ?_;(case hbs=>exact HB21.out.size);(case hl=>have:=HL.out;simp only[List.length_nil];omega);intro v23 w23 hr hg hat;have HB23:=Aside0.mk (HB21.out.grown hg HB21.out.size (Kd.R_base HO21.out));have HO23:=Aside0.mk hr;clear hr hg hat))
  | ((with_reducible refine gate_builtin (b:=.append) (xs:=#[.tmp 23,.tmp 27]) rfl ?_);at_builtin;go_loud (refine Kd.R_app_int (k:=.u8) wr.heap.size rfl (.tmp 23) (.tmp 27) 23 5 1 rfl Try.underlying23 info5 (by omega) v23 ([] ++ ys) [x,(v:Int)] (some ⟨w23.heap.size,0,none⟩) 2 2 (fun _=>True) rfl rfl trivial (Kd.R_alloc HO23.out _) (C_lit .u8 w23 [x,(v:Int)] 5 (by simp)) ?hbs ?hl ?_;(case hbs=>exact(HB23.out.alloc HB23.out.size _).size);(case hl=>have:=HL.out;simp;omega);intro v28 w28 hr hg hat;have HB28:=Aside0.mk ((HB23.out.alloc HB23.out.size _).grown hg (HB23.out.alloc HB23.out.size _).size (Kd.R_base HO23.out));have hr:Kd.R (Kd.int .u8) 5 w28 wr.heap.size (fun _=>True) v28 (ys ++ [x,(v:Int)]):=hr;have R:=Aside0.mk (RK.of hr);obtain⟨A28,c28,rfl⟩:=(RK.of hr).lit;have hl20:(ys ++ [x,(v:Int)]).length=20:=(by have:=HL.out;simp;omega);rw[hl20] at R;rw[hl20];clear hr hg hat hl20)))
      with_reducible refine(ord_calls (RK.reads R.out) ?hle HORD.out).mono ?_
      case hle=>have:=HL.out;simp;omega
      rintro e_ w45 ⟨A45,c45,rfl,h45,hb45⟩
      have R45:=Aside0.mk h45
      have HB45:=Aside0.mk (below_step (below_step HB.out HB28.out) hb45)
      rw[HLEN.out] at R45
      rw[HLEN.out]
      clear h45 hb45
      have r45:=R45.out
      obtain⟨g2,rfl⟩:=r45.head (by omega)
      obtain⟨hc2,-⟩:=Kd.R_celln (0:Int) r45 (0:Int) (by omega) (by have:=HLEN.out;omega)
      simp only[Int.toNat_zero,rdOf] at hc2
      change w45.cell? _=some (.int .i64 (rd (os v) 0)) at hc2
      clear r45
      obtain⟨z,hz⟩:∃ z,rd (os v) 0=z:=⟨_,rfl⟩
      rw[hz] at hc2
      have HZ:=Aside0.mk hz
      clear hz
      by_cases hz0:z=0
      ·have z1:(z == 0)=true:=by simp[hz0]
       have z2:rcCnt os (v+1)=rcCnt os v+1:=by simp[rcCnt,HZ.out,hz0]
       have Z2:=Aside0.mk z2
       have Z3:=Aside0.mk (rcCnt_le os v)
       clear z2
       go_wp2_with(fail)
       go_roundg (256-(v+1))
       case measure=>have:=HG2.out;have:=HVL.out;omega
       case rel=>exact⟨v+1,by have:=HVL.out;have:=Z3.out;rw[Z2.out];first|rfl|(rw[w64 (by omega) (by omega)];rfl),by have:=HVL.out;first|rfl|(rw[w64 (by omega) (by omega)];rfl),⟨by have:=HVL.out;omega⟩,⟨by omega⟩,HB45⟩
      ·have z1:(z == 0)=false:=by simp[hz0]
       have z2:rcCnt os (v+1)=rcCnt os v+0:=by simp[rcCnt,HZ.out,hz0]
       have Z2:=Aside0.mk z2
       have Z3:=Aside0.mk (rcCnt_le os v)
       clear z2
       go_wp2_with(fail)
       go_roundg (256-(v+1))
       case measure=>have:=HG2.out;have:=HVL.out;omega
       case rel=>exact⟨v+1,by have:=HVL.out;have:=Z3.out;rw[Z2.out];first|rfl|(rw[w64 (by omega) (by omega)];rfl),by have:=HVL.out;first|rfl|(rw[w64 (by omega) (by omega)];rfl),⟨by have:=HVL.out;omega⟩,⟨by omega⟩,HB45⟩
     ·replace hord:riffle_Order.f kk (ys ++ [(v:Int),x]) 2 2=some (os v,0):=hord
      have HORD:=Aside0.mk hord
      clear hord
      go_wp2_with(first
  | ((with_reducible refine gate_dst (N:=21) rfl ?_);refine Kd.R_lit (Kd.int .u8) wr.heap.size 5 ?hg (N:=21) ?hd (xs:=([]:List Int)) (inner:=[]) (ok:=fun _=>True) (okp:=fun _=>True) ?hr ?hp (fun _ hk=>hk) trivial (Below.refl _ _) (Nat.le_refl _) (by simp) ?_;(case hd=>rfl);(case hg=>rfl);(case hr=>first|(go_simp;done)|(go_simp;rfl));(case hp=>exact(Reps.none _ _));intro v21 w21 ho21 hb hg hn;have HB21:=Aside0.mk hb;have HO21:=Aside0.mk ho21;have HBS:=Aside0.mk (below_step HBr.out hb);clear hb hg hn ho21)
  | ((with_reducible refine gate_builtin (b:=.append) (xs:=#[.tmp 21,.tmp 22]) rfl ?_);at_builtin;go_loud (refine Kd.R_app_int (k:=.u8) wr.heap.size rfl (.tmp 21) (.tmp 22) 23 5 1 rfl Try.underlying23 info5 (by omega) v21 [] ys (some ⟨g,0,none⟩) 18 18 (fun _=>True) rfl rfl trivial HO21.out (Kd.C_below HN2.out HB21.out) ?hbs ?hl ?_;(case hbs=>exact HB21.out.size);(case hl=>have:=HL.out;simp only[List.length_nil];omega);intro v23 w23 hr hg hat;have HB23:=Aside0.mk (HB21.out.grown hg HB21.out.size (Kd.R_base HO21.out));have HO23:=Aside0.mk hr;clear hr hg hat))
  | ((with_reducible refine gate_builtin (b:=.append) (xs:=#[.tmp 23,.tmp 27]) rfl ?_);at_builtin;go_loud (refine Kd.R_app_int (k:=.u8) wr.heap.size rfl (.tmp 23) (.tmp 27) 23 5 1 rfl Try.underlying23 info5 (by omega) v23 ([] ++ ys) [x,(v:Int)] (some ⟨w23.heap.size,0,none⟩) 2 2 (fun _=>True) rfl rfl trivial (Kd.R_alloc HO23.out _) (C_lit .u8 w23 [x,(v:Int)] 5 (by simp)) ?hbs ?hl ?_;(case hbs=>exact(HB23.out.alloc HB23.out.size _).size);(case hl=>have:=HL.out;simp;omega);intro v28 w28 hr hg hat;have HB28:=Aside0.mk ((HB23.out.alloc HB23.out.size _).grown hg (HB23.out.alloc HB23.out.size _).size (Kd.R_base HO23.out));have hr:Kd.R (Kd.int .u8) 5 w28 wr.heap.size (fun _=>True) v28 (ys ++ [x,(v:Int)]):=hr;have R:=Aside0.mk (RK.of hr);obtain⟨A28,c28,rfl⟩:=(RK.of hr).lit;have hl20:(ys ++ [x,(v:Int)]).length=20:=(by have:=HL.out;simp;omega);rw[hl20] at R;rw[hl20];clear hr hg hat hl20)))
      have r28:=R.out
      obtain⟨g1,rfl⟩:=r28.head (by omega)
      have hl20:(ys ++ [x,(v:Int)]).length=20:=by have:=HL.out;simp;omega
      have f18:=Kd.R_celln (0:Int) r28 (18:Int) (by omega) (by omega)
      have f19:=Kd.R_celln (0:Int) r28 (19:Int) (by omega) (by omega)
      have e18:rdOf 0 (ys ++ [x,(v:Int)]) 18=x:=by have:=HL.out;simp[rdOf,List.getD_eq_getElem?_getD,List.getElem?_append_right,this]
      have e19:rdOf 0 (ys ++ [x,(v:Int)]) 19=(v:Int):=by have:=HL.out;simp[rdOf,List.getD_eq_getElem?_getD,List.getElem?_append_right,this]
      rw[e18] at f18
      rw[e19] at f19
      simp only[show(18:Int).toNat=18 from rfl,show(19:Int).toNat=19 from rfl] at f18 f19
      obtain⟨f18,z18⟩:=f18
      obtain⟨f19,z19⟩:=f19
      clear r28 e18 e19 hl20
      go_region
      have hl20:(ys ++ [x,(v:Int)]).length=20:=by have:=HL.out;simp;omega
      obtain⟨r18,g18,l18,-⟩:=R.out.put hl20 18 (by omega) (v:Int)
      obtain⟨r19,g19,-⟩:=r18.put (by rw[List.length_set];exact hl20) 19 (by omega) x
      have e20:((ys ++ [x,(v:Int)]).set 18 (v:Int)).set 19 x=ys ++ [(v:Int),x]:=by have:=HL.out;rw[List.set_append_right _ _ (by omega),List.set_append_right _ _ (by omega)];simp[this]
      rw[e20] at r19
      obtain⟨W12,hW12⟩:∃ W,W=((w28.setCell ⟨g1,18,none⟩ (.int .u8 (v:Int))).setCell ⟨g1,19,none⟩ (.int .u8 x)).drew:=⟨_,rfl⟩
      have R12:=Aside0.mk (r19.below (below_drew (Below.refl _ _)))
      have HB12:=Aside0.mk (show Below wr.heap.size wr W12 from by rw[hW12];exact below_drew ((HB28.out.setCell l18 _).setCell l18 _))
      rw[←hW12] at R12
      rw[←hW12]
      clear hl20 r18 g18 l18 r19 g19 e20 hW12 f18 f19 z18 z19
      go_wp2_with(fail)
      with_reducible refine(ord_calls (RK.reads R12.out) ?hle HORD.out).mono ?_
      case hle=>have:=HL.out;simp;omega
      rintro e_ w45 ⟨A45,c45,rfl,h45,hb45⟩
      have R45:=Aside0.mk h45
      have HB45:=Aside0.mk (below_step (below_step HB.out HB12.out) hb45)
      rw[HLEN.out] at R45
      rw[HLEN.out]
      clear h45 hb45
      have r45:=R45.out
      obtain⟨g2,rfl⟩:=r45.head (by omega)
      obtain⟨hc2,-⟩:=Kd.R_celln (0:Int) r45 (0:Int) (by omega) (by have:=HLEN.out;omega)
      simp only[Int.toNat_zero,rdOf] at hc2
      change w45.cell? _=some (.int .i64 (rd (os v) 0)) at hc2
      clear r45
      obtain⟨z,hz⟩:∃ z,rd (os v) 0=z:=⟨_,rfl⟩
      rw[hz] at hc2
      have HZ:=Aside0.mk hz
      clear hz
      by_cases hz0:z=0
      ·have z1:(z == 0)=true:=by simp[hz0]
       have z2:rcCnt os (v+1)=rcCnt os v+1:=by simp[rcCnt,HZ.out,hz0]
       have Z2:=Aside0.mk z2
       have Z3:=Aside0.mk (rcCnt_le os v)
       clear z2
       go_wp2_with(fail)
       go_roundg (256-(v+1))
       case measure=>have:=HG2.out;have:=HVL.out;omega
       case rel=>exact⟨v+1,by have:=HVL.out;have:=Z3.out;rw[Z2.out];first|rfl|(rw[w64 (by omega) (by omega)];rfl),by have:=HVL.out;first|rfl|(rw[w64 (by omega) (by omega)];rfl),⟨by have:=HVL.out;omega⟩,⟨by omega⟩,HB45⟩
      ·have z1:(z == 0)=false:=by simp[hz0]
       have z2:rcCnt os (v+1)=rcCnt os v+0:=by simp[rcCnt,HZ.out,hz0]
       have Z2:=Aside0.mk z2
       have Z3:=Aside0.mk (rcCnt_le os v)
       clear z2
       go_wp2_with(fail)
       go_roundg (256-(v+1))
       case measure=>have:=HG2.out;have:=HVL.out;omega
       case rel=>exact⟨v+1,by have:=HVL.out;have:=Z3.out;rw[Z2.out];first|rfl|(rw[w64 (by omega) (by omega)];rfl),by have:=HVL.out;first|rfl|(rw[w64 (by omega) (by omega)];rfl),⟨by have:=HVL.out;omega⟩,⟨by omega⟩,HB45⟩
    ·have c1:decide ((v:Int)<256)=false:=decide_eq_false (by omega)
     obtain rfl:v=256:=by have:=HV.out;omega
     clear hv
     rw[HCN.out]
     go_wp2_with(fail)
     go_roundg (2-(way+1))
     case measure=>have:=HG.out;have:=HIL.out;omega
     case rel=>exact⟨way+1,by have:=HIL.out;first|rfl|(rw[w64 (by omega) (by omega)];rfl),⟨by have:=HIL.out;omega⟩,⟨by omega⟩,HB⟩
  ·have d1:decide ((way:Int)<2)=false:=decide_eq_false (by omega)
   obtain rfl:way=2:=by have:=HI.out;omega
   clear hi
   go_wp2_with(fail)
   go_ret
   exact⟨rfl,below_step HW.out HB.out⟩
end Go.Proofs.Ytbnifpfnjhdenaa.Q
end
section
set_option linter.unusedVariables false
set_option linter.unusedSimpArgs false
namespace Go.Proofs.Ytbnifpfnjhdenaa.Pl
open Go.RowKit Go.Proofs.Ytbnifpfnjhdenaa.Q Go.Proofs.YtbnifpfnjhdenaaW.PrintWords Go.Proofs.YtbnifpfnjhdenaaW.PrintLast
def taken (p:List Int) (b:Int) (u:Nat):Prop:=rd p (u:Int)<256-256 % b
instance (p:List Int) (b:Int) (u:Nat):Decidable (taken p b u):=inferInstanceAs (Decidable (_<_))
def below (p:List Int) (b:Int):Nat→Nat→Int×Int×Int
 | 0,_=>(0,0,3)
 | d+1,u=>if taken p b u then(Int.tmod (rd p (u:Int)) b,((u+1:Nat):Int),0) else below p b d (u+1)
theorem bt_nums (p:List Int) (hp:∀ x ∈ p,0≤x∧x≤255) (u:Nat) (hu:u<p.length):bt (strOfNums p) (u:Int)=rd p (u:Int):=by
 have hb:=hp _ (rd_mem p (u:Int) (by simpa using hu))
 have hr:rd p (u:Int)=p[u]:=rd_lt p u hu
 rw[hr] at hb ⊢
 have hs:(u:Int).toNat<(strOfNums p).size:=by rw[strOfNums_size];simpa using hu
 rw[←bt_at (strOfNums p) (u:Int) hs]
 show(((strOfNums p).data[(u:Int).toNat]'hs).toNat:Int)=p[u]
 simp[strOfNums,UInt8.toNat_ofNat]
 omega
def lift (p:List Int) (q:Int×Int×Int):Int×ByteArray×Int×Int:=if q.2.2=0 then(q.1,strOfNums p,q.2.1,0) else(0,⟨#[]⟩,0,q.2.2)
theorem draw_below (p:List Int) (b:Int) (h1:1≤b) (h2:b≤256) (hp:∀ x ∈ p,0≤x∧x≤255) (hl:p.length≤9223372036854775000):∀ (d u k:Nat),u+d=p.length→d+1≤k→draw_Below.l0 k b (strOfNums p) (u:Int)=some (lift p (below p b d u)):=by
 intro d
 induction d with
 | zero =>
  intro u k hu hk
  obtain⟨k,rfl⟩:∃ m,k=m+1:=⟨k-1,by omega⟩
  have hw:wrap64 (((strOfNums p).size:Int)-(u:Int))=0:=by rw[strOfNums_size,w64 (by omega) (by omega)];omega
  have hB:tape_Tape_Byte.f (strOfNums p) (u:Int)=some (0,⟨#[]⟩,0,3):=by
   unfold tape_Tape_Byte.f tape_Tape_Left.f
   rw[Option.bind_some,if_pos hw]
  rw[draw_Below.l0,hB,Option.bind_some,if_neg (by decide)]
  rfl
 | succ d ih =>
  intro u k hu hk
  obtain⟨k,rfl⟩:∃ m,k=m+1:=⟨k-1,by omega⟩
  have hb:=hp _ (rd_mem p (u:Int) (by simp;omega))
  have hw:¬ wrap64 (((strOfNums p).size:Int)-(u:Int))=0:=by rw[strOfNums_size,w64 (by omega) (by omega)];omega
  have hB:tape_Tape_Byte.f (strOfNums p) (u:Int)=some (rd p (u:Int),strOfNums p,((u+1:Nat):Int),0):=by
   unfold tape_Tape_Byte.f tape_Tape_Left.f
   rw[Option.bind_some,if_neg hw,if_pos (by omega),if_pos (by rw[strOfNums_size];omega),bt_nums p hp u (by omega),w64 (by omega) (by omega)]
   rfl
  have q0:0≤(256:Int) % b:=Int.emod_nonneg _ (by omega)
  have q1:(256:Int) % b<b:=Int.emod_lt_of_pos _ (by omega)
  rw[draw_Below.l0,hB,Option.bind_some,if_pos rfl,if_neg (by omega)]
  simp only
  rw[w64 (x:=rd p (u:Int)) (by omega) (by omega),w64 (x:=256-(256:Int) % b) (by omega) (by omega)]
  unfold below
  by_cases ht:taken p b u
  ·rw[if_pos ht,if_pos (show rd p (u:Int)<256-256 % b from ht)]
   rfl
  ·rw[if_neg ht,if_neg (show ¬ rd p (u:Int)<256-256 % b from ht)]
   exact ih (u+1) k (by omega) (by omega)
end Go.Proofs.Ytbnifpfnjhdenaa.Pl
end
section
set_option linter.unusedVariables false
set_option linter.unusedSimpArgs false
namespace Go.Proofs.Ytbnifpfnjhdenaa.Pl
open Go.RowKit Go.Proofs.Ytbnifpfnjhdenaa.Q Go.Proofs.YtbnifpfnjhdenaaW.PrintWords Go.Proofs.YtbnifpfnjhdenaaW.PrintLast
def scan (p:List Int) (b:Int):Nat→Nat→Option Nat
 | 0,_=>none
 | d+1,u=>if taken p b u then some u else scan p b d (u+1)
theorem scan_some (p:List Int) (b:Int):∀ (d u j:Nat),scan p b d u=some j→u≤j∧j<u+d∧taken p b j:=by
 intro d
 induction d with
 | zero=>intro u j h;exact absurd h (by simp[scan])
 | succ d ih =>
  intro u j h
  unfold scan at h
  by_cases ht:taken p b u
  ·rw[if_pos ht] at h
   obtain rfl:=Option.some.inj h
   exact⟨Nat.le_refl _,by omega,ht⟩
  ·rw[if_neg ht] at h
   have:=ih (u+1) j h
   exact⟨by omega,by omega,this.2.2⟩
theorem below_scan (p:List Int) (b:Int):∀ (d u:Nat),below p b d u=match scan p b d u with
  | some j=>(Int.tmod (rd p (j:Int)) b,((j+1:Nat):Int),0)
  | none=>(0,0,3):=by
 intro d
 induction d with
 | zero=>intro u;rfl
 | succ d ih =>
  intro u
  unfold below scan
  by_cases ht:taken p b u
  ·rw[if_pos ht,if_pos ht]
  ·rw[if_neg ht,if_neg ht];exact ih (u+1)
def draw1 (p:List Int) (b:Int) (u:Nat):Option (Int×Nat):=if b=1 then some (0,u) else(scan p b (p.length-u) u).map fun j:Nat=>(Int.tmod (rd p (j:Int)) b,j+1)
theorem draw1_le (p:List Int) (b:Int) (u:Nat) (hu:u≤p.length) {v:Int} {n:Nat} (h:draw1 p b u=some (v,n)):u≤n∧n≤p.length∧(b≠1→u<n):=by
 unfold draw1 at h
 by_cases hb:b=1
 ·rw[if_pos hb] at h
  simp only[Option.some.injEq,Prod.mk.injEq] at h
  obtain⟨rfl,rfl⟩:=h
  exact⟨Nat.le_refl _,hu,fun h=>absurd hb h⟩
 ·rw[if_neg hb] at h
  obtain⟨j,hj,h⟩:=Option.map_eq_some_iff.1 h
  simp only[Prod.mk.injEq] at h
  obtain⟨rfl,rfl⟩:=h
  have:=scan_some p b _ u j hj
  exact⟨by omega,by omega,fun _=>by omega⟩
theorem okBound_of (b:Int) (h1:1≤b) (h2:b≤256):okBound b=true:=by unfold okBound;simp;omega
theorem drw1 (p:List Int) (b:Int) (h1:1≤b) (h2:b≤256) (hp:∀ x ∈ p,0≤x∧x≤255) (hl:p.length≤9223372036854775000) (u k:Nat) (hu:u≤p.length) (hk:p.length-u+1≤k) :
  draw_Below.f k (strOfNums p) (u:Int) b=some (match draw1 p b u with|some (v,n)=>(v,strOfNums p,(n:Int),0)|none=>(0,⟨#[]⟩,0,3)):=by
 unfold draw_Below.f
 rw[isBound_f,Option.bind_some,if_pos (okBound_of b h1 h2)]
 unfold draw1
 by_cases hb:b=1
 ·rw[if_pos hb,if_pos hb]
 ·rw[if_neg hb,if_neg hb,draw_below p b h1 h2 hp hl (p.length-u) u k (by omega) (by omega),below_scan]
  cases scan p b (p.length-u) u <;> rfl
def run (p:List Int):List Int→Nat→List (Int×Int)→List (Int×Int)×Int×Int
 | [],u,L=>(L,(u:Int),0)
 | b ::bs,u,L=>match draw1 p b u with
  | some (v,n)=>run p bs n (L ++ [(v,(n:Int)-1)])
  | none=>(L,0,3)
end Go.Proofs.Ytbnifpfnjhdenaa.Pl
end
section
set_option linter.unusedVariables false
set_option linter.unusedSimpArgs false
namespace Go.Proofs.Ytbnifpfnjhdenaa.Pl
open Go.RowKit Go.Proofs.Ytbnifpfnjhdenaa.Q Go.Proofs.YtbnifpfnjhdenaaW.PrintWords Go.Proofs.YtbnifpfnjhdenaaW.PrintLast
def AllOk (bs:List Int):Prop:=∀ b ∈ bs,1≤b∧b≤256
theorem allOk_at {bs:List Int} (h:AllOk bs) (i:Nat) (hi:i<bs.length):1≤rd bs (i:Int)∧rd bs (i:Int)≤256:=h _ (rd_mem bs (i:Int) (by simpa using hi))
def allR (q:List (Int×Int)×Int×Int):List Int×Int×Int:=if q.2.2=0 then(q.1.map (·.1),q.2.1,0) else([],0,q.2.2)
theorem drw_all (G:Nat→Int→Int→Bool) (p bs:List Int) (hb:AllOk bs) (hp:∀ x ∈ p,0≤x∧x≤255) (hl:p.length≤9223372036854775000)
  (hG:∀ (i u n:Nat) (v:Int),i<bs.length→u≤p.length→draw1 p (rd bs (i:Int)) u=some (v,n)→G i ((n:Int)-1) v=true) :
  ∀ (rem i u k:Nat) (L:List (Int×Int)),i+rem=bs.length→L.length=i→u≤p.length→p.length+rem+3≤k→eachl G k bs (strOfNums p) (u:Int) L=some (run p (bs.drop i) u L):=by
 intro rem
 induction rem with
 | zero =>
  intro i u k L hi hL hu hk
  obtain⟨k,rfl⟩:∃ m,k=m+1:=⟨k-1,by omega⟩
  rw[eachl,if_neg (by omega),List.drop_eq_nil_of_le (by omega)]
  rfl
 | succ rem ih =>
  intro i u k L hi hL hu hk
  obtain⟨k,rfl⟩:∃ m,k=m+1:=⟨k-1,by omega⟩
  obtain⟨b1,b2⟩:=allOk_at hb i (by omega)
  have hrd:bs.getD L.length 0=rd bs (i:Int):=by rw[hL,rd_nat]
  rw[eachl,if_pos (by omega),hrd,drw1 p _ b1 b2 hp hl u k hu (by omega),Option.bind_some,drop_rd bs i (by omega),run]
  cases hd:draw1 p (rd bs (i:Int)) u with
  | none=>rfl
  | some q =>
   obtain⟨v,n⟩:=q
   have hn:=draw1_le p _ u hu hd
   simp only
   rw[if_pos trivial,w64 (x:=(n:Int)-1) (by omega) (by omega),if_pos (by rw[hL];exact hG i u n v (by omega) hu hd)]
   exact ih (i+1) n k (L ++ [(v,(n:Int)-1)]) (by omega) (by simp;omega) hn.2.1 (by omega)
theorem run_len (p:List Int):∀ (bs:List Int) (u:Nat) (L:List (Int×Int)),(run p bs u L).2.2=0→(run p bs u L).1.length=L.length+bs.length:=by
 intro bs
 induction bs with
 | nil=>intro u L h;rfl
 | cons b bs ih =>
  intro u L h
  rw[run] at h ⊢
  cases hd:draw1 p b u with
  | none=>rw[hd] at h;exact absurd (show(3:Int)=0 from h) (by decide)
  | some q =>
   obtain⟨v,n⟩:=q
   rw[hd] at h
   simp only at h ⊢
   rw[ih n _ h]
   simp
   omega
theorem allOk_of {bs:List Int} (h:(bs.any fun b => !okBound b)=false):AllOk bs:=by
 intro b hb
 have:=(List.any_eq_false.1 h) b hb
 simp[okBound] at this
 omega
end Go.Proofs.Ytbnifpfnjhdenaa.Pl
end
section
set_option linter.unusedVariables false
set_option linter.unusedSimpArgs false
namespace Go.Proofs.Ytbnifpfnjhdenaa.Pl
open Go.RowKit Go.Proofs.Ytbnifpfnjhdenaa.Q Go.Proofs.YtbnifpfnjhdenaaW.PrintWords Go.Proofs.YtbnifpfnjhdenaaW.PrintLast
def allA (p bs:List Int):List Int×Int×Int:=if(bs.any fun b => !okBound b)=true then([],0,2) else allR (run p bs 0 [])
theorem drw_all_f (p bs:List Int) (hp:∀ x ∈ p,0≤x∧x≤255) (hl:p.length≤140737488351232) (hbl:bs.length≤17592186043904):draw_All.f p bs=some (allA p bs):=by
 unfold draw_All.f allA eachf
 rw[if_pos (by omega)]
 by_cases h:(bs.any fun b => !okBound b)=true
 ·rw[if_pos h,if_pos h]
  rfl
 ·have hd:eachl (fun _ _ _=>true) (p.length+bs.length+5) bs (strOfNums p) 0 []=some (run p bs 0 []):=drw_all _ p bs (allOk_of (by simpa using h)) hp (by omega) (fun _ _ _ _ _ _ _=>rfl) bs.length 0 0 _ [] (by omega) rfl (by omega) (by omega)
  rw[if_neg h,if_neg h,hd,Option.bind_some]
  unfold allR
  by_cases e:(run p bs 0 []).2.2=0
  ·rw[if_pos e,if_pos e]
   have:=run_len p bs 0 [] e
   unfold filled
   rw[this]
   simp
  ·rw[if_neg e,if_neg e]
end Go.Proofs.Ytbnifpfnjhdenaa.Pl
end
section
set_option linter.unusedVariables false
set_option linter.unusedSimpArgs false
namespace Go.Proofs.Ytbnifpfnjhdenaa.Pl
open Go.RowKit Go.Proofs.Ytbnifpfnjhdenaa.Q Go.Proofs.YtbnifpfnjhdenaaW.PrintWords Go.Proofs.YtbnifpfnjhdenaaW.PrintLast
theorem draw1_one (p:List Int) (u:Nat):draw1 p 1 u=some (0,u):=rfl
end Go.Proofs.Ytbnifpfnjhdenaa.Pl
end
section
set_option linter.unusedVariables false
set_option linter.unusedSimpArgs false
namespace Go.Proofs.Ytbnifpfnjhdenaa.Pl
open Go.RowKit Go.Proofs.Ytbnifpfnjhdenaa.Q Go.Proofs.YtbnifpfnjhdenaaW.PrintWords Go.Proofs.YtbnifpfnjhdenaaW.PrintLast
def dr (p:List Int):List Int→Nat→Option (List Int×Nat)
 | [],u=>some ([],u)
 | b ::bs,u=>(draw1 p b u).bind fun q=>(dr p bs q.2).map fun r=>(q.1 ::r.1,r.2)
theorem run_dr (p:List Int):∀ (bs:List Int) (u:Nat) (L:List (Int×Int)),
  match dr p bs u with
  | some r=>(run p bs u L).2.2=0∧(run p bs u L).2.1=(r.2:Int)∧(run p bs u L).1.map (·.1)=L.map (·.1) ++ r.1
  | none=>(run p bs u L).2.2=3:=by
 intro bs
 induction bs with
 | nil=>intro u L;exact⟨rfl,rfl,by simp[run]⟩
 | cons b bs ih =>
  intro u L
  rw[dr,run]
  cases draw1 p b u with
  | none=>rfl
  | some q =>
   obtain⟨v,n⟩:=q
   have:=ih n (L ++ [(v,(n:Int)-1)])
   simp only[Option.bind_some]
   cases h:dr p bs n with
   | none=>rw[h] at this;exact this
   | some r =>
    rw[h] at this
    simp only[Option.map_some]
    exact⟨this.1,this.2.1,by rw[this.2.2];simp⟩
def drA (p bs:List Int):List Int×Int×Int:=if(bs.any fun b => !okBound b)=true then([],0,2) else match dr p bs 0 with|some r=>(r.1,(r.2:Int),0)|none=>([],0,3)
theorem allA_dr (p bs:List Int):allA p bs=drA p bs:=by
 unfold allA drA allR
 split
 ·rfl
 ·have:=run_dr p bs 0 []
  cases h:dr p bs 0 with
  | none=>rw[h] at this;simp only at this;rw[this];rfl
  | some r =>
   rw[h] at this
   simp only at this
   rw[this.1,if_pos rfl,this.2.1,this.2.2]
   rfl
theorem scan_iff (p:List Int) (b:Int):∀ (d u j:Nat),scan p b d u=some j↔u≤j∧j<u+d∧taken p b j∧∀ i,u≤i→i<j→¬ taken p b i:=by
 intro d
 induction d with
 | zero=>intro u j;simp[scan];omega
 | succ d ih =>
  intro u j
  unfold scan
  by_cases ht:taken p b u
  ·rw[if_pos ht]
   constructor
   ·intro h
    obtain rfl:=Option.some.inj h
    exact⟨Nat.le_refl _,by omega,ht,fun i h1 h2=>by omega⟩
   ·rintro⟨h1,h2,h3,h4⟩
    by_cases e:u=j
    ·rw[e]
    ·exact absurd ht (h4 u (Nat.le_refl _) (by omega))
  ·rw[if_neg ht,ih]
   constructor
   ·rintro⟨h1,h2,h3,h4⟩
    refine⟨by omega,by omega,h3,fun i h5 h6=>?_⟩
    by_cases e:i=u
    ·rw[e];exact ht
    ·exact h4 i (by omega) h6
   ·rintro⟨h1,h2,h3,h4⟩
    refine⟨?_,by omega,h3,fun i h5 h6=>h4 i (by omega) h6⟩
    by_cases e:u=j
    ·rw[←e] at h3;exact absurd h3 ht
    ·omega
theorem draw1_iff (p:List Int) (b:Int) (hb:b≠1) (u:Nat) (hu:u≤p.length) (v:Int) (n:Nat):draw1 p b u=some (v,n)↔u<n∧n≤p.length∧taken p b (n-1)∧(∀ i,u≤i→i<n-1→¬ taken p b i)∧v=Int.tmod (rd p ((n-1:Nat):Int)) b:=by
 unfold draw1
 rw[if_neg hb,Option.map_eq_some_iff]
 constructor
 ·rintro⟨j,hj,h⟩
  rw[scan_iff] at hj
  simp only[Prod.mk.injEq] at h
  obtain⟨rfl,rfl⟩:=h
  exact⟨by omega,by omega,hj.2.2.1,fun i h1 h2=>hj.2.2.2 i h1 (by omega),rfl⟩
 ·rintro⟨h1,h2,h3,h4,rfl⟩
  exact⟨n-1,(scan_iff p b _ _ _).2 ⟨by omega,by omega,h3,h4⟩,by simp;omega⟩
end Go.Proofs.Ytbnifpfnjhdenaa.Pl
end
section
set_option linter.unusedVariables false
set_option linter.unusedSimpArgs false
namespace Go.Proofs.Ytbnifpfnjhdenaa.Pl
open Go.RowKit Go.Proofs.Ytbnifpfnjhdenaa.Q Go.Proofs.YtbnifpfnjhdenaaW.PrintWords Go.Proofs.YtbnifpfnjhdenaaW.PrintLast
def Tn (p q:List Int):List Int→List Int→List Int→Nat→Nat→Prop
 | [],[],[],u,n=>n=u
 | b ::bs,v ::vs,w ::ws,u,n=>∃ m,draw1 p b u=some (v,m)∧u≤m∧(∀ i,u≤i→i+1<m→rd q (i:Int)=rd p (i:Int))∧(b≠1→rd q ((m-1:Nat):Int)=rd p ((m-1:Nat):Int)-v+w)∧Tn p q bs vs ws m n
 | _,_,_,_,_=>False
def Bytes (p:List Int):Prop:=∀ x ∈ p,0≤x∧x≤255
theorem bytes_rd {p:List Int} (h:Bytes p) (i:Nat):0≤rd p (i:Int)∧rd p (i:Int)≤255:=by
 by_cases hi:i<p.length
 ·exact h _ (rd_mem p (i:Int) (by simpa using hi))
 ·rw[rd_nat,List.getD_eq_getElem?_getD,List.getElem?_eq_none (by omega)]
  exact⟨by decide,by decide⟩
theorem turn_one (x b w:Int) (hx:0≤x) (h1:1≤b) (h2:b≤256) (ht:x<256-256 % b) (hw0:0≤w) (hw:w<b) :
  0≤x-Int.tmod x b+w∧x-Int.tmod x b+w≤255∧x-Int.tmod x b+w<256-256 % b∧Int.tmod (x-Int.tmod x b+w) b=w:=by
 rw[Int.tmod_eq_emod_of_nonneg hx]
 have e1:=Int.mul_ediv_add_emod x b
 have e2:=Int.mul_ediv_add_emod 256 b
 have m1:=Int.emod_nonneg x (show b≠0 by omega)
 have m2:=Int.emod_lt_of_pos x (show 0<b by omega)
 have q0:=Int.ediv_nonneg hx (show 0≤b by omega)
 have m3:=Int.emod_nonneg 256 (show b≠0 by omega)
 have hq:x / b<256 / b:=by
  have:x<256 / b*b:=by rw[Int.mul_comm];omega
  exact Int.ediv_lt_of_lt_mul (by omega) this
 have hmul:b*(x / b)+b≤b*(256 / b):=by
  have h:=Int.mul_le_mul_of_nonneg_left (show x / b+1≤256 / b by omega) (show 0≤b by omega)
  rw[Int.mul_add,Int.mul_one] at h
  exact h
 have hnn:0≤b*(x / b):=Int.mul_nonneg (by omega) q0
 have ey:x-x % b+w=b*(x / b)+w:=by omega
 rw[ey]
 refine⟨by omega,by omega,by omega,?_⟩
 rw[Int.tmod_eq_emod_of_nonneg (by omega),Int.mul_add_emod_self_left]
 exact Int.emod_eq_of_lt hw0 hw
def Valid:List Int→List Int→Prop
 | [],[]=>True
 | b ::bs,w ::ws=>0≤w∧w<b∧Valid bs ws
 | _,_=>False
theorem draw1_valid (p:List Int) (hp:Bytes p) (b:Int) (h1:1≤b) (u:Nat) (hu:u≤p.length) (v:Int) (m:Nat) (h:draw1 p b u=some (v,m)):0≤v∧v<b:=by
 by_cases hb:b=1
 ·subst hb
  rw[draw1_one] at h
  simp only[Option.some.injEq,Prod.mk.injEq] at h
  omega
 ·rw[draw1_iff p b hb u hu] at h
  obtain⟨_,_,_,_,rfl⟩:=h
  have hx:=bytes_rd hp (m-1)
  rw[Int.tmod_eq_emod_of_nonneg hx.1]
  exact⟨Int.emod_nonneg _ (by omega),Int.emod_lt_of_pos _ (by omega)⟩
theorem dr_valid (p:List Int) (hp:Bytes p):∀ (bs:List Int) (u:Nat),AllOk bs→u≤p.length→∀ r,dr p bs u=some r→Valid bs r.1:=by
 intro bs
 induction bs with
 | nil=>intro u _ hu r h;obtain rfl:=Option.some.inj h;trivial
 | cons b bs ih =>
  intro u hb hu r h
  rw[dr] at h
  obtain⟨⟨v,n⟩,h1,h2⟩:=Option.bind_eq_some_iff.1 h
  obtain⟨s,h3,rfl⟩:=Option.map_eq_some_iff.1 h2
  have a:=draw1_le p b u hu h1
  have hv:=draw1_valid p hp b (hb b List.mem_cons_self).1 u hu v n h1
  exact⟨hv.1,hv.2,ih n (fun x hx=>hb x (List.mem_cons_of_mem _ hx)) a.2.1 s h3⟩
theorem Tn.dr {p q:List Int}:∀ {bs vs ws:List Int} {u n:Nat},Tn p q bs vs ws u n→dr p bs u=some (vs,n)
 | [],[],[],u,n,h=>by rw[Pl.dr];rw[show n=u from h]
 | b ::bs,v ::vs,w ::ws,u,n,h=>by
  obtain⟨m,h1,_,_,_,h5⟩:=h
  rw[Pl.dr,h1,Option.bind_some,Tn.dr h5]
  rfl
 | [],_ ::_,_,_,_,h=>h.elim
 | [],[],_ ::_,_,_,h=>h.elim
 | _ ::_,[],_,_,_,h=>h.elim
 | _ ::_,_ ::_,[],_,_,h=>h.elim
theorem back_one {p q:List Int} (hp:Bytes p) (hl:q.length=p.length) (b v w:Int) (u m:Nat) (ob:1≤b∧b≤256) (hv:0≤w∧w<b) (hu:u≤p.length) (h1:draw1 p b u=some (v,m))
  (h3:∀ i,u≤i→i+1<m→rd q (i:Int)=rd p (i:Int)) (h4:b≠1→rd q ((m-1:Nat):Int)=rd p ((m-1:Nat):Int)-v+w):draw1 q b u=some (w,m):=by
 by_cases hb1:b=1
 ·subst hb1
  have hw:w=0:=by omega
  rw[draw1_one] at h1 ⊢
  simp only[Option.some.injEq,Prod.mk.injEq] at h1 ⊢
  exact⟨hw.symm,h1.2⟩
 ·rw[draw1_iff p b hb1 u hu] at h1
  obtain⟨k1,k2,k3,k4,k5⟩:=h1
  have hx:=bytes_rd hp (m-1)
  have ht:=turn_one _ b w hx.1 ob.1 ob.2 k3 hv.1 hv.2
  have e:=h4 hb1
  rw[k5] at e
  rw[←e] at ht
  rw[draw1_iff q b hb1 u (by omega)]
  refine⟨k1,by omega,ht.2.2.1,fun i h6 h7=>?_,ht.2.2.2.symm⟩
  unfold taken
  rw[h3 i h6 (by omega)]
  exact k4 i h6 h7
theorem Tn.back {p q:List Int} (hp:Bytes p) (hl:q.length=p.length):∀ {bs vs ws:List Int} {u n:Nat},AllOk bs→Valid bs ws→u≤p.length→Tn p q bs vs ws u n→Tn q p bs ws vs u n
 | [],[],[],u,n,_,_,_,h=>h
 | b ::bs,v ::vs,w ::ws,u,n,hb,hv,hu,h=>by
  obtain⟨m,h1,h2,h3,h4,h5⟩:=h
  have a:=draw1_le p b u hu h1
  have ob:=hb b List.mem_cons_self
  exact⟨m,back_one hp hl b v w u m ob ⟨hv.1,hv.2.1⟩ hu h1 h3 h4,h2,fun i h6 h7=>(h3 i h6 h7).symm,fun hb1=>by rw[h4 hb1];omega,Tn.back hp hl (fun x hx=>hb x (List.mem_cons_of_mem _ hx)) hv.2.2 a.2.1 h5⟩
 | [],_ ::_,_,_,_,_,_,_,h=>h.elim
 | [],[],_ ::_,_,_,_,_,_,h=>h.elim
 | _ ::_,[],_,_,_,_,_,_,h=>h.elim
 | _ ::_,_ ::_,[],_,_,_,_,_,h=>h.elim
theorem Tn.on {p r q:List Int} (hp:Bytes p) (hl:r.length=p.length):∀ {bs vs zs ws:List Int} {u n n':Nat},AllOk bs→Valid bs zs→u≤p.length→Tn p r bs vs zs u n→Tn r q bs zs ws u n'→Tn p q bs vs ws u n
 | [],[],[],[],u,n,n',_,_,_,h,_=>h
 | b ::bs,v ::vs,z ::zs,w ::ws,u,n,n',hb,hv,hu,h,h'=>by
  obtain⟨m,h1,h2,h3,h4,h5⟩:=h
  obtain⟨m',k1,k2,k3,k4,k5⟩:=h'
  have a:=draw1_le p b u hu h1
  have ob:=hb b List.mem_cons_self
  have e:=back_one hp hl b v z u m ob ⟨hv.1,hv.2.1⟩ hu h1 h3 h4
  have e1:m'=m:=by
   rw[e] at k1
   simp only[Option.some.injEq,Prod.mk.injEq] at k1
   exact k1.2.symm
  subst e1
  refine⟨m',h1,h2,fun i h6 h7=>by rw[k3 i h6 h7,h3 i h6 h7],fun hb1=>by rw[k4 hb1,h4 hb1];omega,Tn.on hp hl (fun x hx=>hb x (List.mem_cons_of_mem _ hx)) hv.2.2 a.2.1 h5 k5⟩
 | [],_ ::_,_,_,_,_,_,_,_,_,h,_=>h.elim
 | [],[],_ ::_,_,_,_,_,_,_,_,h,_=>h.elim
 | _ ::_,[],_,_,_,_,_,_,_,_,h,_=>h.elim
 | _ ::_,_ ::_,[],_,_,_,_,_,_,_,h,_=>h.elim
 | [],[],[],_ ::_,_,_,_,_,_,_,_,h=>h.elim
 | _ ::_,_ ::_,_ ::_,[],_,_,_,_,_,_,_,h=>h.elim
theorem Tn.same {p q r:List Int}:∀ {bs vs ws:List Int} {u n n':Nat},u≤p.length→Tn p q bs vs ws u n→Tn p r bs vs ws u n'→∀ i,u≤i→i<n→rd q (i:Int)=rd r (i:Int)
 | [],[],[],u,n,n',_,h,_,i,h1,h2=>by
  have:n=u:=h
  omega
 | b ::bs,v ::vs,w ::ws,u,n,n',hu,h,g,i,i1,i2=>by
  obtain⟨m,h1,h2,h3,h4,h5⟩:=h
  obtain⟨m',g1,g2,g3,g4,g5⟩:=g
  have e1:m'=m:=by
   rw[h1] at g1
   simp only[Option.some.injEq,Prod.mk.injEq] at g1
   exact g1.2.symm
  subst e1
  have a:=draw1_le p b u hu h1
  by_cases c:m'≤i
  ·exact Tn.same a.2.1 h5 g5 i c i2
  ·by_cases c2:i+1<m'
   ·rw[h3 i i1 c2,g3 i i1 c2]
   ·have hb:b≠1:=by
     intro hb
     subst hb
     rw[draw1_one] at h1
     simp only[Option.some.injEq,Prod.mk.injEq] at h1
     omega
    have:i=m'-1:=by omega
    rw[this,h4 hb,g4 hb]
 | [],_ ::_,_,_,_,_,_,h,_,_,_,_=>h.elim
 | [],[],_ ::_,_,_,_,_,h,_,_,_,_=>h.elim
 | _ ::_,[],_,_,_,_,_,h,_,_,_,_=>h.elim
 | _ ::_,_ ::_,[],_,_,_,_,h,_,_,_,_=>h.elim
end Go.Proofs.Ytbnifpfnjhdenaa.Pl
end
section
set_option linter.unusedVariables false
set_option linter.unusedSimpArgs false
namespace Go.Proofs.Ytbnifpfnjhdenaa.Pl
open Go.RowKit Go.Proofs.Ytbnifpfnjhdenaa.Q Go.Proofs.YtbnifpfnjhdenaaW.PrintWords Go.Proofs.YtbnifpfnjhdenaaW.PrintLast
def Fits (l:List Int):Prop:=(∀ x ∈ l,0≤x∧x<(l.length:Int))∧l.Nodup
instance (l:List Int):Decidable (Fits l):=by unfold Fits;infer_instance
def Seen (n:Nat) (seen:List Bool) (met:List Int):Prop:=seen.length=n∧∀ v:Nat,v<n→(seen.getD v false=true↔(v:Int) ∈ met)
theorem Seen.start (n:Nat):Seen n (List.replicate n false) []:=by
 refine⟨by simp,fun v hv=>?_⟩
 simp[List.getD_eq_getElem?_getD,List.getElem?_replicate,hv]
theorem Seen.next {n:Nat} {seen:List Bool} {met:List Int} (h:Seen n seen met) (x:Int) (h0:0≤x) (hx:x<n):Seen n (seen.set x.toNat true) (met ++ [x]):=by
 refine⟨by rw[List.length_set];exact h.1,fun v hv=>?_⟩
 have hl:=h.1
 rw[List.getD_eq_getElem?_getD,List.getElem?_set]
 by_cases e:x.toNat=v
 ·have:(v:Int)=x:=by omega
  simp[e,this,hl,hv]
 ·have h1:=h.2 v hv
  rw[List.getD_eq_getElem?_getD] at h1
  simp only[e,if_false,h1,List.mem_append,List.mem_singleton]
  constructor
  ·exact Or.inl
  ·rintro(h2|h2)
   ·exact h2
   ·omega
theorem Seen.at_ {n:Nat} {seen:List Bool} {met:List Int} (h:Seen n seen met) (x:Int) (h0:0≤x) (hx:x<n):(rdOf false seen x=true↔x ∈ met):=by
 have:=h.2 x.toNat (by omega)
 rw[show((x.toNat:Nat):Int)=x from by omega] at this
 exact this
def pick (p q:List Int):List Int:=p.map fun i=>rd q i
end Go.Proofs.Ytbnifpfnjhdenaa.Pl
end
section
set_option linter.unusedVariables false
set_option linter.unusedSimpArgs false
namespace Go.Proofs.Ytbnifpfnjhdenaa.Pl
open Go.RowKit Go.Proofs.Ytbnifpfnjhdenaa.Q Go.Proofs.YtbnifpfnjhdenaaW.PrintWords Go.Proofs.YtbnifpfnjhdenaaW.PrintLast
def iota (n:Nat):List Int:=(List.range n).map fun i:Nat=>(i:Int)
theorem iota_len (n:Nat):(iota n).length=n:=by simp[iota]
theorem iota_get (n i:Nat) (h:i<(iota n).length):(iota n)[i]=(i:Int):=by simp[iota]
theorem iota_succ (n:Nat):iota (n+1)=iota n ++ [(n:Int)]:=by simp[iota,List.range_succ]
theorem mx_nat (n:Nat):mx (n:Int) 0=(n:Int):=by unfold mx;split <;> omega
theorem mx_neg (n:Int) (h:n≤0):mx n 0=0:=by unfold mx;split <;> omega
theorem identity_ev (n:Nat) (hn:n≤17592186044415):Ev (fun k=>perm_Identity.f k (n:Int)) (iota n):=by
 unfold perm_Identity.f
 rw[mx_nat]
 have key:∀ (d i:Nat),i+d=n→Ev (fun k=>perm_Identity.l0 k (iota i) (n:Int) (i:Int)) (iota n):=by
  intro d
  induction d with
  | zero =>
   intro i hi
   have:i=n:=by omega
   subst this
   exact Ev.step (f:=fun _=>some (iota i)) (fun k=>by rw[perm_Identity.l0,if_neg (by omega)]) (Ev.now _)
  | succ d ih =>
   intro i hi
   have hl:=iota_len i
   refine Ev.step (fun k=>?_) (ih (i+1) (by omega))
   rw[perm_Identity.l0,if_pos (by omega),if_pos (by omega),w64 (by omega) (by omega),iota_succ]
   rfl
 have:=key n 0 (by omega)
 simpa [iota] using this
theorem fits_inj {p:List Int} (h:Fits p) {i j:Nat} (hi:i<p.length) (hj:j<p.length) (e:p[i]=p[j]):i=j :=
 (List.getElem_inj h.2).1 e
theorem nodup_bound:∀ (n:Nat) (l:List Int),l.Nodup→(∀ x ∈ l,0≤x∧x<(n:Int))→l.length≤n
 | 0,l,_,h=>by
  cases l with
  | nil=>simp
  | cons x l=>have:=h x (by simp);omega
 | n+1,l,hn,h=>by
  by_cases hm:(n:Int) ∈ l
  ·have h1:=nodup_bound n (l.erase (n:Int)) (hn.erase _) (fun x hx=>by
    have:=(hn.mem_erase_iff).1 hx
    have:=h x this.2
    omega)
   rw[List.length_erase_of_mem hm] at h1
   omega
  ·have h1:=nodup_bound n l hn (fun x hx=>by
    have:=h x hx
    have:x≠(n:Int):=fun e=>hm (e ▸ hx)
    omega)
   omega
theorem fits_all {p:List Int} (h:Fits p) (v:Nat) (hv:v<p.length):∃ (i:Nat) (hi:i<p.length),p[i]=(v:Int):=by
 by_cases hm:(v:Int) ∈ p
 ·obtain⟨i,hi,e⟩:=List.getElem_of_mem hm
  exact⟨i,hi,e⟩
 ·have:=nodup_bound p.length ((v:Int) ::p) (List.nodup_cons.2 ⟨hm,h.2⟩) (fun x hx=>by
   rcases List.mem_cons.1 hx with rfl|hx
   ·omega
   ·exact h.1 x hx)
  simp only[List.length_cons] at this
  omega
theorem nodup_get {l:List Int} (h:∀ (i j:Nat) (hi:i<l.length) (hj:j<l.length),i<j→l[i]≠l[j]):l.Nodup:=by
 unfold List.Nodup
 rw[List.pairwise_iff_getElem]
 exact h
theorem fits_iota (n:Nat):Fits (iota n):=by
 refine⟨fun x hx=>?_,?_⟩
 ·simp only[iota,List.mem_map,List.mem_range] at hx
  obtain⟨i,hi,rfl⟩:=hx
  rw[iota_len]
  omega
 ·refine nodup_get fun i j hi hj hij=>?_
  rw[iota_get,iota_get]
  omega
theorem pick_len (p q:List Int):(pick p q).length=p.length:=by simp[pick]
theorem pick_get (p q:List Int) (i:Nat) (hi:i<p.length):(pick p q)[i]'(by rw[pick_len];exact hi)=rd q p[i]:=by simp[pick]
def IsInv (p r:List Int):Prop:=r.length=p.length∧∀ (i:Nat) (hi:i<p.length),rd r p[i]=(i:Int)
theorem IsInv.range {p r:List Int} (fp:Fits p) (h:IsInv p r) (v:Nat) (hv:v<r.length):∃ (i:Nat) (hi:i<p.length),p[i]=(v:Int)∧r[v]=(i:Int):=by
 obtain⟨i,hi,e⟩:=fits_all fp v (by rw[←h.1];exact hv)
 refine⟨i,hi,e,?_⟩
 have:=h.2 i hi
 rw[e,rd_lt r v hv] at this
 exact this
theorem IsInv.right {p r:List Int} (fp:Fits p) (h:IsInv p r):pick p r=iota p.length:=by
 apply List.ext_getElem
 ·simp[pick,iota]
 ·intro i h1 h2
  have hi:i<p.length:=by simpa [pick] using h1
  rw[pick_get p r i hi,h.2 i hi,iota_get]
theorem IsInv.left {p r:List Int} (fp:Fits p) (h:IsInv p r):pick r p=iota p.length:=by
 apply List.ext_getElem
 ·simp[pick,iota,h.1]
 ·intro v h1 h2
  have hv:v<r.length:=by simpa [pick] using h1
  obtain⟨i,hi,e1,e2⟩:=h.range fp v hv
  rw[pick_get r p v hv,e2,rd_lt p i hi,e1,iota_get]
end Go.Proofs.Ytbnifpfnjhdenaa.Pl
end
section
set_option linter.unusedVariables false
set_option linter.unusedSimpArgs false
namespace Go.Proofs.Ytbnifpfnjhdenaa.Pl
open Go.RowKit Go.Proofs.Ytbnifpfnjhdenaa.Q Go.Proofs.YtbnifpfnjhdenaaW.PrintWords Go.Proofs.YtbnifpfnjhdenaaW.PrintLast
def boundsL:Nat→List Int
  | 0=>[]
  | 1=>[]
  | n+2=>((n+2:Nat):Int) ::boundsL (n+1)
theorem boundsL_len:∀ n,(boundsL n).length=n-1
  | 0=>rfl
  | 1=>rfl
  | n+2=>by rw[boundsL,List.length_cons,boundsL_len (n+1)];omega
theorem boundsL_at:∀ (n k:Nat),k+1<n→rd (boundsL n) (k:Int)=(n:Int)-(k:Int)
  | 0,k,h=>by omega
  | 1,k,h=>by omega
  | n+2,0,h=>by rw[boundsL];simp[rd]
  | n+2,k+1,h=>by
    have:=boundsL_at (n+1) k (by omega)
    rw[boundsL]
    have e:rd (((n+2:Nat):Int) ::boundsL (n+1)) ((k+1:Nat):Int)=rd (boundsL (n+1)) (k:Int):=by rw[rd_nat,rd_nat];rfl
    rw[e,this]
    omega
theorem bounds_ev (n:Int) (hn:n≤17592186044415):Ev (fun k=>perm_Bounds.f k n) (boundsL n.toNat):=by
  unfold perm_Bounds.f
  by_cases h0:n≤1
  · have:boundsL n.toNat=[]:=List.eq_nil_of_length_eq_zero (by rw[boundsL_len];omega)
    rw[this]
    exact Ev.step (f:=fun _=>some []) (fun k=>by rw[perm_Bounds.l0,if_neg (by omega)]) (Ev.now _)
  · obtain⟨m,rfl⟩:∃ m:Nat,n=(m:Int):=⟨n.toNat,by omega⟩
    have key:∀ (j:Nat) (acc:List Int),acc.length+j≤17592186044415→Ev (fun k=>perm_Bounds.l0 k acc (j:Int)) (acc ++ boundsL j):=by
      intro j
      induction j with
      | zero=>intro acc h;exact Ev.step (f:=fun _=>some acc) (fun k=>by rw[perm_Bounds.l0,if_neg (by omega)]) (ev_some (by simp[boundsL]))
      | succ j ih =>
        intro acc h
        by_cases hj:j=0
        · subst hj
          exact Ev.step (f:=fun _=>some acc) (fun k=>by rw[perm_Bounds.l0,if_neg (by omega)]) (ev_some (by simp[boundsL]))
        · obtain⟨j,rfl⟩:∃ i,j=i+1:=⟨j-1,by omega⟩
          refine Ev.step (f:=fun k=>perm_Bounds.l0 k (acc ++ [((j+1+1:Nat):Int)]) ((j+1:Nat):Int)) (fun k=>?_) (ev_to (ih _ (by simp;omega)) (by simp[boundsL];omega))
          rw[perm_Bounds.l0,if_pos (by omega),if_pos (by omega),w64 (by omega) (by omega),show((j+1+1:Nat):Int)-1=((j+1:Nat):Int) by omega]
    exact key m [] (by simp;omega)
def FitD (n:Int) (l:List Int):Prop:=∀ k:Nat,k<l.length→0≤rd l (k:Int)∧rd l (k:Int)<n-(k:Int)
instance (n:Int) (l:List Int):Decidable (FitD n l):=by unfold FitD;infer_instance
def swp (a:List Int) (i j:Nat):List Int:=(a.set i (rd a (j:Int))).set j (rd a (i:Int))
theorem swp_len (a:List Int) (i j:Nat):(swp a i j).length=a.length:=by simp[swp]
def fromL:List Int→Nat→List Int→List Int
  | a,_,[]=>a
  | a,i,d ::ds=>fromL (swp a i d.toNat) (i-1) ds
theorem fromL_len:∀ (l a:List Int) (i:Nat),(fromL a i l).length=a.length
  | [],_,_=>rfl
  | d ::ds,a,i=>by rw[fromL,fromL_len ds,swp_len]
theorem from_walk (n:Nat) (l:List Int) (hn:l.length+1=n∨l=[]) (hl:n≤17592186044000) (hf:FitD (n:Int) l) :
    ∀ (d i:Nat) (a:List Int),i+d=l.length→a.length=n→Ev (fun k=>perm_From.l1 k (n:Int) a l (l.length:Int) (i:Int)) (fromL a (n-1-i) (l.drop i),0):=by
  intro d
  induction d with
  | zero =>
    intro i a hi ha
    rw[List.drop_eq_nil_of_le (by omega)]
    exact Ev.step (f:=fun _=>some (a,0)) (fun k=>by rw[perm_From.l1,if_neg (by omega)]) (Ev.now _)
  | succ d ih =>
    intro i a hi ha
    have hn' : l.length + 1 = n := by rcases hn with h | h; · exact h
                                      · subst h;simp at hi
    obtain⟨f1,f2⟩:=hf i (by omega)
    rw[drop_rd l i (by omega),fromL,show n-1-i-1=n-1-(i+1) by omega]
    refine Ev.step (f:=fun k=>perm_From.l1 k (n:Int) (swp a (n-1-i) (rd l (i:Int)).toNat) l (l.length:Int) ((i+1:Nat):Int)) (fun k=>?_) (ih (i+1) _ (by omega) (by rw[swp_len,ha]))
    have e:wrap64 (wrap64 ((n:Int)-1)-(i:Int))=((n-1-i:Nat):Int):=by rw[w64 (x:=(n:Int)-1) (by omega) (by omega),w64 (by omega) (by omega)];omega
    rw[perm_From.l1,if_pos (by omega),if_pos (by omega),if_pos (by omega),if_pos (by omega),if_pos (by omega),e,if_pos (by omega),if_pos (by omega),w64 (by omega) (by omega)]
    unfold swp
    rw[Int.toNat_of_nonneg f1]
    rfl
theorem from_chk (n:Nat) (l:List Int) (hl:l.length≤17592186044000) (hl2:n≤17592186044000) {R:List Int×Int} (hR:FitD (n:Int) l→Ev (fun k=>(perm_Identity.f k (n:Int)).bind fun t107=>(perm_From.l1 k (n:Int) t107 l (l.length:Int) 0)) R) :
    ∀ (d i:Nat),i+d=l.length→(∀ k:Nat,k<i→0≤rd l (k:Int)∧rd l (k:Int)<(n:Int)-(k:Int))→Ev (fun k=>perm_From.l0 k (n:Int) l l (l.length:Int) (i:Int)) (if FitD (n:Int) l then R else([],110)):=by
  intro d
  induction d with
  | zero =>
    intro i hi hk
    have hf:FitD (n:Int) l:=fun k h=>hk k (by omega)
    rw[if_pos hf]
    refine Ev.step (fun k=>?_) (hR hf)
    rw[perm_From.l0,if_neg (by omega)]
  | succ d ih =>
    intro i hi hk
    by_cases h1:rd l (i:Int)<0
    · rw[if_neg (fun hf:FitD _ l=>by have:=(hf i (by omega)).1;omega)]
      exact Ev.step (f:=fun _=>some ([],110)) (fun k=>by rw[perm_From.l0,if_pos (by omega),if_pos (by omega),if_pos (by omega),if_pos h1]) (Ev.now _)
    · by_cases h2:rd l (i:Int) ≥ (n:Int)-(i:Int)
      · rw[if_neg (fun hf:FitD _ l=>by have:=(hf i (by omega)).2;omega)]
        exact Ev.step (f:=fun _=>some ([],110)) (fun k=>by rw[perm_From.l0,if_pos (by omega),if_pos (by omega),if_pos (by omega),if_neg h1,w64 (x:=(n:Int)-(i:Int)) (by omega) (by omega),if_pos h2]) (Ev.now _)
      · refine Ev.step (fun k=>?_) (ih (i+1) (by omega) (fun k h=>?_))
        · rw[perm_From.l0,if_pos (by omega),if_pos (by omega),if_pos (by omega),if_neg h1,w64 (x:=(n:Int)-(i:Int)) (by omega) (by omega),if_neg h2,w64 (by omega) (by omega)]
          rfl
        · by_cases hki:k=i
          · subst hki;exact⟨by omega,by omega⟩
          · exact hk k (by omega)
def fromA (n:Int) (l:List Int):List Int×Int:=if n<0 then([],2) else if(l.length:Int)=mx (n-1) 0∧FitD n l then(fromL (iota n.toNat) (n.toNat-1) l,0) else([],110)
theorem mx_pos (x:Int) (h:0≤x):mx x 0=x:=by
  obtain⟨n,rfl⟩:∃ n:Nat,x=(n:Int):=⟨x.toNat,by omega⟩
  exact mx_nat n
theorem from_ev (n:Int) (l:List Int) (hn: -9223372036854775808≤n∧n≤9223372036854775807) (hl:l.length≤17592186043904):Ev (fun k=>perm_From.f k n l) (fromA n l):=by
  unfold perm_From.f fromA
  by_cases h0:n<0
  · rw[if_pos h0];exact ev_pos h0 (Ev.now _)
  · rw[if_neg h0]
    refine ev_neg h0 ?_
    rw[w64 (by omega) (by omega)]
    by_cases hm:(l.length:Int)=mx (n-1) 0
    · refine ev_pos hm ?_
      have hb:n≤17592186043905:=by
        by_cases h1:n≤1
        · omega
        · rw[mx_pos _ (by omega)] at hm;omega
      have hn':l.length+1=n.toNat∨l=[]:=by
        by_cases h1:n≤1
        · rw[mx_neg _ (by omega)] at hm
          exact Or.inr (List.eq_nil_of_length_eq_zero (by omega))
        · rw[mx_pos _ (by omega)] at hm;omega
      obtain⟨m,rfl⟩:∃ m:Nat,n=(m:Int):=⟨n.toNat,by omega⟩
      refine ev_to (from_chk m l (by omega) (by omega) (R:=(fromL (iota m) (m-1) l,0)) (fun hf=>?_) l.length 0 (by omega) (fun k h=>by omega)) ?_
      · refine ev_bind (identity_ev m (by omega)) ?_
        exact from_walk m l (by simpa using hn') (by omega) hf l.length 0 _ (by omega) (iota_len m)
      · by_cases hf:FitD (m:Int) l
        · rw[if_pos hf,if_pos ⟨hm,hf⟩]
          rfl
        · rw[if_neg hf,if_neg (fun h=>hf h.2)]
    · rw[if_neg (fun h=>hm h.1)]
      exact ev_neg hm (Ev.now _)
end Go.Proofs.Ytbnifpfnjhdenaa.Pl
end
section
set_option linter.unusedVariables false
set_option linter.unusedSimpArgs false
namespace Go.Proofs.Ytbnifpfnjhdenaa.Pl
open Go.RowKit Go.Proofs.Ytbnifpfnjhdenaa.Q Go.Proofs.YtbnifpfnjhdenaaW.PrintWords Go.Proofs.YtbnifpfnjhdenaaW.PrintLast
theorem swp_get (a:List Int) (i j m:Nat) (hi:i<a.length) (hj:j<a.length) (hm:m<a.length):rd (swp a i j) (m:Int)=if m=j then rd a (i:Int) else if m=i then rd a (j:Int) else rd a (m:Int):=by
 rw[rd_lt _ m (by rw[swp_len];exact hm)]
 unfold swp
 rw[List.getElem_set]
 by_cases h1:m=j
 ·subst h1;rw[if_pos rfl,if_pos rfl]
 ·rw[if_neg (fun h=>h1 h.symm),if_neg h1,List.getElem_set]
  by_cases h2:m=i
  ·subst h2;rw[if_pos rfl,if_pos rfl]
  ·rw[if_neg (fun h=>h2 h.symm),if_neg h2,rd_lt _ m hm]
theorem fits_rd {a:List Int} (fa:Fits a) (m:Nat) (hm:m<a.length):0≤rd a (m:Int)∧rd a (m:Int)<(a.length:Int):=fa.1 _ (rd_mem a (m:Int) (by simpa using hm))
theorem fits_rd_inj {a:List Int} (fa:Fits a) (i j:Nat) (hi:i<a.length) (hj:j<a.length) (e:rd a (i:Int)=rd a (j:Int)):i=j:=by
 rw[rd_lt a i hi,rd_lt a j hj] at e
 exact fits_inj fa hi hj e
theorem fits_of_rd {a:List Int} (h1:∀ m:Nat,m<a.length→0≤rd a (m:Int)∧rd a (m:Int)<(a.length:Int)) (h2:∀ i j:Nat,i<a.length→j<a.length→rd a (i:Int)=rd a (j:Int)→i=j):Fits a:=by
 refine⟨fun x hx=>?_,nodup_get fun i j hi hj hij e=>?_⟩
 ·obtain⟨m,hm,rfl⟩:=List.getElem_of_mem hx
  have:=h1 m hm
  rw[rd_lt a m hm] at this
  exact this
 ·have:=h2 i j hi hj (by rw[rd_lt a i hi,rd_lt a j hj];exact e)
  omega
theorem fits_swp {a:List Int} (fa:Fits a) (i j:Nat) (hi:i<a.length) (hj:j<a.length):Fits (swp a i j):=by
 refine fits_of_rd (fun m hm=>?_) (fun x y hx hy e=>?_)
 ·rw[swp_len] at hm ⊢
  rw[swp_get a i j m hi hj hm]
  split
  ·exact fits_rd fa i hi
  ·split
   ·exact fits_rd fa j hj
   ·exact fits_rd fa m hm
 ·rw[swp_len] at hx hy
  rw[swp_get a i j x hi hj hx,swp_get a i j y hi hj hy] at e
  by_cases x1:x=j
  ·by_cases y1:y=j
   ·omega
   ·rw[if_pos x1,if_neg y1] at e
    by_cases y2:y=i
    ·rw[if_pos y2] at e
     have:=fits_rd_inj fa i j hi hj e
     omega
    ·rw[if_neg y2] at e
     have:=fits_rd_inj fa i y hi hy e
     omega
  ·rw[if_neg x1] at e
   by_cases y1:y=j
   ·rw[if_pos y1] at e
    by_cases x2:x=i
    ·rw[if_pos x2] at e
     have:=fits_rd_inj fa j i hj hi e
     omega
    ·rw[if_neg x2] at e
     have:=fits_rd_inj fa x i hx hi e
     omega
   ·rw[if_neg y1] at e
    by_cases x2:x=i
    ·rw[if_pos x2] at e
     by_cases y2:y=i
     ·omega
     ·rw[if_neg y2] at e
      have:=fits_rd_inj fa j y hj hy e
      omega
    ·rw[if_neg x2] at e
     by_cases y2:y=i
     ·rw[if_pos y2] at e
      have:=fits_rd_inj fa x j hx hj e
      omega
     ·rw[if_neg y2] at e
      exact fits_rd_inj fa x y hx hy e
def pos (a:List Int) (x:Int):Nat:=a.idxOf x
theorem pos_spec {a:List Int} (fa:Fits a) (x:Int) (h0:0≤x) (h1:x<(a.length:Int)):pos a x<a.length∧rd a (pos a x:Int)=x:=by
 obtain⟨i,hi,e⟩:=fits_all fa x.toNat (by omega)
 have hx:x ∈ a:=by
  have:a[i]=x:=by rw[e];omega
  exact this ▸ List.getElem_mem hi
 have hlt:a.idxOf x<a.length:=List.idxOf_lt_length_of_mem hx
 exact⟨hlt,by unfold pos;rw[rd_lt _ _ hlt];exact List.getElem_idxOf hlt⟩
theorem pos_rd {a:List Int} (fa:Fits a) (m:Nat) (hm:m<a.length):pos a (rd a (m:Int))=m:=by
 have b:=fits_rd fa m hm
 obtain⟨p1,p2⟩:=pos_spec fa _ b.1 b.2
 exact fits_rd_inj fa _ _ p1 hm p2
def drawsL (p:List Int):List Int→Nat→List Int
 | _,0=>[]
 | a,i+1=>(pos a (rd p ((i+1:Nat):Int)):Int) ::drawsL p (swp a (i+1) (pos a (rd p ((i+1:Nat):Int)))) i
end Go.Proofs.Ytbnifpfnjhdenaa.Pl
end
section
set_option linter.unusedVariables false
set_option linter.unusedSimpArgs false
namespace Go.Proofs.Ytbnifpfnjhdenaa.Pure
open Go.RowKit Go.Proofs.Ytbnifpfnjhdenaa.Q Go.Proofs.YtbnifpfnjhdenaaW.PrintWords Go.Proofs.YtbnifpfnjhdenaaW.PrintLast Go.Proofs.Ytbnifpfnjhdenaa.Pl
theorem draws_from:∀ (i:Nat) (l a:List Int),l.length=i→FitD ((i:Int)+1) l→Fits a→(i<a.length∨i=0) →
  Fits (fromL a i l)∧(∀ m:Nat,i<m→m<a.length→rd (fromL a i l) (m:Int)=rd a (m:Int))∧drawsL (fromL a i l) a i=l:=by
 intro i
 induction i with
 | zero =>
  intro l a hl hf fa hi
  obtain rfl:=List.eq_nil_of_length_eq_zero hl
  exact⟨fa,fun m _ _=>rfl,rfl⟩
 | succ i ih =>
  intro l a hl hf fa hi
  cases l with
  | nil=>simp at hl
  | cons d ds =>
   have h0:=hf 0 (by simp)
   rw[rd_nat] at h0
   simp only[List.getD_cons_zero] at h0
   have hd:d.toNat<a.length:=by omega
   have hf':FitD ((i:Int)+1) ds:=fun k hk=>by
    have:=hf (k+1) (by simpa using hk)
    rw[rd_nat] at this ⊢
    simp only[List.getD_cons_succ] at this
    omega
   have ia:i+1<a.length:=by omega
   obtain⟨r1,r2,r3⟩:=ih ds (swp a (i+1) d.toNat) (by simpa using hl) hf' (fits_swp fa _ _ ia hd) (by rw[swp_len];omega)
   rw[fromL,Nat.add_sub_cancel]
   rw[swp_len] at r2
   have top:rd (fromL (swp a (i+1) d.toNat) i ds) ((i+1:Nat):Int)=rd a (d.toNat:Int):=by
    rw[r2 (i+1) (by omega) ia,swp_get a _ _ (i+1) ia hd ia]
    by_cases e:i+1=d.toNat
    ·rw[if_pos e,←e]
    ·rw[if_neg e,if_pos rfl]
   refine⟨r1,fun m h1 h2=>?_,?_⟩
   ·rw[r2 m (by omega) h2,swp_get a _ _ m ia hd h2,if_neg (by omega),if_neg (by omega)]
   ·rw[drawsL,top,pos_rd fa _ hd,r3,Int.toNat_of_nonneg h0.1]
end Go.Proofs.Ytbnifpfnjhdenaa.Pure
end
section
set_option linter.unusedVariables false
set_option linter.unusedSimpArgs false
namespace Go.Proofs.Ytbnifpfnjhdenaa.Pl
open Go.RowKit Go.Proofs.YtbnifpfnjhdenaaW.PrintWords Go.Proofs.YtbnifpfnjhdenaaW.PrintLast
def total:List Int→Int
 | []=>0
 | x ::l=>x+total l
def psum (l:List Int) (j:Nat):Int:=total (l.take j)
theorem total_append (a b:List Int):total (a ++ b)=total a+total b:=by
 induction a with
 | nil=>simp[total]
 | cons x a ih=>simp[total,ih];omega
theorem psum_succ (l:List Int) (j:Nat) (h:j<l.length):psum l (j+1)=psum l j+l[j]:=by
 unfold psum
 rw[List.take_succ_eq_append_getElem h,total_append]
 simp[total]
theorem psum_zero (l:List Int):psum l 0=0:=rfl
theorem psum_all (l:List Int) (j:Nat) (h:l.length≤j):psum l j=total l:=by
 unfold psum
 rw[List.take_of_length_le h]
def Nonneg (l:List Int):Prop:=∀ x ∈ l,0≤x
theorem Nonneg.at_ {l:List Int} (h:Nonneg l) (j:Nat) (hj:j<l.length):0≤l[j]:=h _ (List.getElem_mem hj)
theorem psum_mono {l:List Int} (h:Nonneg l) (i:Nat):∀ d,psum l i≤psum l (i+d):=by
 intro d
 induction d with
 | zero=>exact Int.le_refl _
 | succ d ih =>
  by_cases hl:i+d<l.length
  ·have:=psum_succ l (i+d) hl
   have:=h.at_ (i+d) hl
   rw[show i+(d+1)=i+d+1 from rfl]
   omega
  ·rw[psum_all l (i+d) (by omega)] at ih
   rw[psum_all l (i+(d+1)) (by omega)]
   exact ih
theorem psum_le {l:List Int} (h:Nonneg l) (i j:Nat) (hij:i≤j):psum l i≤psum l j:=by
 have:=psum_mono h i (j-i)
 rwa [show i+(j-i)=j from by omega] at this
theorem psum_nonneg {l:List Int} (h:Nonneg l) (j:Nat):0≤psum l j:=by
 have:=psum_le h 0 j (Nat.zero_le _)
 rwa [psum_zero] at this
theorem psum_total {l:List Int} (h:Nonneg l) (j:Nat):psum l j≤total l:=by
 rcases Nat.lt_or_ge j l.length with hl|hl
 ·have:=psum_le h j l.length (by omega)
  rwa [psum_all l l.length (Nat.le_refl _)] at this
 ·rw[psum_all l j hl];exact Int.le_refl _
theorem total_nonneg {l:List Int} (h:Nonneg l):0≤total l:=by
 have:=psum_nonneg h l.length
 rwa [psum_all l l.length (Nat.le_refl _)] at this
theorem place_unique {l:List Int} (h:Nonneg l) {i j:Nat} {o p:Int} (hi:i<l.length) (hj:j<l.length) (ho:0≤o) (ho':o<l[i]) (hp:0≤p) (hp':p<l[j]) (e:psum l i+o=psum l j+p):i=j∧o=p:=by
 rcases Nat.lt_trichotomy i j with hlt|rfl|hgt
 ·have:=psum_le h (i+1) j hlt
  rw[psum_succ l i hi] at this
  omega
 ·exact⟨rfl,by omega⟩
 ·have:=psum_le h (j+1) i hgt
  rw[psum_succ l j hj] at this
  omega
theorem place_exists {l:List Int} (h:Nonneg l) (d:Int) (h0:0≤d) (ht:d<total l):∃ (j:Nat) (hj:j<l.length) (o:Int),0≤o∧o<l[j]∧d=psum l j+o:=by
 have key:∀ n:Nat,n≤l.length→(∃ (j:Nat) (hj:j<l.length) (o:Int),0≤o∧o<l[j]∧d=psum l j+o)∨psum l n≤d:=by
  intro n
  induction n with
  | zero=>intro _;right;rw[psum_zero];exact h0
  | succ n ih =>
   intro hn
   rcases ih (by omega) with h1|h1
   ·exact .inl h1
   ·by_cases h2:d<psum l (n+1)
    ·left
     rw[psum_succ l n (by omega)] at h2
     exact⟨n,by omega,d-psum l n,by omega,by omega,by omega⟩
    ·right;omega
 rcases key l.length (Nat.le_refl _) with h1|h1
 ·exact h1
 ·rw[psum_all l l.length (Nat.le_refl _)] at h1;omega
def dec (l:List Int) (j:Nat):List Int:=l.set j (l.getD j 0-1)
theorem dec_length (l:List Int) (j:Nat):(dec l j).length=l.length:=by simp[dec]
theorem dec_get (l:List Int) (j i:Nat) (hi:i<l.length):(dec l j)[i]'(by rw[dec_length];exact hi)=if j=i then l[i]-1 else l[i]:=by
 unfold dec
 rw[List.getElem_set]
 by_cases e:j=i
 ·subst e;simp[hi]
 ·simp[e]
theorem dec_getD (l:List Int) (j i:Nat) (hi:i<l.length):(dec l j).getD i 0=if j=i then l.getD i 0-1 else l.getD i 0:=by
 rw[List.getD_eq_getElem?_getD,List.getElem?_eq_getElem (by rw[dec_length];exact hi),Option.getD_some,dec_get l j i hi]
 simp[List.getD_eq_getElem?_getD,hi]
theorem total_set (l:List Int) (j:Nat) (v:Int) (hj:j<l.length):total (l.set j v)=total l-l[j]+v:=by
 induction l generalizing j with
 | nil=>simp at hj
 | cons x l ih =>
  cases j with
  | zero=>simp[total];omega
  | succ j =>
   simp at hj
   simp[total,ih j hj]
   omega
theorem dec_total (l:List Int) (j:Nat) (hj:j<l.length):total (dec l j)=total l-1:=by
 unfold dec
 rw[total_set l j _ hj]
 simp[List.getD_eq_getElem?_getD,hj]
 omega
theorem dec_nonneg {l:List Int} (h:Nonneg l) (j:Nat) (hj:j<l.length) (hp:0<l[j]):Nonneg (dec l j):=by
 intro x hx
 obtain⟨i,hi,rfl⟩:=List.getElem_of_mem hx
 rw[dec_length] at hi
 rw[dec_get l j i hi]
 split
 ·rename_i e;subst e;omega
 ·exact h.at_ i hi
inductive Pat:List Int→List Int→List (Nat×Int)→Prop
 | nil (l:List Int):Pat l [] []
 | cons {l ds:List Int} {P:List (Nat×Int)} {d o:Int} {j:Nat} (hj:j<l.length) (h0:0≤o) (h1:o<l[j]) (hd:d=psum l j+o) (t:Pat (dec l j) ds P):Pat l (d ::ds) ((j,o) ::P)
def vis (j:Nat) (P:List (Nat×Int)):List Int:=(P.filter fun x=>x.1 == j).map (·.2)
theorem vis_nil (j:Nat):vis j []=[]:=rfl
theorem vis_cons (i j:Nat) (o:Int) (P:List (Nat×Int)):vis i ((j,o) ::P)=if j=i then o ::vis i P else vis i P:=by
 unfold vis
 by_cases e:j=i
 ·simp[e]
 ·simp[e]
theorem Pat.len {l ds:List Int} {P:List (Nat×Int)} (h:Pat l ds P):P.length=ds.length:=by
 induction h with
 | nil=>rfl
 | cons=>simp_all
theorem Pat.range {l ds:List Int} {P:List (Nat×Int)} (h:Pat l ds P):∀ x ∈ P,x.1<l.length:=by
 induction h with
 | nil=>simp
 | cons hj h0 h1 hd t ih =>
  intro x hx
  rcases List.mem_cons.1 hx with rfl|hx
  ·exact hj
  ·have:=ih x hx
   rwa [dec_length] at this
theorem Pat.unique {l ds:List Int} {P Q:List (Nat×Int)} (hn:Nonneg l) (h:Pat l ds P) (h':Pat l ds Q):P=Q:=by
 induction h generalizing Q with
 | nil=>cases h';rfl
 | cons hj h0 h1 hd t ih =>
  cases h' with
  | cons hj' h0' h1' hd' t' =>
   obtain⟨rfl,rfl⟩:=place_unique hn hj hj' h0 h1 h0' h1' (by omega)
   rw[ih (dec_nonneg hn _ hj (by omega)) t']
theorem Pat.draws {l ds es:List Int} {P:List (Nat×Int)} (h:Pat l ds P) (h':Pat l es P):ds=es:=by
 induction h generalizing es with
 | nil=>cases h';rfl
 | cons hj h0 h1 hd t ih =>
  cases h' with
  | cons hj' h0' h1' hd' t'=>rw[ih t',hd,hd']
theorem Pat.bound {l ds:List Int} {P:List (Nat×Int)} (hn:Nonneg l) (h:Pat l ds P):∀ (i:Nat) (hi:i<ds.length),0≤ds[i]∧ds[i]<total l-i:=by
 induction h with
 | nil=>intro i hi;simp at hi
 | @cons l ds P d o j hj h0 h1 hd t ih =>
  intro i hi
  have hnn:=dec_nonneg hn j hj (by omega)
  cases i with
  | zero =>
   have a:=psum_nonneg hn j
   have b:=psum_total hn (j+1)
   rw[psum_succ l j hj] at b
   simp only[List.getElem_cons_zero]
   omega
  | succ i =>
   have:=ih hnn i (by simpa using hi)
   rw[dec_total l j hj] at this
   simp only[List.getElem_cons_succ]
   omega
theorem Pat.count {l ds:List Int} {P:List (Nat×Int)} (hn:Nonneg l) (h:Pat l ds P) (ht:total l=ds.length):∀ j:Nat,j<l.length→((vis j P).length:Int)=l.getD j 0:=by
 induction h with
 | nil l =>
  intro j hj
  have a:=psum_le hn (j+1) l.length (by omega)
  rw[psum_succ l j hj,psum_all l l.length (Nat.le_refl _)] at a
  have b:=psum_nonneg hn j
  have c:=hn.at_ j hj
  simp at ht
  simp[vis_nil,List.getD_eq_getElem?_getD,hj]
  omega
 | @cons l ds P d o i hi h0 h1 hd t ih =>
  intro j hj
  have hnn:=dec_nonneg hn i hi (by omega)
  have:=ih hnn (by rw[dec_total l i hi,ht];simp) j (by rw[dec_length];exact hj)
  rw[dec_getD l i j hj] at this
  rw[vis_cons]
  by_cases e:i=j
  ·simp[e] at this ⊢
   omega
  ·simp[e] at this ⊢
   exact this
theorem Pat.count_le {l ds:List Int} {P:List (Nat×Int)} (hn:Nonneg l) (h:Pat l ds P):∀ j:Nat,j<l.length→((vis j P).length:Int)≤l.getD j 0:=by
 induction h with
 | nil l =>
  intro j hj
  have c:=hn.at_ j hj
  simp[vis_nil,List.getD_eq_getElem?_getD,hj]
  exact c
 | @cons l ds P d o i hi h0 h1 hd t ih =>
  intro j hj
  have hnn:=dec_nonneg hn i hi (by omega)
  have:=ih hnn j (by rw[dec_length];exact hj)
  rw[dec_getD l i j hj] at this
  rw[vis_cons]
  by_cases e:i=j
  ·simp[e] at this ⊢
   omega
  ·simp[e] at this ⊢
   exact this
def Rdo (nx:Nat→Nat) (off:List Int) (P:List (Nat×Int)):Prop:=∀ (j k:Nat),(hk:k<(vis j P).length)→(vis j P)[k]=off.getD (nx j+k) 0
theorem Rdo.cons {nx:Nat→Nat} {off:List Int} {P:List (Nat×Int)} {j:Nat} {o:Int} (ho:o=off.getD (nx j) 0) (h:Rdo (fun i=>if i=j then nx j+1 else nx i) off P):Rdo nx off ((j,o) ::P):=by
 intro i k hk
 by_cases e:j=i
 ·subst e
  simp only[vis_cons,if_true] at hk ⊢
  cases k with
  | zero=>simpa using ho
  | succ k =>
   have:=h j k (by simpa using hk)
   simp only[if_true] at this
   simp only[List.getElem_cons_succ,this]
   congr 1
   omega
 ·simp only[vis_cons,if_neg e] at hk ⊢
  have:=h i k hk
  simp only[if_neg (Ne.symm e)] at this
  exact this
theorem Rdo.uncons {nx:Nat→Nat} {off:List Int} {P:List (Nat×Int)} {j:Nat} {o:Int} (h:Rdo nx off ((j,o) ::P)):o=off.getD (nx j) 0∧Rdo (fun i=>if i=j then nx j+1 else nx i) off P:=by
 constructor
 ·have:=h j 0 (by simp[vis_cons])
  simpa [vis_cons] using this
 ·intro i k hk
  by_cases e:i=j
  ·subst e
   have:=h i (k+1) (by simp only[vis_cons,if_true,List.length_cons];omega)
   simp only[vis_cons,if_true,List.getElem_cons_succ] at this
   simp only[if_true,this]
   congr 1
   omega
  ·have:=h i k (by simpa [vis_cons,Ne.symm e] using hk)
   simp only[vis_cons,if_neg (Ne.symm e)] at this
   simp only[if_neg e]
   exact this
def allOff (m:Nat) (P:List (Nat×Int)):List Int:=(List.range m).flatMap fun j=>vis j P
theorem allOff_succ (m:Nat) (P:List (Nat×Int)):allOff (m+1) P=allOff m P ++ vis m P:=by
 unfold allOff
 rw[List.range_succ,List.flatMap_append]
 simp
theorem allOff_len (m:Nat) (P:List (Nat×Int)) (s:List Int) (hm:m≤s.length) (hc:∀ j,j<s.length→((vis j P).length:Int)=s.getD j 0):((allOff m P).length:Int)=psum s m:=by
 induction m with
 | zero=>simp[allOff,psum_zero]
 | succ m ih =>
  have h1:=ih (by omega)
  have h2:=hc m (by omega)
  have h3:=psum_succ s m (by omega)
  have h4:s.getD m 0=s[m]:=by simp[List.getD_eq_getElem?_getD,show m<s.length by omega]
  rw[allOff_succ,List.length_append]
  omega
def start (s:List Int) (j:Nat):Nat:=(psum s j).toNat
theorem allOff_at (m:Nat) (P:List (Nat×Int)) (s:List Int) (hn:Nonneg s) (hm:m≤s.length) (hc:∀ j,j<s.length→((vis j P).length:Int)=s.getD j 0) (j k:Nat) (hj:j<m) (hk:k<(vis j P).length) :
  (allOff m P).getD (start s j+k) 0=(vis j P)[k]:=by
 induction m with
 | zero=>omega
 | succ m ih =>
  have hl:=allOff_len m P s (by omega) hc
  rw[allOff_succ,List.getD_eq_getElem?_getD]
  have h0:=psum_nonneg hn j
  by_cases e:j=m
  ·subst e
   have hs:start s j=(allOff j P).length:=by unfold start;omega
   rw[hs,List.getElem?_append_right (by omega)]
   simp[hk]
  ·have hjm:j<m:=by omega
   have h1:=psum_le hn (j+1) m (by omega)
   rw[psum_succ s j (by omega)] at h1
   have h2:=hc j (by omega)
   have h3:s.getD j 0=s[j]:=by simp[List.getD_eq_getElem?_getD,show j<s.length by omega]
   rw[List.getElem?_append_left (by unfold start;omega),←List.getD_eq_getElem?_getD]
   exact ih (by omega) hjm
theorem vis_none {l ds:List Int} {P:List (Nat×Int)} (h:∀ x ∈ P,x.1<l.length) (j:Nat) (hj:l.length≤j):vis j P=[]:=by
 unfold vis
 simp only[List.map_eq_nil_iff,List.filter_eq_nil_iff]
 intro x hx
 have:=h x hx
 simp
 omega
theorem rdo_all {s ds:List Int} {P:List (Nat×Int)} (hn:Nonneg s) (h:Pat s ds P) (ht:total s=ds.length):Rdo (start s) (allOff s.length P) P:=by
 intro j k hk
 have hj:j<s.length:=by
  rcases Nat.lt_or_ge j s.length with h1|h1
  ·exact h1
  ·rw[vis_none (l:=s) (ds:=ds) h.range j h1] at hk
   simp at hk
 exact(allOff_at s.length P s hn (Nat.le_refl _) (h.count hn ht) j k hj hk).symm
theorem pat_exists:∀ (ds l:List Int),Nonneg l→(∀ (i:Nat) (hi:i<ds.length),0≤ds[i]∧ds[i]<total l-i)→∃ P,Pat l ds P:=by
 intro ds
 induction ds with
 | nil=>intro l _ _;exact⟨[],.nil l⟩
 | cons d ds ih =>
  intro l hn h
  have h0:=h 0 (by simp)
  simp only[List.getElem_cons_zero] at h0
  obtain⟨j,hj,o,o0,o1,e⟩:=place_exists hn d h0.1 (by omega)
  obtain⟨P,hP⟩:=ih (dec l j) (dec_nonneg hn j hj (by omega)) (fun i hi=>by
   have:=h (i+1) (by simpa using hi)
   simp only[List.getElem_cons_succ] at this
   rw[dec_total l j hj]
   omega)
  exact⟨_,.cons hj o0 o1 e hP⟩
end Go.Proofs.Ytbnifpfnjhdenaa.Pl
end
section
set_option linter.unusedVariables false
set_option linter.unusedSimpArgs false
namespace Go.Proofs.Ytbnifpfnjhdenaa.Pl
open Go.RowKit Go.Proofs.Ytbnifpfnjhdenaa.Q Go.Proofs.YtbnifpfnjhdenaaW.PrintWords Go.Proofs.YtbnifpfnjhdenaaW.PrintLast
structure OkS (s:List Int):Prop where
 one:1≤s.length
 most:s.length≤64
 each:∀ x ∈ s,0≤x∧x≤256
 all:Go.Proofs.Ytbnifpfnjhdenaa.Pl.total s≤256
theorem OkS.nonneg {s:List Int} (h:OkS s):Nonneg s:=fun x hx=>(h.each x hx).1
theorem psum_up (s:List Int) (hb:∀ x ∈ s,0≤x∧x≤256):∀ i:Nat,i≤s.length→0≤psum s i∧psum s i≤256*i:=by
 intro i
 induction i with
 | zero=>intro _;simp[psum_zero]
 | succ i ih =>
  intro hi
  have h1:=ih (by omega)
  have h2:=hb _ (List.getElem_mem (show i<s.length by omega))
  have h3:=psum_succ s i (by omega)
  omega
theorem total_ev (s:List Int) (hl:s.length≤9223372036854775000):∃ (n:Int) (b:Bool),Ev (fun k=>braid_total.f k s) (n,b)∧(b=true↔OkS s)∧(OkS s→n=total s):=by
 unfold braid_total.f
 by_cases h1:s.length<1
 ·exact⟨0,false,ev_pos (by omega) (Ev.step (f:=fun _=>some (0,false)) (fun k=>by rw[braid_total.j0,if_pos rfl]) (Ev.now _)),by simp;intro h;have:=h.one;omega,fun h=>by have:=h.one;omega⟩
 ·by_cases h2:s.length > 64
  ·exact⟨0,false,ev_neg (by omega) (Ev.step (f:=fun _=>some (0,false)) (fun k=>by rw[braid_total.j0,if_pos (by simp;omega)]) (Ev.now _)),by simp;intro h;have:=h.most;omega,fun h=>by have:=h.most;omega⟩
  ·have key:∀ (d i:Nat),i+d=s.length→(∀ x ∈ s.take i,0≤x∧x≤256)→∃ (n:Int) (b:Bool),Ev (fun k=>braid_total.l0 k (psum s i) s (s.length:Int) (i:Int)) (n,b)∧(b=true↔OkS s)∧(OkS s→n=total s):=by
    intro d
    induction d with
    | zero =>
     intro i hi hb
     rw[List.take_of_length_le (by omega)] at hb
     refine⟨psum s i,decide (psum s i≤256),Ev.step (f:=fun _=>some (psum s i,decide (psum s i≤256))) (fun k=>by rw[braid_total.l0,if_neg (by omega)]) (Ev.now _),?_,fun _=>psum_all s i (by omega)⟩
     rw[psum_all s i (by omega)]
     exact⟨fun h=>⟨by omega,by omega,hb,by simpa using h⟩,fun h=>by simpa using h.all⟩
    | succ d ih =>
     intro i hi hb
     have hm:=rd_mem s (i:Int) (by simp;omega)
     have hlt:i<s.length:=by omega
     by_cases c1:rd s (i:Int)<0
     ·exact⟨0,false,Ev.step (f:=fun _=>some (0,false)) (fun k=>by rw[braid_total.l0,if_pos (by omega),if_pos (by omega),if_pos (by omega),if_pos c1]) (Ev.now _),by simp;intro h;have:=(h.each _ hm).1;omega,fun h=>by have:=(h.each _ hm).1;omega⟩
     ·by_cases c2:rd s (i:Int) > 256
      ·exact⟨0,false,Ev.step (f:=fun _=>some (0,false)) (fun k=>by rw[braid_total.l0,if_pos (by omega),if_pos (by omega),if_pos (by omega),if_neg c1,if_pos c2]) (Ev.now _),by simp;intro h;have:=(h.each _ hm).2;omega,fun h=>by have:=(h.each _ hm).2;omega⟩
      ·have hb':∀ x ∈ s.take (i+1),0≤x∧x≤256:=by
        rw[take_rd s i hlt]
        intro x hx
        rcases List.mem_append.1 hx with hx|hx
        ·exact hb x hx
        ·have:=List.mem_singleton.1 hx;subst this;omega
       obtain⟨n,b,e,r⟩:=ih (i+1) (by omega) hb'
       have hps:psum s (i+1)=psum s i+rd s (i:Int):=by rw[psum_succ s i hlt,rd_lt s i hlt]
       have hup:=psum_up (s.take (i+1)) hb' (i+1) (by rw[List.length_take];omega)
       have hpp:psum (s.take (i+1)) (i+1)=psum s (i+1):=by unfold psum;rw[List.take_take,Nat.min_self]
       rw[hpp] at hup
       have hpos:0≤psum s i:=by
        have:=psum_up (s.take (i+1)) hb' i (by rw[List.length_take];omega)
        have hq:psum (s.take (i+1)) i=psum s i:=by unfold psum;rw[List.take_take,Nat.min_eq_left (by omega)]
        rw[hq] at this
        exact this.1
       refine⟨n,b,Ev.step (fun k=>?_) e,r⟩
       rw[braid_total.l0,if_pos (by omega),if_pos (by omega),if_pos (by omega),if_neg c1,if_neg c2,w64 (by omega) (by omega),w64 (by omega) (by omega),hps]
       rfl
   obtain⟨n,b,e,r⟩:=key s.length 0 (by omega) (by simp)
   refine⟨n,b,ev_neg (by omega) (Ev.step (fun k=>?_) e),r⟩
   rw[braid_total.j0,if_neg (by simp;omega)]
   simp[psum_zero]
def fsts (P:List (Nat×Int)):List Int:=P.map fun x=>(x.1:Int)
theorem fsts_append (P Q:List (Nat×Int)):fsts (P ++ Q)=fsts P ++ fsts Q:=by simp[fsts]
theorem vis_append (j:Nat) (P Q:List (Nat×Int)):vis j (P ++ Q)=vis j P ++ vis j Q:=by simp[vis]
def visits (m:Nat) (P:List (Nat×Int)):List (List Int):=(List.range m).map fun j=>vis j P
theorem visits_len (m:Nat) (P:List (Nat×Int)):(visits m P).length=m:=by simp[visits]
theorem visits_get (m:Nat) (P:List (Nat×Int)) (j:Nat) (hj:j<m):rd_L3 (visits m P) (j:Int)=vis j P:=by simp[rd_L3,visits,hj]
theorem visits_set (m:Nat) (P:List (Nat×Int)) (j:Nat) (hj:j<m) (o:Int):(visits m P).set j (vis j P ++ [o])=visits m (P ++ [(j,o)]):=by
 apply List.ext_getElem
 ·simp[visits]
 ·intro i h1 h2
  rw[List.getElem_set]
  have hi:i<m:=by simpa [visits] using h2
  by_cases e:j=i
  ·subst e;simp[visits,vis_append,vis_cons,vis_nil]
  ·simp[visits,vis_append,vis_cons,vis_nil,e]
theorem visits_nil (m:Nat):visits m []=List.replicate m []:=by
 apply List.ext_getElem
 ·simp[visits]
 ·intro i h1 h2;simp[visits,vis_nil]
theorem vis_le (j:Nat) (P:List (Nat×Int)):(vis j P).length≤P.length:=by
 unfold vis
 rw[List.length_map]
 exact List.length_filter_le _ _
theorem allOff_le (P:List (Nat×Int)) (m:Nat):(allOff m P).length≤m*P.length:=by
 induction m with
 | zero=>simp[allOff]
 | succ m ih =>
  rw[allOff_succ,List.length_append,Nat.succ_mul]
  have:=vis_le m P
  omega
theorem pat_flat (c:List Int) (m:Nat) (P:List (Nat×Int)) (hm:m≤64) (hP:P.length≤256):Ev (fun k=>braid_Pattern.l2 k c [] (visits m P) ((visits m P).length:Int) 0) (c,allOff m P,0):=by
 have key:∀ (d i:Nat),i+d=m→Ev (fun k=>braid_Pattern.l2 k c (allOff i P) (visits m P) ((visits m P).length:Int) (i:Int)) (c,allOff m P,0):=by
  intro d
  induction d with
  | zero =>
   intro i hi
   have:i=m:=by omega
   subst this
   exact Ev.step (f:=fun _=>some (c,allOff i P,0)) (fun k=>by rw[braid_Pattern.l2,if_neg (by rw[visits_len];omega)]) (Ev.now _)
  | succ d ih =>
   intro i hi
   have hlen:=visits_len m P
   have h1:=vis_le i P
   have h2:=allOff_le P i
   have h3:i*P.length≤64*256:=Nat.mul_le_mul (by omega) hP
   refine Ev.step (fun k=>?_) (ih (i+1) (by omega))
   rw[braid_Pattern.l2,if_pos (by omega),if_pos (by omega),if_pos (by omega),visits_get m P i (by omega),if_pos (by omega),w64 (by omega) (by omega),allOff_succ]
   rfl
 have:=key m 0 (by omega)
 simpa [allOff] using this
theorem pat_find (x4:List Int) (n:Int) (left:List Int) (Pd:List (Nat×Int)) (ds:List Int) (i:Nat) (R:List Int×List Int×Int) (hn:Nonneg left) (hm:left.length≤64) (ht:total left≤256) (hx:x4.length≤1000) (hPd:Pd.length≤1000) (hi:i<ds.length) (hds:ds.length≤256)
  (j:Nat) (hj:j<left.length) (o:Int) (o0:0≤o) (o1:o<left[j])
  (next:Ev (fun k=>braid_Pattern.l0 k (x4 ++ [(j:Int)]) [] n (dec left j) (visits left.length (Pd ++ [(j,o)])) ds (ds.length:Int) ((i+1:Nat):Int)) R) :
  ∀ (t a:Nat),a+t=j→Ev (fun k=>braid_Pattern.l1 k x4 [] n left (visits left.length Pd) (psum left j+o-psum left a) (a:Int) ds (ds.length:Int) (i:Int)) R:=by
 intro t
 induction t with
 | zero =>
  intro a ha
  have:a=j:=by omega
  subst this
  have hv:=visits_get left.length Pd a hj
  have hvl:=vis_le a Pd
  have hr:rd left (a:Int)=left[a]:=rd_lt left a hj
  have hlt:=psum_total hn (a+1)
  have hge:=psum_nonneg hn a
  rw[psum_succ left a hj] at hlt
  have hpos:=hn.at_ a hj
  refine Ev.step (fun k=>?_) next
  have hdec:left.set ((a:Int).toNat) (wrap64 (rd left (a:Int)-1))=dec left a:=by
   rw[w64 (by rw[hr];omega) (by rw[hr];omega),hr]
   simp[dec,List.getD_eq_getElem?_getD,hj]
  rw[braid_Pattern.l1,if_pos (by omega),if_pos (by omega),if_neg (by rw[hr];omega),if_pos (by omega),if_pos (by rw[visits_len];omega),hv,if_pos (by omega),hdec,w64 (by omega) (by omega),
   show psum left a+o-psum left a=o from by omega,show((a:Int).toNat)=a from by omega,visits_set left.length Pd a hj o]
  rfl
 | succ t ih =>
  intro a ha
  have hal:a<left.length:=by omega
  have hr:rd left (a:Int)=left[a]:=rd_lt left a hal
  have h1:=psum_succ left a hal
  have h2:=psum_le hn (a+1) j (by omega)
  have h3:=psum_total hn (j+1)
  rw[psum_succ left j hj] at h3
  have h4:=psum_nonneg hn a
  have h5:=hn.at_ a hal
  refine Ev.step (fun k=>?_) (ih (a+1) (by omega))
  rw[braid_Pattern.l1,if_pos (by omega),if_pos (by omega),if_pos (by rw[hr];omega),w64 (by rw[hr];omega) (by rw[hr];omega),w64 (by omega) (by omega),hr,h1,
   show psum left j+o-psum left a-left[a]=psum left j+o-(psum left a+left[a]) from by omega]
  rfl
theorem pat_loop (ds:List Int) (m:Nat) (hm:m≤64) (hds:ds.length≤256):∀ (rem i:Nat) (left:List Int) (Pd:List (Nat×Int)),i+rem=ds.length→total left=rem→Nonneg left→left.length=m→Pd.length=i →
  (∃ P,Pat left (ds.drop i) P∧Ev (fun k=>braid_Pattern.l0 k (fsts Pd) [] (ds.length:Int) left (visits m Pd) ds (ds.length:Int) (i:Int)) (fsts (Pd ++ P),allOff m (Pd ++ P),0)) ∨
  ((∃ t,i≤t∧∃ h:t<ds.length,ds[t]<0∨(ds.length:Int)-t≤ds[t])∧Ev (fun k=>braid_Pattern.l0 k (fsts Pd) [] (ds.length:Int) left (visits m Pd) ds (ds.length:Int) (i:Int)) ([],[],2)):=by
 intro rem
 induction rem with
 | zero =>
  intro i left Pd hi ht hn hl hPd
  left
  refine⟨[],by rw[List.drop_of_length_le (by omega)];exact .nil left,?_⟩
  rw[List.append_nil]
  refine Ev.step (fun k=>?_) (pat_flat (fsts Pd) m Pd hm (by omega))
  rw[braid_Pattern.l0,if_neg (by omega)]
 | succ rem ih =>
  intro i left Pd hi ht hn hl hPd
  have hlt:i<ds.length:=by omega
  have hr:rd ds (i:Int)=ds[i]:=rd_lt ds i hlt
  have hw:wrap64 ((ds.length:Int)-(i:Int))=(ds.length:Int)-i:=w64 (by omega) (by omega)
  by_cases c1:ds[i]<0
  ·right
   refine⟨⟨i,by omega,hlt,.inl c1⟩,?_⟩
   refine Ev.step (f:=fun k=>braid_Pattern.j2 k (fsts Pd) [] (ds.length:Int) left (visits m Pd) (rd ds (i:Int)) ds (ds.length:Int) (i:Int) true) (fun k=>?_) (Ev.step (f:=fun _=>some ([],[],2)) (fun k=>by rw[braid_Pattern.j2,if_pos rfl]) (Ev.now _))
   rw[braid_Pattern.l0,if_pos (by omega),if_pos (by omega),if_pos (by omega),if_pos (by rw[hr];exact c1)]
  ·by_cases c2:(ds.length:Int)-i≤ds[i]
   ·right
    refine⟨⟨i,by omega,hlt,.inr c2⟩,?_⟩
    refine Ev.step (f:=fun k=>braid_Pattern.j2 k (fsts Pd) [] (ds.length:Int) left (visits m Pd) (rd ds (i:Int)) ds (ds.length:Int) (i:Int) true) (fun k=>?_) (Ev.step (f:=fun _=>some ([],[],2)) (fun k=>by rw[braid_Pattern.j2,if_pos rfl]) (Ev.now _))
    rw[braid_Pattern.l0,if_pos (by omega),if_pos (by omega),if_pos (by omega),if_neg (by rw[hr];exact c1),hw,decide_eq_true (show rd ds (i:Int) ≥ (ds.length:Int)-i by rw[hr];exact c2)]
   ·obtain⟨j,hj,o,o0,o1,e⟩:=place_exists hn ds[i] (by omega) (by omega)
    have hdrop:ds.drop i=ds[i] ::ds.drop (i+1):=List.drop_eq_getElem_cons hlt
    have hstep:∀ R,Ev (fun k=>braid_Pattern.l0 k (fsts (Pd ++ [(j,o)])) [] (ds.length:Int) (dec left j) (visits m (Pd ++ [(j,o)])) ds (ds.length:Int) ((i+1:Nat):Int)) R →
      Ev (fun k=>braid_Pattern.l0 k (fsts Pd) [] (ds.length:Int) left (visits m Pd) ds (ds.length:Int) (i:Int)) R:=by
     intro R hR
     subst hl
     have hR':Ev (fun k=>braid_Pattern.l0 k (fsts Pd ++ [(j:Int)]) [] (ds.length:Int) (dec left j) (visits left.length (Pd ++ [(j,o)])) ds (ds.length:Int) ((i+1:Nat):Int)) R:=by
      rw[fsts_append] at hR
      exact hR
     have h0:=pat_find (fsts Pd) (ds.length:Int) left Pd ds i R hn (by omega) (by omega) (by simp[fsts];omega) (by omega) hlt hds j hj o o0 o1 hR' j 0 (by omega)
     refine Ev.step (f:=fun k=>braid_Pattern.j2 k (fsts Pd) [] (ds.length:Int) left (visits left.length Pd) (rd ds (i:Int)) ds (ds.length:Int) (i:Int) false) (fun k=>?_) (Ev.step (fun k=>?_) h0)
     ·rw[braid_Pattern.l0,if_pos (by omega),if_pos (by omega),if_pos (by omega),if_neg (by rw[hr];exact c1),hw,decide_eq_false (show ¬ rd ds (i:Int) ≥ (ds.length:Int)-i by rw[hr];exact c2)]
     ·rw[braid_Pattern.j2,if_neg (by simp),hr,e,psum_zero,Int.sub_zero]
      rfl
    rcases ih (i+1) (dec left j) (Pd ++ [(j,o)]) (by omega) (by rw[dec_total left j hj];omega) (dec_nonneg hn j hj (by omega)) (by rw[dec_length];exact hl) (by simp;omega) with⟨P,hP,hE⟩|⟨⟨t,h1,h2,h3⟩,hE⟩
    ·left
     refine⟨(j,o) ::P,by rw[hdrop];exact .cons hj o0 o1 e hP,?_⟩
     have:=hstep _ hE
     rwa [List.append_assoc,List.singleton_append] at this
    ·right
     exact⟨⟨t,by omega,h2,h3⟩,hstep _ hE⟩
def OkD (s ds:List Int):Prop:=OkS s∧(ds.length:Int)=total s∧∀ (t:Nat) (h:t<ds.length),0≤ds[t]∧ds[t]<(ds.length:Int)-t
theorem pattern_good (s ds:List Int) (hs:OkS s) (hl:(ds.length:Int)=total s):(∃ P,Pat s ds P∧Ev (fun k=>braid_Pattern.f k s ds) (fsts P,allOff s.length P,0))∨(¬ OkD s ds∧Ev (fun k=>braid_Pattern.f k s ds) ([],[],2)):=by
 have hm:=hs.most
 obtain⟨n,b,e,hb,hn⟩:=total_ev s (by omega)
 have hbt:=hb.2 hs
 have hnt:=hn hs
 subst hbt
 have hal:=hs.all
 have hin:∀ R,Ev (fun k=>braid_Pattern.l0 k (fsts []) [] (ds.length:Int) s (visits s.length []) ds (ds.length:Int) ((0:Nat):Int)) R→Ev (fun k=>braid_Pattern.f k s ds) R:=by
  intro R hR
  unfold braid_Pattern.f
  refine ev_bind e (ev_pos rfl (Ev.step (fun k=>?_) hR))
  rw[braid_Pattern.j0,if_neg (by simp;omega)]
  simp only[Option.bind_some,List.nil_append,List.length_nil]
  rw[if_pos (by omega),if_pos (by omega),if_pos (by omega),visits_nil,show((s.length:Int).toNat)=s.length from by omega,show n=(ds.length:Int) from by omega]
  rfl
 rcases pat_loop ds s.length hm (by omega) ds.length 0 s [] (by omega) (by omega) hs.nonneg rfl rfl with⟨P,hP,hE⟩|⟨⟨t,h1,h2,h3⟩,hE⟩
 ·left
  rw[List.nil_append] at hE
  exact⟨P,by simpa using hP,hin _ hE⟩
 ·right
  refine⟨fun h=>?_,hin _ hE⟩
  have:=h.2.2 t h2
  omega
end Go.Proofs.Ytbnifpfnjhdenaa.Pl
end
section
set_option linter.unusedVariables false
set_option linter.unusedSimpArgs false
namespace Go.Proofs.Ytbnifpfnjhdenaa.Pl
open Go.RowKit Go.Proofs.Ytbnifpfnjhdenaa.Q Go.Proofs.YtbnifpfnjhdenaaW.PrintWords Go.Proofs.YtbnifpfnjhdenaaW.PrintLast
def tab (m:Nat) (f:Nat→Int):List Int:=(List.range m).map f
theorem tab_len (m:Nat) (f:Nat→Int):(tab m f).length=m:=by simp[tab]
theorem tab_rd (m:Nat) (f:Nat→Int) (j:Nat) (hj:j<m):rd (tab m f) (j:Int)=f j:=by simp[rd,tab,hj]
theorem tab_set (m:Nat) (f:Nat→Int) (j:Nat) (v:Int):(tab m f).set j v=tab m (fun i=>if i=j then v else f i):=by
 apply List.ext_getElem
 ·simp[tab]
 ·intro i h1 h2
  rw[List.getElem_set]
  by_cases e:j=i
  ·subst e;simp[tab]
  ·simp[tab,e,Ne.symm e]
theorem tab_congr (m:Nat) (f g:Nat→Int) (h:∀ j,j<m→f j=g j):tab m f=tab m g:=by
 unfold tab
 exact List.map_congr_left fun j hj=>h j (List.mem_range.1 hj)
def Told (l:List Int) (nx:Nat→Nat) (c off ds:List Int) (P:List (Nat×Int)):Prop:=Pat l ds P∧fsts P=c∧Rdo nx off P
theorem Told.head {l:List Int} {nx:Nat→Nat} {x:Int} {c off ds:List Int} {P:List (Nat×Int)} (h:Told l nx (x ::c) off ds P) :
  ∃ (j:Nat) (hj:j<l.length) (o:Int) (es:List Int) (Q:List (Nat×Int)),x=(j:Int)∧o=off.getD (nx j) 0∧0≤o∧o<l[j]∧ds=(psum l j+o) ::es∧P=(j,o) ::Q∧Told (dec l j) (fun i=>if i=j then nx j+1 else nx i) c off es Q:=by
 obtain⟨h1,h2,h3⟩:=h
 cases h1 with
 | nil=>simp[fsts] at h2
 | @cons _ es Q d o j hj h0 h1 hd t =>
  obtain⟨a,b⟩:=h3.uncons
  simp[fsts] at h2
  exact⟨j,hj,o,es,Q,h2.1.symm,a,h0,h1,by rw[hd],rfl,t,by simp[fsts];exact h2.2,b⟩
theorem draws_sum (s off left nxl out c:List Int) (j:Nat) (o:Int) (n i:Int) (R:List Int×Int) (hj:j<left.length) (hn:Nonneg left) (hb:total left≤256) (hm:left.length≤64) (h0:0≤o) (h1:o≤256)
  (next:Ev (fun k=>if out.length<17592186044416 then(if 0≤(j:Int) then(if(j:Int)<(left.length:Int) then(if(j:Int)<(nxl.length:Int) then(braid_Draws.l1 k s off (left.set ((j:Int):Int).toNat (wrap64 ((rd left (j:Int))-1))) (nxl.set ((j:Int):Int).toNat (wrap64 ((rd nxl (j:Int))+1))) (out ++ [psum left j+o]) c n (wrap64 (i+1))) else(none)) else(none)) else(none)) else(none)) R) :
  Ev (fun k=>braid_Draws.l2 k s off left nxl out (j:Int) o c n i (left.take j) ((left.take j).length:Int) 0) R:=by
 have key:∀ (t a:Nat),a+t=j→Ev (fun k=>braid_Draws.l2 k s off left nxl out (j:Int) (psum left a+o) c n i (left.take j) ((left.take j).length:Int) (a:Int)) R:=by
  intro t
  induction t with
  | zero =>
   intro a ha
   have:a=j:=by omega
   subst this
   refine Ev.step (fun k=>?_) next
   rw[braid_Draws.l2,if_neg (by rw[List.length_take];omega)]
  | succ t ih =>
   intro a ha
   have hlt:(left.take j).length=j:=by rw[List.length_take];omega
   have hr:rd (left.take j) (a:Int)=left[a]:=by
    rw[rd_lt _ a (by omega)]
    simp
   have h2:=psum_succ left a (by omega)
   have h3:=psum_nonneg hn a
   have h4:=psum_total hn (a+1)
   have h5:=hn.at_ a (by omega)
   refine Ev.step (fun k=>?_) (ih (a+1) (by omega))
   rw[braid_Draws.l2,if_pos (by omega),if_pos (by omega),if_pos (by omega),hr,w64 (by omega) (by omega),w64 (by omega) (by omega),h2,show psum left a+o+left[a]=psum left a+left[a]+o from by omega]
   rfl
 have:=key j 0 (by omega)
 rw[psum_zero,Int.zero_add] at this
 exact this
theorem draws_loop (s off c:List Int) (m:Nat) (hs:s.length=m) (hm:m≤64) (hc:c.length≤256) (hoff:off.length≤256) (hsn:Nonneg s) (hso:total s≤off.length) :
  ∀ (rem i:Nat) (left:List Int) (nx:Nat→Nat) (out:List Int),i+rem=c.length→Nonneg left→total left≤256→left.length=m→out.length≤256→(∀ x ∈ left,x≤256)→(∀ j,j<m→(nx j:Int)+left.getD j 0=psum s (j+1))→out.length=i →
  (∃ ds P,Told left nx (c.drop i) off ds P∧Ev (fun k=>braid_Draws.l1 k s off left (tab m fun j=>nx j) out c (c.length:Int) (i:Int)) (out ++ ds,0)) ∨
  ((¬ ∃ ds P,Told left nx (c.drop i) off ds P)∧Ev (fun k=>braid_Draws.l1 k s off left (tab m fun j=>nx j) out c (c.length:Int) (i:Int)) ([],2)):=by
 intro rem
 induction rem with
 | zero =>
  intro i left nx out hi hn hb hl ho hmx hnx hout
  left
  refine⟨[],[],⟨.nil left,by rw[List.drop_of_length_le (by omega)];rfl,fun j k hk=>by simp[vis_nil] at hk⟩,?_⟩
  rw[List.append_nil]
  exact Ev.step (f:=fun _=>some (out,0)) (fun k=>by rw[braid_Draws.l1,if_neg (by omega)]) (Ev.now _)
 | succ rem ih =>
  intro i left nx out hi hn hb hl ho hmx hnx hout
  have hlt:i<c.length:=by omega
  have hr:rd c (i:Int)=c[i]:=rd_lt c i hlt
  have hdrop:c.drop i=c[i] ::c.drop (i+1):=List.drop_eq_getElem_cons hlt
  have bad3:∀ x:Bool,x=true→Ev (fun k=>braid_Draws.j3 k s off left (tab m fun j=>nx j) out c[i] c (c.length:Int) (i:Int) x) ([],2):=fun x hx=>Ev.step (f:=fun _=>some ([],2)) (fun k=>by rw[braid_Draws.j3,if_pos hx]) (Ev.now _)
  by_cases c1:c[i]<0
  ·right
   refine⟨?_,Ev.step (fun k=>?_) (bad3 true rfl)⟩
   ·rintro⟨ds,P,h⟩
    rw[hdrop] at h
    obtain⟨j,hj,o,es,Q,e,_⟩:=h.head
    omega
   ·rw[braid_Draws.l1,if_pos (by omega),if_pos (by omega),if_pos (by omega),hr,if_pos c1]
  ·by_cases c2:c[i] ≥ (s.length:Int)
   ·right
    refine⟨?_,Ev.step (fun k=>?_) (bad3 true rfl)⟩
    ·rintro⟨ds,P,h⟩
     rw[hdrop] at h
     obtain⟨j,hj,o,es,Q,e,_⟩:=h.head
     omega
    ·rw[braid_Draws.l1,if_pos (by omega),if_pos (by omega),if_pos (by omega),hr,if_neg c1,if_pos c2]
   ·obtain⟨j,hj⟩:∃ j:Nat,c[i]=(j:Int):=⟨c[i].toNat,by omega⟩
    have hjm:j<m:=by omega
    have hjl:j<left.length:=by omega
    have hrl:rd left (j:Int)=left[j]:=rd_lt left j hjl
    have hrn:rd (tab m fun j=>(nx j:Int)) (j:Int)=(nx j:Int):=tab_rd m _ j hjm
    have htl:=tab_len m fun j=>(nx j:Int)
    have hgl:left.getD j 0=left[j]:=by simp[List.getD_eq_getElem?_getD,hjl]
    have hpos:=hn.at_ j hjl
    have hjx:=hnx j hjm
    have hps:=psum_total hsn (j+1)
    have hmj:=hmx _ (List.getElem_mem hjl)
    have step3:∀ R,Ev (fun k=>braid_Draws.j3 k s off left (tab m fun j=>nx j) out (j:Int) c (c.length:Int) (i:Int) (left[j] == 0)) R→Ev (fun k=>braid_Draws.l1 k s off left (tab m fun j=>nx j) out c (c.length:Int) (i:Int)) R:=by
     intro R hR
     refine Ev.step (fun k=>?_) hR
     rw[braid_Draws.l1,if_pos (by omega),if_pos (by omega),if_pos (by omega),hr,hj,if_neg (by omega),if_neg (by omega),if_pos (by omega),if_pos (by omega),hrl]
    by_cases c3:left[j]=0
    ·right
     refine⟨?_,step3 _ (by rw[←hj];exact bad3 _ (by simpa using c3))⟩
     rintro⟨ds,P,h⟩
     rw[hdrop] at h
     obtain⟨j',hj',o,es,Q,e,eo,o0,o1,_⟩:=h.head
     have:j'=j:=by omega
     subst this
     omega
    ·have hno:nx j<off.length:=by omega
     have hro:rd off (nx j:Int)=off[nx j]:=rd_lt off (nx j) hno
     have hgo:off.getD (nx j) 0=off[nx j]:=by simp[List.getD_eq_getElem?_getD,hno]
     have c3':(left[j] == 0)=false:=by simpa using c3
     have bad4:∀ x:Bool,x=true→Ev (fun k=>braid_Draws.j4 k s off left (tab m fun j=>nx j) out (j:Int) off[nx j] c (c.length:Int) (i:Int) x) ([],2):=fun x hx=>Ev.step (f:=fun _=>some ([],2)) (fun k=>by rw[braid_Draws.j4,if_pos hx]) (Ev.now _)
     by_cases c4:off[nx j]<0
     ·right
      refine⟨?_,step3 _ (Ev.step (fun k=>?_) (bad4 true rfl))⟩
      ·rintro⟨ds,P,h⟩
       rw[hdrop] at h
       obtain⟨j',hj',o,es,Q,e,eo,o0,o1,_⟩:=h.head
       have:j'=j:=by omega
       subst this
       omega
      ·rw[braid_Draws.j3,if_neg (by simp[c3]),if_pos (by omega),if_pos (by omega),hrn,if_pos (by omega),if_pos (by omega),hro,if_pos c4]
     ·have step4:∀ R,Ev (fun k=>braid_Draws.j4 k s off left (tab m fun j=>nx j) out (j:Int) off[nx j] c (c.length:Int) (i:Int) (decide (off[nx j] ≥ left[j]))) R→Ev (fun k=>braid_Draws.l1 k s off left (tab m fun j=>nx j) out c (c.length:Int) (i:Int)) R:=by
       intro R hR
       refine step3 _ (Ev.step (fun k=>?_) hR)
       rw[braid_Draws.j3,if_neg (by simp[c3]),if_pos (by omega),if_pos (by omega),hrn,if_pos (by omega),if_pos (by omega),hro,if_neg c4,if_pos (by omega),hrl]
      by_cases c5:off[nx j] ≥ left[j]
      ·right
       refine⟨?_,step4 _ (bad4 _ (by simpa using c5))⟩
       rintro⟨ds,P,h⟩
       rw[hdrop] at h
       obtain⟨j',hj',o,es,Q,e,eo,o0,o1,_⟩:=h.head
       have:j'=j:=by omega
       subst this
       omega
      ·have hdec:left.set j (wrap64 (left[j]-1))=dec left j:=by
        rw[w64 (by omega) (by omega)]
        unfold dec
        rw[hgl]
       have hnxs:(tab m fun j=>(nx j:Int)).set j (wrap64 ((nx j:Int)+1))=tab m (fun i=>((if i=j then nx j+1 else nx i:Nat):Int)):=by
        rw[w64 (by omega) (by omega),tab_set]
        refine tab_congr m _ _ fun a ha=>?_
        by_cases e:a=j
        ·simp[e]
        ·simp[e]
       have step5:∀ R,Ev (fun k=>braid_Draws.l1 k s off (dec left j) (tab m (fun i=>((if i=j then nx j+1 else nx i:Nat):Int))) (out ++ [psum left j+off[nx j]]) c (c.length:Int) ((i+1:Nat):Int)) R →
         Ev (fun k=>braid_Draws.l1 k s off left (tab m fun j=>nx j) out c (c.length:Int) (i:Int)) R:=by
        intro R hR
        have h6:=draws_sum s off left (tab m fun j=>(nx j:Int)) out c j off[nx j] (c.length:Int) (i:Int) R hjl hn hb (by omega) (by omega) (by omega) (by
         refine ev_pos (by omega) (ev_pos (by omega) (ev_pos (by omega) (ev_pos (by omega) ?_)))
         rw[hrl,hrn,show((j:Int):Int).toNat=j from by omega,hdec,hnxs,w64 (by omega) (by omega)]
         exact hR)
        refine step4 _ (Ev.step (fun k=>?_) h6)
        rw[braid_Draws.j4,if_neg (by simp;omega),if_pos (by omega),if_pos (by omega),show((j:Int):Int).toNat=j from by omega]
        rfl
       have hnn:=dec_nonneg hn j hjl (by omega)
       rcases ih (i+1) (dec left j) (fun a=>if a=j then nx j+1 else nx a) (out ++ [psum left j+off[nx j]]) (by omega) hnn (by rw[dec_total left j hjl];omega) (by rw[dec_length];exact hl) (by simp;omega) (by
         intro x hx
         obtain⟨a,ha,rfl⟩:=List.getElem_of_mem hx
         rw[dec_length] at ha
         rw[dec_get left j a ha]
         have:=hmx _ (List.getElem_mem ha)
         split <;> omega) (by
         intro a ha
         rw[dec_getD left j a (by omega)]
         have:=hnx a ha
         by_cases e:a=j
         ·subst e
          simp only[if_true]
          omega
         ·simp only[if_neg e,if_neg (Ne.symm e)]
          exact this) (by simp;omega) with⟨ds,P,hP,hE⟩|⟨hP,hE⟩
       ·left
        refine⟨(psum left j+off[nx j]) ::ds,(j,off[nx j]) ::P,?_,?_⟩
        ·rw[hdrop]
         exact⟨.cons hjl (by omega) (by omega) rfl hP.1,by simp only[fsts,List.map_cons];rw[←hj];have:=hP.2.1;unfold fsts at this;rw[this],Rdo.cons hgo.symm hP.2.2⟩
        ·have:=step5 _ hE
         rwa [List.append_assoc,List.singleton_append] at this
       ·right
        refine⟨?_,step5 _ hE⟩
        rintro⟨ds,P,h⟩
        rw[hdrop] at h
        obtain⟨j',hj',o,es,Q,e,eo,o0,o1,_,_,ht⟩:=h.head
        have:j'=j:=by omega
        subst this
        exact hP ⟨es,Q,ht⟩
theorem draws_good (s c off:List Int) (hs:OkS s) (hc:(c.length:Int)=total s) (ho:(off.length:Int)=total s) :
  (∃ ds P,Told s (start s) c off ds P∧Ev (fun k=>braid_Draws.f k s c off) (ds,0))∨((¬ ∃ ds P,Told s (start s) c off ds P)∧Ev (fun k=>braid_Draws.f k s c off) ([],2)):=by
 have hm:=hs.most
 have hal:=hs.all
 have hone:=hs.one
 obtain⟨n,b,e,hb,hn⟩:=total_ev s (by omega)
 have hbt:=hb.2 hs
 have hnt:=hn hs
 subst hbt
 have hnn:=hs.nonneg
 have hin:∀ R,Ev (fun k=>braid_Draws.l1 k s off s (tab s.length fun j=>(start s j:Nat)) [] c (c.length:Int) ((0:Nat):Int)) R→Ev (fun k=>braid_Draws.f k s c off) R:=by
  intro R hR
  have key:∀ (d a:Nat),a+d=s.length→1≤a→Ev (fun k=>braid_Draws.l0 k s c off n s (tab s.length fun j=>if j<a then psum s j else 0) (a:Int)) R:=by
   intro d
   induction d with
   | zero =>
    intro a ha h1
    refine Ev.step (fun k=>?_) hR
    rw[braid_Draws.l0,if_neg (by omega),if_pos (by omega),if_pos (by omega)]
    have:(tab s.length fun j=>if j<a then psum s j else 0)=tab s.length fun j=>((start s j:Nat):Int):=tab_congr _ _ _ fun j hj=>by
     have:=psum_nonneg hnn j
     unfold start
     rw[if_pos (by omega)]
     omega
    rw[this]
    rfl
   | succ d ih =>
    intro a ha h1
    have htl:=tab_len s.length fun j=>if j<a then psum s j else 0
    have hw:wrap64 ((a:Int)-1)=((a-1:Nat):Int):=by rw[w64 (by omega) (by omega)];omega
    have h2:=psum_succ s (a-1) (by omega)
    rw[show a-1+1=a from by omega] at h2
    have h3:=psum_nonneg hnn a
    have h4:=psum_total hnn a
    refine Ev.step (fun k=>?_) (ih (a+1) (by omega) (by omega))
    rw[braid_Draws.l0,if_pos (by omega),hw,if_pos (by omega),if_pos (by omega),if_pos (by omega),if_pos (by omega),if_pos (by omega),tab_rd _ _ (a-1) (by omega),rd_lt s (a-1) (by omega),if_pos (by omega),←h2,w64 (by omega) (by omega),w64 (by omega) (by omega),
     show((a:Int):Int).toNat=a from by omega,tab_set]
    have:(tab s.length fun i=>if i=a then psum s a else if i<a then psum s i else 0)=tab s.length fun j=>if j<a+1 then psum s j else 0:=tab_congr _ _ _ fun j hj=>by
     by_cases e:j=a
     ·subst e;simp
     ·by_cases e2:j<a
      ·simp[e,e2,show j<a+1 from by omega]
      ·simp[e,e2,show ¬ j<a+1 from by omega]
    rw[this]
    rfl
  have h1:=key (s.length-1) 1 (by omega) (by omega)
  unfold braid_Draws.f
  refine ev_bind e (ev_pos rfl (ev_pos (by omega) (Ev.step (fun k=>?_) h1)))
  rw[braid_Draws.j0,if_neg (by simp;omega)]
  simp only[Option.bind_some,List.nil_append,List.length_nil]
  have hrep:(tab s.length fun j=>if j<1 then psum s j else 0)=List.replicate s.length 0:=by
   apply List.ext_getElem
   ·simp[tab]
   ·intro i h1 h2
    simp only[tab,List.getElem_map,List.getElem_range,List.getElem_replicate]
    split
    ·rename_i h
     rw[show i=0 from by omega,psum_zero]
    ·rfl
  rw[if_pos (by omega),if_pos (by omega),if_pos (by omega),show((s.length:Int).toNat)=s.length from by omega,hrep]
  rfl
 rcases draws_loop s off c s.length rfl hm (by omega) (by omega) hnn (by omega) c.length 0 s (start s) [] (by omega) hnn hal rfl (by simp) (fun x hx=>(hs.each x hx).2) (by
  intro j hj
  have:=psum_nonneg hnn j
  rw[psum_succ s j hj]
  unfold start
  simp[List.getD_eq_getElem?_getD,hj]
  omega) rfl with⟨ds,P,hP,hE⟩|⟨hP,hE⟩
 ·left
  rw[List.nil_append] at hE
  exact⟨ds,P,by simpa using hP,hin _ hE⟩
 ·right
  exact⟨by simpa using hP,hin _ hE⟩
end Go.Proofs.Ytbnifpfnjhdenaa.Pl
end
section
set_option linter.unusedVariables false
set_option linter.unusedSimpArgs false
namespace Go.Proofs.Ytbnifpfnjhdenaa.Pl
open Go.RowKit Go.Proofs.Ytbnifpfnjhdenaa.Q Go.Proofs.YtbnifpfnjhdenaaW.PrintWords Go.Proofs.YtbnifpfnjhdenaaW.PrintLast
structure Good (s ds:List Int) (P:List (Nat×Int)):Prop where
 sizes:OkS s
 len:(ds.length:Int)=total s
 pat:Pat s ds P
theorem Good.le {s ds:List Int} {P:List (Nat×Int)} (g:Good s ds P):ds.length≤256∧P.length=ds.length∧(fsts P).length=ds.length∧(allOff s.length P).length=ds.length:=by
 have h1:=g.sizes.all
 have h2:=g.len
 have h3:=g.pat.len
 have h4:=allOff_len s.length P s (Nat.le_refl _) (g.pat.count g.sizes.nonneg h2.symm)
 rw[psum_all s s.length (Nat.le_refl _)] at h4
 exact⟨by omega,h3,by simp[fsts];exact h3,by omega⟩
theorem Good.pattern {s ds:List Int} {P:List (Nat×Int)} (g:Good s ds P):Ev (fun k=>braid_Pattern.f k s ds) (fsts P,allOff s.length P,0):=by
 rcases pattern_good s ds g.sizes g.len with⟨Q,h1,h2⟩|⟨h1,_⟩
 ·rw[g.pat.unique g.sizes.nonneg h1]
  exact h2
 ·refine absurd ⟨g.sizes,g.len,fun t ht=>?_⟩ h1
  have:=g.pat.bound g.sizes.nonneg t ht
  rw[←g.len] at this
  exact this
theorem told_unique (off:List Int):∀ (A B:List (Nat×Int)) (nx:Nat→Nat),A.map (·.1)=B.map (·.1)→Rdo nx off A→Rdo nx off B→A=B:=by
 intro A
 induction A with
 | nil=>intro B nx e _ _;cases B with
  | nil=>rfl
  | cons b B=>simp at e
 | cons a A ih =>
  intro B nx e ha hb
  cases B with
  | nil=>simp at e
  | cons b B =>
   obtain⟨j,o⟩:=a
   obtain⟨i,p⟩:=b
   simp only[List.map_cons,List.cons.injEq] at e
   obtain⟨rfl,e2⟩:=e
   obtain⟨a1,a2⟩:=ha.uncons
   obtain⟨b1,b2⟩:=hb.uncons
   rw[a1,b1,ih B _ e2 a2 b2]
theorem Good.back {s ds:List Int} {P:List (Nat×Int)} (g:Good s ds P):Ev (fun k=>braid_Draws.f k s (fsts P) (allOff s.length P)) (ds,0):=by
 have hle:=g.le
 have hl:=g.len
 have hT:Told s (start s) (fsts P) (allOff s.length P) ds P:=⟨g.pat,rfl,rdo_all g.sizes.nonneg g.pat g.len.symm⟩
 rcases draws_good s (fsts P) (allOff s.length P) g.sizes (by omega) (by omega) with⟨es,Q,h1,h2⟩|⟨h1,_⟩
 ·have hPQ:P=Q:=by
   have e1:P.map (·.1)=Q.map (·.1):=by
    have:=h1.2.1
    unfold fsts at this
    have h3:∀ (A B:List (Nat×Int)),A.map (fun x=>(x.1:Int))=B.map (fun x=>(x.1:Int))→A.map (·.1)=B.map (·.1):=by
     intro A
     induction A with
     | nil=>intro B h;cases B with
      | nil=>rfl
      | cons b B=>simp at h
     | cons a A ih=>intro B h;cases B with
      | nil=>simp at h
      | cons b B =>
       simp only[List.map_cons,List.cons.injEq] at h ⊢
       exact⟨by omega,ih B h.2⟩
    exact(h3 Q P this).symm
   exact told_unique _ _ _ _ e1 hT.2.2 h1.2.2
  subst hPQ
  rw[g.pat.draws h1.1]
  exact h2
 ·exact absurd ⟨ds,P,hT⟩ h1
theorem Good.inj {s ds es:List Int} {P Q:List (Nat×Int)} (g:Good s ds P) (g':Good s es Q) (h1:fsts P=fsts Q) (h2:allOff s.length P=allOff s.length Q):ds=es:=by
 have a:=g.back
 have b:=g'.back
 rw[h1,h2] at a
 obtain⟨K1,e1⟩:=a
 obtain⟨K2,e2⟩:=b
 have x:=e1 (max K1 K2) (Nat.le_max_left _ _)
 have y:=e2 (max K1 K2) (Nat.le_max_right _ _)
 rw[x] at y
 exact congrArg Prod.fst (Option.some.inj y)
theorem Good.same {s ds es:List Int} {P Q:List (Nat×Int)} (g:Good s ds P) (g':Good s es Q) (h:ds=es):P=Q:=by
 subst h
 exact g.pat.unique g.sizes.nonneg g'.pat
end Go.Proofs.Ytbnifpfnjhdenaa.Pl
end
section
set_option linter.unusedVariables false
set_option linter.unusedSimpArgs false
namespace Go.Proofs.Ytbnifpfnjhdenaa.Pl
open Go.RowKit Go.Proofs.Ytbnifpfnjhdenaa.Q Go.Proofs.YtbnifpfnjhdenaaW.PrintWords Go.Proofs.YtbnifpfnjhdenaaW.PrintLast
def szf (n m j:Nat):Nat:=n / m+(if j<n % m then 1 else 0)
def sz (n m:Nat):List Int:=tab m fun j=>(szf n m j:Int)
theorem sz_len (n m:Nat):(sz n m).length=m:=tab_len _ _
theorem sizes_good (n m:Nat) (hn:n≤256) (h1:1≤m) (h2:m≤64):Ev (fun k=>braid_Sizes.f k (n:Int) (m:Int)) (sz n m,0):=by
 unfold braid_Sizes.f
 refine ev_neg (by omega) (ev_neg (by omega) (ev_neg (by omega) ?_))
 refine Ev.step (fun k=>by rw[braid_Sizes.j0,if_neg (by simp;omega),if_pos (by omega),if_pos (by omega),Option.bind_some]) ?_
 have hd:n / m≤256:=Nat.le_trans (Nat.div_le_self _ _) hn
 obtain⟨q,hq⟩:∃ q,n / m=q:=⟨_,rfl⟩
 obtain⟨r,hr0⟩:∃ r,n % m=r:=⟨_,rfl⟩
 have t1:Int.tdiv (n:Int) (m:Int)=(q:Int):=by rw[←hq];rfl
 have t2:Int.tmod (n:Int) (m:Int)=(r:Int):=by rw[←hr0];rfl
 have hz:∀ j,(szf n m j:Int)=(q:Int)+(if j<r then 1 else 0):=fun j=>by unfold szf;rw[hq,hr0];split <;> simp
 rw[hq] at hd
 have key:∀ (d i:Nat),i+d=m→Ev (fun k=>braid_Sizes.l0 k (n:Int) (m:Int) (tab m fun j=>if j<i then(szf n m j:Int) else 0) (m:Int) (i:Int)) (sz n m,0):=by
  intro d
  induction d with
  | zero =>
   intro i hi
   have e:(tab m fun j=>if j<i then(szf n m j:Int) else 0)=sz n m:=tab_congr _ _ _ (fun j hj=>by rw[if_pos (by omega)])
   rw[e]
   exact Ev.step (f:=fun _=>some (sz n m,0)) (fun k=>by rw[braid_Sizes.l0,if_neg (by omega)]) (Ev.now _)
  | succ d ih =>
   intro i hi
   refine Ev.step (fun k=>by rw[braid_Sizes.l0,if_pos (by omega),if_neg (by omega),if_pos (by omega),if_pos (by rw[tab_len];omega),Option.bind_some,t1,t2,Int.toNat_natCast,tab_set,w64 (x:=(q:Int)) (by omega) (by omega),w64 (x:=(i:Int)+1) (by omega) (by omega)]) ?_
   have next:=ih (i+1) (by omega)
   by_cases h:i<r
   ·refine ev_pos (by omega) ?_
    rw[tab_rd _ _ i (by omega),if_pos rfl,w64 (by omega) (by omega),tab_set]
    have e:(tab m fun j=>if j=i then(q:Int)+1 else if j=i then(q:Int) else if j<i then(szf n m j:Int) else 0)=tab m fun j=>if j<i+1 then(szf n m j:Int) else 0 :=
     tab_congr _ _ _ (fun j hj=>by
      by_cases e1:j=i
      ·subst e1
       rw[if_pos rfl,if_pos (by omega)]
       rw[hz];simp[h]
      ·rw[if_neg e1,if_neg e1]
       by_cases e2:j<i
       ·rw[if_pos e2,if_pos (by omega)]
       ·rw[if_neg e2,if_neg (by omega)])
    rw[e]
    exact next
   ·refine ev_neg (by omega) ?_
    have e:(tab m fun j=>if j=i then(q:Int) else if j<i then(szf n m j:Int) else 0)=tab m fun j=>if j<i+1 then(szf n m j:Int) else 0 :=
     tab_congr _ _ _ (fun j hj=>by
      by_cases e1:j=i
      ·subst e1
       rw[if_pos rfl,if_pos (by omega)]
       rw[hz];simp[h]
      ·rw[if_neg e1]
       by_cases e2:j<i
       ·rw[if_pos e2,if_pos (by omega)]
       ·rw[if_neg e2,if_neg (by omega)])
    rw[e]
    exact next
 have hr:(List.replicate ((m:Int):Int).toNat (0:Int))=tab m fun j=>if j<0 then(szf n m j:Int) else 0:=by
  simp[tab,List.map_const']
 rw[hr,tab_len]
 exact key m 0 (by omega)
theorem tab_succ (m:Nat) (f:Nat→Int):tab (m+1) f=tab m f ++ [f m]:=by simp[tab,List.range_succ]
def bnd (n:Nat):List Int:=tab n fun i=>(n:Int)-i
theorem bounds_good (n:Nat) (hn:n≤256):Ev (fun k=>braid_Bounds.f k (n:Int)) (bnd n):=by
 unfold braid_Bounds.f
 by_cases h:n<1
 ·refine ev_pos (by omega) ?_
  obtain rfl:n=0:=by omega
  exact Ev.step (f:=fun _=>some []) (fun k=>by rw[braid_Bounds.j0,if_pos rfl]) (Ev.now _)
 refine ev_neg (by omega) (Ev.step (fun k=>by rw[braid_Bounds.j0,if_neg (by simp;omega),if_pos (by omega),if_pos (by omega)]) ?_)
 have key:∀ (d i:Nat),i+d=n→Ev (fun k=>braid_Bounds.l0 k (tab i fun j=>(n:Int)-j) ((n:Int)-i)) (bnd n):=by
  intro d
  induction d with
  | zero =>
   intro i hi
   obtain rfl:i=n:=by omega
   exact Ev.step (f:=fun _=>some (bnd i)) (fun k=>by rw[braid_Bounds.l0,if_neg (by omega)];rfl) (Ev.now _)
  | succ d ih =>
   intro i hi
   have:=ih (i+1) (by omega)
   rw[tab_succ] at this
   have e:wrap64 ((n:Int)-i-1)=(n:Int)-((i+1:Nat):Int):=by rw[w64 (by omega) (by omega)];omega
   exact Ev.step (fun k=>by rw[braid_Bounds.l0,if_pos (by omega),if_pos (by rw[tab_len];omega),e]) this
 have:=key n 0 (by omega)
 simpa [tab] using this
theorem sz_get (n m j:Nat) (hj:j<m):(sz n m)[j]'(by rw[sz_len];exact hj)=(szf n m j:Int):=by simp[sz,tab]
theorem szf_le (n m j:Nat) (hn:n≤256) (h1:1≤m):szf n m j≤256:=by
 unfold szf
 have h3:=Nat.div_add_mod n m
 by_cases h:j<n % m
 ·rw[if_pos h]
  have:m*(n / m) ≥ n / m:=Nat.le_mul_of_pos_left _ h1
  omega
 ·rw[if_neg h]
  have:=Nat.div_le_self n m
  omega
theorem sz_psum (n m:Nat) (h1:1≤m):∀ j,j≤m→psum (sz n m) j=((j*(n / m)+min j (n % m):Nat):Int):=by
 intro j
 induction j with
 | zero=>intro _;simp[psum_zero]
 | succ j ih =>
  intro hj
  rw[psum_succ _ _ (by rw[sz_len];omega),ih (by omega),sz_get _ _ _ (by omega),Nat.succ_mul]
  unfold szf
  by_cases h:j<n % m
  ·rw[if_pos h];omega
  ·rw[if_neg h];omega
theorem sz_total (n m:Nat) (h1:1≤m):total (sz n m)=n:=by
 have:=sz_psum n m h1 m (Nat.le_refl _)
 rw[psum_all _ _ (by rw[sz_len];exact Nat.le_refl _)] at this
 rw[this]
 have h3:=Nat.div_add_mod n m
 have h4:=Nat.mod_lt n h1
 omega
theorem sz_ok (n m:Nat) (hn:n≤256) (h1:1≤m) (h2:m≤64):OkS (sz n m):=by
 refine⟨by rw[sz_len];exact h1,by rw[sz_len];exact h2,fun x hx=>?_,by rw[sz_total n m h1];omega⟩
 obtain⟨j,hj,rfl⟩:=List.getElem_of_mem hx
 rw[sz_len] at hj
 rw[sz_get n m j hj]
 have:=szf_le n m j hn h1
 omega
def ints (C:List Nat):List Int:=C.map fun j:Nat=>(j:Int)
theorem ints_rd (C:List Nat) (i:Nat) (h:i<C.length):rd (ints C) (i:Int)=(C[i]:Int):=by simp[rd,ints,h]
def cn (C:List Nat) (j i:Nat):Nat:=(C.take i).count j
theorem cn_zero (C:List Nat) (j:Nat):cn C j 0=0:=by simp[cn]
theorem cn_succ (C:List Nat) (j i:Nat) (h:i<C.length):cn C j (i+1)=cn C j i+if j=C[i] then 1 else 0:=by
 unfold cn
 rw[List.take_succ_eq_append_getElem h,List.count_append]
 congr 1
 rw[List.count_singleton]
 by_cases e:C[i]=j
 ·simp[e]
 ·simp[e,show ¬ j=C[i] from fun h=>e h.symm]
theorem cn_le (C:List Nat) (j i:Nat):cn C j i≤C.count j:=(List.take_sublist i C).count_le j
theorem cn_at (C:List Nat) (i:Nat) (h:i<C.length):cn C C[i] (i+1)=cn C C[i] i+1:=by rw[cn_succ C _ i h,if_pos rfl]
theorem cn_lt (C:List Nat) (i:Nat) (h:i<C.length):cn C C[i] i<C.count C[i]:=by
 have:=cn_at C i h
 have:=cn_le C C[i] (i+1)
 omega
theorem cn_len (C:List Nat) (j i:Nat):cn C j i≤i:=Nat.le_trans List.count_le_length (by simp;omega)
def seg (a:Int) (t:Nat):List Int:=tab t fun i=>a+i
end Go.Proofs.Ytbnifpfnjhdenaa.Pl
end
section
set_option linter.unusedVariables false
set_option linter.unusedSimpArgs false
namespace Go.Proofs.Ytbnifpfnjhdenaa.Pl
open Go.RowKit Go.Proofs.Ytbnifpfnjhdenaa.Q Go.Proofs.YtbnifpfnjhdenaaW.PrintWords Go.Proofs.YtbnifpfnjhdenaaW.PrintLast
theorem Good.exists {s ds:List Int} (h:OkD s ds):∃ P,Good s ds P:=by
 obtain⟨P,hP⟩:=pat_exists ds s h.1.nonneg (fun i hi=>by
  have:=h.2.2 i hi
  have e:=h.2.1
  omega)
 exact⟨P,h.1,h.2.1,hP⟩
end Go.Proofs.Ytbnifpfnjhdenaa.Pl
end
section
set_option linter.unusedVariables false
set_option linter.unusedSimpArgs false
namespace Go.Proofs.Ytbnifpfnjhdenaa.Pl
open Go.RowKit Go.Proofs.Ytbnifpfnjhdenaa.Q Go.Proofs.YtbnifpfnjhdenaaW.PrintWords Go.Proofs.YtbnifpfnjhdenaaW.PrintLast
def piece (l:List Int) (q j:Nat):List Int:=(l.take ((j+1)*q)).drop (j*q)
def pieces (l:List Int) (q c:Nat):List (List Int):=(List.range c).map (piece l q)
def noiseOf (p:List Int):List Int:=p.take 18
def restOf (p:List Int):List Int:=(p.drop 18).drop ((p.length-18) / 2)
def braidOf (p:List Int):List Int:=(p.drop 18).take ((p.length-18) / 2)
def qOf (p:List Int) (c:Nat):Nat:=(restOf p).length / c
theorem restOf_len (p:List Int):(restOf p).length=(p.length-18)-(p.length-18) / 2:=by simp[restOf];omega
theorem qmul_le (p:List Int) (c j:Nat) (hj:j≤c):j*qOf p c≤(restOf p).length :=
 Nat.le_trans (Nat.mul_le_mul_right _ hj) (by rw[Nat.mul_comm];exact Nat.div_mul_le_self _ _)
theorem piece_len (p:List Int) (c j:Nat) (hj:j<c):(piece (restOf p) (qOf p c) j).length=qOf p c:=by
 have:=qmul_le p c (j+1) hj
 unfold piece
 rw[List.length_drop,List.length_take,Nat.min_eq_left this,Nat.succ_mul]
 omega
theorem pieces_succ (l:List Int) (q c:Nat):pieces l q (c+1)=pieces l q c ++ [piece l q c]:=by
 unfold pieces
 rw[List.range_succ,List.map_append]
 rfl
def splitS (p:List Int) (c:Int):List Int×List Int×(List (List Int))×Int :=
 if c<1∨c > 64 then([],[],[],2) else if p.length<18 then([],[],[],3) else(noiseOf p,braidOf p,pieces (restOf p) (qOf p c.toNat) c.toNat,0)
theorem clone_val (l:List Int) (h:l.length<140737488355328):slices_Clone_byte_byte.f l=some l:=by
 unfold slices_Clone_byte_byte.f
 rw[if_pos h]
theorem split_ev (p:List Int) (c:Int) (hp:p.length≤140737488351232):Ev (fun k=>tape_Split.f k p c) (splitS p c):=by
 unfold tape_Split.f splitS
 by_cases h1:c<1
 ·rw[if_pos (by omega)]
  exact ev_pos h1 (Ev.step (f:=fun _=>some ([],[],[],2)) (fun k=>by rw[tape_Split.j0,if_pos rfl]) (Ev.now _))
 ·refine ev_neg h1 ?_
  by_cases h2:c > 64
  ·rw[if_pos (by omega)]
   exact Ev.step (f:=fun _=>some ([],[],[],2)) (fun k=>by rw[tape_Split.j0,if_pos (by simpa using h2)]) (Ev.now _)
  ·rw[if_neg (by omega)]
   by_cases h3:p.length<18
   ·rw[if_pos h3]
    exact Ev.step (f:=fun _=>some ([],[],[],3)) (fun k=>by rw[tape_Split.j0,if_neg (by simp;omega),if_pos (by omega)]) (Ev.now _)
   ·rw[if_neg h3]
    obtain⟨n,rfl⟩:=Int.eq_ofNat_of_zero_le (show 0≤c by omega)
    simp only[Int.toNat_natCast]
    have hrl:=restOf_len p
    have key:∀ (d j:Nat),j+d=n→Ev (fun k=>tape_Split.l0 k (restOf p) (qOf p n:Int) (n:Int) (j:Int) (noiseOf p) (braidOf p) (pieces (restOf p) (qOf p n) j)) (noiseOf p,braidOf p,pieces (restOf p) (qOf p n) n,0):=by
     intro d
     induction d with
     | zero =>
      intro j hj
      have:j=n:=by omega
      subst this
      exact Ev.step (f:=fun _=>some (noiseOf p,braidOf p,pieces (restOf p) (qOf p j) j,0)) (fun k=>by rw[tape_Split.l0,if_neg (by omega)]) (Ev.now _)
     | succ d ih =>
      intro j hj
      have a1:=qmul_le p n (j+1) (by omega)
      have a2:j*qOf p n≤(j+1)*qOf p n:=Nat.mul_le_mul_right _ (by omega)
      have hpl:=piece_len p n j (by omega)
      have hql:qOf p n≤(restOf p).length:=Nat.div_le_self _ _
      have hcl:=clone_val (piece (restOf p) (qOf p n) j) (by omega)
      have b1:(j:Int)<(n:Int):=by omega
      have b2:(0:Int)≤((j*qOf p n:Nat):Int):=by omega
      have b3:((j*qOf p n:Nat):Int)≤(((j+1)*qOf p n:Nat):Int):=by omega
      have b4:(((j+1)*qOf p n:Nat):Int)≤((restOf p).length:Int):=by omega
      have b5:j*qOf p n≤9223372036854775807:=by omega
      have b6:(j+1)*qOf p n≤9223372036854775807:=by omega
      have b8:(pieces (restOf p) (qOf p n) j).length<5864062014805:=by simp[pieces];omega
      have b10:j+1≤9223372036854775807:=by omega
      have b9:j+1+d=n:=by omega
      have b7:wrap64 ((j:Int)+1)=((j+1:Nat):Int):=w64n (x:=j+1) b10
      have e1:wrap64 ((j:Int)*(qOf p n:Int))=((j*qOf p n:Nat):Int):=by rw[←Int.natCast_mul];exact w64n b5
      have e2:wrap64 (wrap64 ((j:Int)+1)*(qOf p n:Int))=(((j+1)*qOf p n:Nat):Int):=by
       rw[b7,←Int.natCast_mul]
       exact w64n b6
      refine Ev.step (fun k=>?_) (ih (j+1) b9)
      rw[tape_Split.l0,if_pos b1,e1,e2,if_pos b2,if_pos b3,if_pos b4,Int.toNat_natCast,Int.toNat_natCast,show((restOf p).take ((j+1)*qOf p n)).drop (j*qOf p n)=piece (restOf p) (qOf p n) j from rfl,hcl,Option.bind_some,
       if_pos b8,b7,pieces_succ]
    have h0:=key n 0 (by omega)
    have hd:(p.drop 18).length=p.length-18:=by simp
    have g1:¬ ((p.length:Int)<18):=by omega
    have g2:(18:Int)≤(p.length:Int):=by omega
    have g3:(0:Int)≤(((p.length-18) / 2:Nat):Int):=by omega
    have g4:(((p.length-18) / 2:Nat):Int)≤((p.drop 18).length:Int):=by rw[hd];omega
    have g5:(p.take 18).length<140737488355328:=by simp;omega
    have g6:((p.drop 18).take ((p.length-18) / 2)).length<140737488355328:=by simp;omega
    have g7:¬ ((n:Int)=0):=by omega
    have g8:¬ (decide ((n:Int) > 64)=true):=by simpa using h2
    have g9:(restOf p).length≤9223372036854775807:=by omega
    have hw:wrap64 (((p.drop 18).length:Int) / 2)=(((p.length-18) / 2:Nat):Int):=by rw[hd,w64 (by omega) (by omega)];omega
    refine Ev.step (fun k=>?_) h0
    have hq:wrap64 (((restOf p).length:Int) / (n:Int))=(qOf p n:Int):=by
     rw[←Int.natCast_ediv]
     exact w64n (Nat.le_trans (Nat.div_le_self _ _) g9)
    rw[tape_Split.j0,if_neg g8,if_neg g1,if_pos g2,Option.bind_some,hw,clone_val _ g5,Option.bind_some,if_pos g3,if_pos g4,Int.toNat_natCast,clone_val _ g6,Option.bind_some,Option.bind_some,if_neg g7]
    show tape_Split.l0 k (restOf p) (wrap64 (((restOf p).length:Int) / (n:Int))) _ _ _ _ _=_
    rw[hq]
    rfl
end Go.Proofs.Ytbnifpfnjhdenaa.Pl
end
