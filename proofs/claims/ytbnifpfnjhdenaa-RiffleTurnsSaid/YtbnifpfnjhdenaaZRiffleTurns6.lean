/- Functions of the program as plain Lean functions, each with a proof that its call comes to just these answers, and the row that joins them to the given statement; no condition beside the statement's own. Written for this claim by this session's programs (pf.py, pack.py) over the kit's print. -/
import Derived.Test.YtbnifpfnjhdenaaZRiffleTurns0
import Derived.Test.YtbnifpfnjhdenaaZRiffleTurns1
import Derived.Test.YtbnifpfnjhdenaaZRiffleTurns2
import Derived.Test.YtbnifpfnjhdenaaZRiffleTurns3
import Derived.Test.YtbnifpfnjhdenaaZRiffleTurns5
section
namespace Go.Proofs.Ytbnifpfnjhdenaa.Q
open Go.RowKit Go.Proofs.YtbnifpfnjhdenaaW.PrintWords Go.Proofs.YtbnifpfnjhdenaaW.PrintLast Go.Proofs.YtbnifpfnjhdenaaW.PrintMore
open Go.Proofs.YtbnifpfnjhdenaaW.PrintLast renaming i64_w → jF, i32_w → jG, with_tabW → Jf
open Go.Proofs.YtbnifpfnjhdenaaW.PrintMore renaming max_three → jM, min_three → jN, max2_int → jP, min2_int → jQ, max_four → jR, min_four → jS, max_two → jY, min_two → jZ
open Go.Proofs.YtbnifpfnjhdenaaW.PrintWords renaming below_size → jc, below_step → jk, blk_drew → jl, blk_alloc → jm, blk_drewN → jn, blk_below → jo, blk_put → ju, gate_guard → jI, below_drew1 → jJ, below_set → jO, blk_far → jU, blk_lt → jV, add_plain → jW, pw_below_drewN → Je, blk_grown → Jg
open Go.Proofs.YtbnifpfnjhdenaaW.PrintWords.Kd renaming R_mono → ja, int → jb, R_far → jd, R_below → je, R_base → jf, R_elder' → jg, R_lt → jh, R_reads' → ji, R_new' → jj, R_slice → jp, R_lower → jq, R_types → jr, R_drew → js, R → jt, R_after → jv, C_below → jw, R_over' → jx, at_int → jy, R_typed → jz, fresh' → jA, slice → jB, S_mono → jC, S_below → jD, S_far → jE, R_celln → jH, S_reads' → jK, S_elder' → jL, S_slice → jT, C → jX, S_drew → Ja, S_types → Jb, S_typed → Jc, R_append → Jd
attribute [local go_sem] jP jQ jY jZ jM jN jR jS
set_option linter.unusedVariables false
set_option linter.unusedSimpArgs false
mutual
def churnref12_Pattern.j0:Nat→List Int→List Int→Int→Bool→Option (List Int×List Int×Int)
 | 0,_,_,_,_=>none
 | k+1,x0,x1,x7,x25=>if x25=true then(some (([]:List Int),([]:List Int),2)) else(if([]:List Int).length+x0.length<17592186044416 then(if 0≤(x0.length:Int) then(if((x0.length:Int):Int).toNat≤11728124029610 then(churnref12_Pattern.l0 k x1 x7 (([]:List Int) ++ x0) (List.replicate ((x0.length:Int):Int).toNat []) ([]:List Int) 0) else(none)) else(none)) else(none))
def churnref12_Pattern.l0:Nat→List Int→Int→List Int→List (List Int)→List Int→Int→Option (List Int×List Int×Int)
 | 0,_,_,_,_,_,_=>none
 | k+1,x1,x7,x8,x9,x10,x11=>if x11<x7 then(if 0≤x11 then(if x11<(x1.length:Int) then(if(rd x1 x11)<0 then(churnref12_Pattern.j2 k x1 x7 x8 x9 x10 x11 (rd x1 x11) true) else(churnref12_Pattern.j2 k x1 x7 x8 x9 x10 x11 (rd x1 x11) (decide ((rd x1 x11) ≥ (wrap64 (x7-x11)))))) else(none)) else(none)) else(churnref12_Pattern.l2 k x9 x10 ([]:List Int) 0)
def churnref12_Pattern.j2:Nat→List Int→Int→List Int→List (List Int)→List Int→Int→Int→Bool→Option (List Int×List Int×Int)
 | 0,_,_,_,_,_,_,_,_=>none
 | k+1,x1,x7,x8,x9,x10,x11,x12,x49=>if x49=true then(some (([]:List Int),([]:List Int),2)) else(churnref12_Pattern.l1 k x1 x7 x8 x9 x10 x11 x12 0)
def churnref12_Pattern.l1:Nat→List Int→Int→List Int→List (List Int)→List Int→Int→Int→Int→Option (List Int×List Int×Int)
 | 0,_,_,_,_,_,_,_,_=>none
 | k+1,x1,x7,x8,x9,x10,x11,x12,x13=>if 0≤x13 then(if x13<(x8.length:Int) then(if x12 ≥ (rd x8 x13) then(churnref12_Pattern.l1 k x1 x7 x8 x9 x10 x11 (wrap64 (x12-(rd x8 x13))) (wrap64 (x13+1))) else(if x10.length<17592186044416 then(if x13<(x9.length:Int) then(if(rd_L3 x9 x13).length<17592186044416 then(churnref12_Pattern.l0 k x1 x7 (x8.set (x13:Int).toNat (wrap64 ((rd x8 x13)-1))) (x9.set (x13:Int).toNat ((rd_L3 x9 x13) ++ [x12])) (x10 ++ [x13]) (wrap64 (x11+1))) else(none)) else(none)) else(none))) else(none)) else(none)
def churnref12_Pattern.l2:Nat→List (List Int)→List Int→List Int→Int→Option (List Int×List Int×Int)
 | 0,_,_,_,_=>none
 | k+1,x9,x10,x14,x15=>if x15<(x9.length:Int) then(if 0≤x15 then(if x14.length+(rd_L3 x9 x15).length<17592186044416 then(churnref12_Pattern.l2 k x9 x10 (x14 ++ (rd_L3 x9 x15)) (wrap64 (x15+1))) else(none)) else(none)) else(some (x10,x14,0))
end
def churnref12_Pattern.f (k:Nat) (l0:List Int) (l1:List Int):Option (List Int×List Int×Int):=(churnref12_total.f k l0).bind fun t637=>(if t637<0 then(churnref12_Pattern.j0 k l0 l1 t637 true) else(churnref12_Pattern.j0 k l0 l1 t637 ((l1.length:Int) != t637)))
set_option maxHeartbeats 8000000 in
set_option maxRecDepth 100000 in
theorem churnref12_Pattern.calls (k:Nat) (A0:Option Addr) (c0:Nat) (l0:List Int) (A1:Option Addr) (c1:Nat) (l1:List Int) (r1:List Int) (r2:List Int) (r3:Int) (w:World) (hr0:jX (jb .i64) w A0 l0.length l0) (hc0:l0.length≤c0) (hr1:jX (jb .i64) w A1 l1.length l1) (hc1:l1.length≤c1) (h:churnref12_Pattern.f k l0 l1=some (r1,r2,r3)) :
  Calls Try.prog 47 #[.slice A0 l0.length c0,.slice A1 l1.length c1] w fun e w'=>∃ v0_ v1_:Value,e = .returned (.tuple #[v0_,v1_,.int .i64 r3])∧jt (jb .i64) 3 w' w.heap.size (fun k_=>ne_ k_ v1_) v0_ r1∧jt (jb .i64) 3 w' w.heap.size (fun k_=>ne_ k_ v0_) v1_ r2∧Below w.heap.size w w':=by
 have HR0:=am_ hr0
 have HC0:=am_ hc0
 clear hr0 hc0
 have HR1:=am_ hr1
 have HC1:=am_ hc1
 clear hr1 hc1
 have HB:=am_ (Below.refl w.heap.size w)
 have H:((churnref12_total.f k l0).bind fun t637=>(if t637<0 then(churnref12_Pattern.j0 k l0 l1 t637 true) else(churnref12_Pattern.j0 k l0 l1 t637 ((l1.length:Int) != t637))))=some (r1,r2,r3):=h
 clear h
 replace H:=Option.bind_eq_some_iff.mp H
 obtain⟨t637,A30,H⟩:=H
 try dsimp only at H
 have A3:=am_ A30
 clear A30
 have HC4:=am_ H
 clear H
 go_enter Try.func47,Try.ntmps47
 go_upto_region 2 with(first|(refine gc_ 51 ?_;refine gl_ (some 17) Try.func51 #[.slice A0 l0.length c0] ?_;(with_reducible refine(churnref12_total.calls k _ _ l0 t637 _ ?side1 ?side2 A3.out).mono ?_);(case side1=>exact cu_ HR0.out);(case side2=>exact HC0.out);rintro e w' ⟨rfl,⟨nd,rfl⟩⟩;refine⟨_,rfl,?_⟩))
 (try simp only[Act.put,List.setIfInBounds_toArray,List.set_cons_zero,List.set_cons_succ])
 go_cut [25] (fun v25 wc=>∃ (kq:Nat) (x25_3:Bool),v25 = .bool x25_3∧Aside0 (churnref12_Pattern.j0 kq l0 l1 t637 x25_3=some (r1,r2,r3))∧Aside0 (kq≤k)∧Aside0 (Below w.heap.size w wc))
 case first =>
  have H:=HC4.out
  clear HC4
  by_cases c5:t637<0
  ·rw[if_pos c5] at H
   have c5b0:=decide_eq_true c5
   clear c5
   (first|rw[c5b0]|(simp only[jF,jG];rw[c5b0])|skip)
   have H':=am_ H
   clear H
   go_wp2
   go_meet
   case rel=>exact⟨_,(true),T10_,H',⟨T8_⟩,⟨T19_⟩⟩
  rw[if_neg c5] at H
  have c5b0:=decide_eq_false c5
  clear c5
  (first|rw[c5b0]|(simp only[jF,jG];rw[c5b0])|skip)
  have H':=am_ H
  clear H
  go_wp2
  go_meet
  case rel=>exact⟨_,(((l1.length:Int) != t637)),T10_,H',⟨T8_⟩,⟨T19_⟩⟩
 clear HC4
 obtain⟨kq,x25_3,rfl,HA,HJ3,HB⟩:=hcut
 cases kq with
 | zero=>exact absurd HA.out (by simp[churnref12_Pattern.j0])
 | succ kj3 =>
  have H:=HA.out
  clear HA
  simp only[churnref12_Pattern.j0] at H
  by_cases c6:x25_3=true
  ·subst c6
   have H1:(some (([]:List Int),([]:List Int),2))=some (r1,r2,r3):=by rw[if_pos rfl] at H;exact H
   clear H
   have H:=H1
   clear H1
   obtain⟨rfl,rfl,rfl⟩:=sj3_ H
   go_wp2
   go_ret3
   exact⟨_,_,T17_,T21_,T21_,T19_⟩
  replace c6:=Bool.eq_false_iff.mpr c6
  subst c6
  have H1:(if([]:List Int).length+l0.length<17592186044416 then(if 0≤(l0.length:Int) then(if((l0.length:Int):Int).toNat≤11728124029610 then(churnref12_Pattern.l0 kj3 l1 t637 (([]:List Int) ++ l0) (List.replicate ((l0.length:Int):Int).toNat []) ([]:List Int) 0) else(none)) else(none)) else(none))=some (r1,r2,r3):=by rw[if_neg (show ¬ (false=true) by decide)] at H;exact H
  clear H
  have H:=H1
  clear H1
  replace H:=ifa_ H;obtain⟨LMc7,H⟩:=H
  obtain⟨y638,hy_⟩:∃ y_:List Int,y_=(([]:List Int) ++ l0):=⟨_,rfl⟩
  replace H:(if 0≤(l0.length:Int) then(if((l0.length:Int):Int).toNat≤11728124029610 then(churnref12_Pattern.l0 kj3 l1 t637 y638 (List.replicate ((l0.length:Int):Int).toNat []) ([]:List Int) 0) else(none)) else(none))=some (r1,r2,r3):=hyw_
  have Ny638:=am_ hy_
  clear hy_
  replace H:=ifn_ H;obtain⟨c8,H⟩:=H
  have c8b0:=eq_true c8
  have c8b1:decide (0≤(l0.length:Int))=true:=decide_eq_true c8
  clear c8
  replace H:=ifn_ H;obtain⟨c9,H⟩:=H
  have c9b0:=eq_true c9
  have c9b1:decide (((l0.length:Int):Int).toNat≤11728124029610)=true:=decide_eq_true c9
  clear c9
  obtain⟨y641,hy_⟩:∃ y_:List (List Int),y_=(List.replicate ((l0.length:Int):Int).toNat []):=⟨_,rfl⟩
  replace H:(churnref12_Pattern.l0 kj3 l1 t637 y638 y641 ([]:List Int) 0)=some (r1,r2,r3):=hyw_
  have Ny641:=am_ hy_
  clear hy_
  have H':=am_ H
  clear H
  go_wp2_with(first|(refine gb_ .append #[.tmp 26,.tmp 27] ?_;(try(refine jI T0_ ?_;dsimp only));at_builtin;refine Kd.R_append_rows (jb .i64) (w0:=w) w.heap.size rfl (.tmp 26) (.tmp 27) 24 3 (.int .i64 0) 8 rfl Try.underlying24 info3 rfl T3_ T2_ (.slice none 0 0) ([]:List Int) l0 _ _ _ (fun _=>True) (fun _=>False) rfl rfl ?aO ?aR (fun _ _ h=>h) (fun _ h=>h.elim) ?aF ?aB ?aS ?aL ?_;(case aR=>exact cu_ (jw HR0.out HB.out));(case aB=>exact T19_);(case aF=>exact(fun _ _=>trivial));(case aO=>exact((Kd.R_nil _ _ _ _ (fun _=>True))));(case aS=>exact(jc T19_));(case aL=>have:=LMc7.out;omega);intro v639 w10 ho hb hg hat;rw[←Ny638.out] at ho;have n_:=P2_ (hb) (ho);clear HB;obtain⟨HB,HO640⟩:=n_;clear ho hb hg hat)|(refine gd_ 31 ?_;(try(refine jI T0_ ?_;dsimp only));refine Kd.S_make (jB 3 (jb .i64)) _ 24 rfl (N:=31) rfl 51 _ _ rfl (l0.length:Int) rfl rfl Try.underlying51 (.slice none 0 0) 24 info24 rfl T3_ T2_ [] (ok:=fun _=>True) (okp:=fun _=>True) ⟨_,rfl,Kd.R_nil _ _ _ _ _⟩ (fun _ hk=>hk) trivial (od_) (Nat.le_trans (Nat.mul_le_mul_right _ (od_:(l0.length:Int).toNat≤11728124029610)) T2_) (Below.refl _ _) (Nat.le_refl _) ?_;intro v642 w11 ho12 hb hg_ hnew_;clear hg_ hnew_;(first|rw[←Ny641.out] at ho12|(simp only[Int.reduceToNat] at ho12;rw[←Ny641.out] at ho12));have n_:=P3_ (je (ru_ HO640.out) hb) (Kd.S_lower (Kd.S_new' ho12 (jh (ru_ HO640.out))) (jc T19_)) (jk T19_ hb);clear HO640 HB;obtain⟨HO640,HO643,HB⟩:=n_;clear hb ho12))
  go_loopg [10,11] kj3 (fun kq v10 v11 w'=>∃ (x8_2:List Int) (x9_2:List (List Int)) (x10_2:List Int) (x11_2:Int),v11 = .int .i64 x11_2∧Aside0 (churnref12_Pattern.l0 kq l1 t637 x8_2 x9_2 x10_2 x11_2=some (r1,r2,r3))∧Aside0 (kq≤kj3)∧Aside0 (jt (jb .i64) 3 w' w.heap.size (fun k_=>ne_ k_ v10) v639 x8_2)∧Aside0 (Kd.S (jB 3 (jb .i64)) 24 w' w.heap.size (fun k_=>ne_ k_ v639∧ne_ k_ v10) v642 x9_2)∧Aside0 (jt (jb .i64) 3 w' w.heap.size (fun k_=>ne_ k_ v639) v10 x10_2)∧Aside0 (Below w.heap.size w w'))
  case atStart=>exact⟨(y638),(y641),(([]:List Int)),(0),T10_,H',⟨Nat.le_refl _⟩,⟨ru_ (ja HO640.out (fun _ hk=>T6_))⟩,⟨su_ (jC HO643.out (fun _ hk=>⟨hk.2,T6_⟩))⟩,⟨T21_⟩,⟨T19_⟩⟩
  clear H'
  (try clear c6);(try clear c8);(try clear c8b0 c8b1);(try clear c9);(try clear c9b0 c9b1)
  obtain⟨x8_2,x9_2,x10_2,x11_2,rfl,HA,HK2,HO_8,HO_9,HO_10,HB⟩:=hrel
  cases gk with
  | zero=>exact absurd HA.out (by simp[churnref12_Pattern.l0])
  | succ k2 =>
   have H:=HA.out
   clear HA
   simp only[churnref12_Pattern.l0] at H
   by_cases c13:x11_2<t637
   rotate_left
   ·rw[if_neg c13] at H
    have c13b0:=decide_eq_false c13
    clear c13
    have H':=am_ H
    clear H
    go_wp2
    go_loopg [14,15] k2 (fun kq v14 v15 w'=>∃ (x14_3:List Int) (x15_3:Int),v15 = .int .i64 x15_3∧Aside0 (churnref12_Pattern.l2 kq x9_2 x10_2 x14_3 x15_3=some (r1,r2,r3))∧Aside0 (kq≤k2)∧Aside0 (Kd.S (jB 3 (jb .i64)) 24 w' w.heap.size (fun k_=>ne_ k_ u10∧ne_ k_ v14) v642 x9_2)∧Aside0 (jt (jb .i64) 3 w' w.heap.size (fun k_=>ne_ k_ v14) u10 x10_2)∧Aside0 (jt (jb .i64) 3 w' w.heap.size (fun k_=>ne_ k_ u10) v14 x14_3)∧Aside0 (Below w.heap.size w w'))
    case atStart=>exact⟨(([]:List Int)),(0),T10_,H',⟨Nat.le_refl _⟩,⟨su_ (jC HO_9.out (fun _ hk=>⟨hk.2,T6_⟩))⟩,⟨ru_ (ja HO_10.out (fun _ hk=>T6_))⟩,⟨T21_⟩,⟨T19_⟩⟩
    clear H'
    (try clear c6);(try clear c8);(try clear c8b0 c8b1);(try clear c9);(try clear c9b0 c9b1);(try clear c13);(try clear c13b0)
    obtain⟨x14_3,x15_3,rfl,HA,HK3,HO_9,HO_10,HO_14,HB⟩:=hrel
    cases gk with
    | zero=>exact absurd HA.out (by simp[churnref12_Pattern.l2])
    | succ k3 =>
     have H:=HA.out
     clear HA
     simp only[churnref12_Pattern.l2] at H
     by_cases c38:x15_3<(x9_2.length:Int)
     rotate_left
     ·rw[if_neg c38] at H
      have c38b0:=decide_eq_false c38
      clear c38
      obtain⟨rfl,rfl,rfl⟩:=sj3_ H
      obtain⟨Ao43,co43,eo43⟩:=jT HO_9.out
      subst eo43
      go_wp2
      go_ret3
      exact⟨_,_,T17_,ru_ HO_10.out,ru_ HO_14.out,T19_⟩
     rw[if_pos c38] at H
     have c38b0:=decide_eq_true c38
     clear c38
     replace H:=ifn_ H;obtain⟨c39,H⟩:=H
     have c39b0:=decide_eq_true c39
     clear c39
     replace H:=ifa_ H;obtain⟨LMc40,H⟩:=H
     obtain⟨y658,hy_⟩:∃ y_:List Int,y_=(x14_3 ++ (rd_L3 x9_2 x15_3)):=⟨_,rfl⟩
     replace H:(churnref12_Pattern.l2 k3 x9_2 x10_2 y658 (wrap64 (x15_3+1)))=some (r1,r2,r3):=hyw_
     have Ny658:=am_ hy_
     clear hy_
     have H':=am_ H
     clear H
     obtain⟨Ao41,co41,eo41⟩:=jT HO_9.out
     subst eo41
     have p657:0≤(x15_3:Int):=od_
     have q657:x15_3<(x9_2.length:Int):=od_
     obtain⟨ad657,A657_0,c657_0,e657,hx657_0,hl657_0,hi657_0⟩:=at_L3 (jK HO_9.out).2.2 x15_3 p657 q657
     cases e657
     obtain⟨ce657,hce657,hMe657,hcc657⟩:=Kd.S_get HO_9.out [] x15_3 p657 (by first|exact q657|exact od_|(have e_:=(jK HO_9.out).1;omega))
     obtain⟨ve657_0,rfl,ge657_0⟩:=hMe657
     have hv657_0:=hcc657 0 _ rfl
     rw[Nat.add_zero,show((jB 3 (jb .i64))).sz=1 from rfl,Nat.mul_one] at hv657_0
     replace hv657_0:=Option.some.inj (hv657_0.symm.trans hx657_0)
     rw[hv657_0] at ge657_0
     have HL657_0:=am_ (show jt (jb .i64) 3 _ _ _ _ (rd_L3 x9_2 x15_3) from ge657_0)
     clear hv657_0 ge657_0
     have HX657_0:=am_ hx657_0
     clear hcc657 hce657
     have HR657_0:=am_ hi657_0
     have HC657_0:=am_ hl657_0
     clear hi657_0 hl657_0
     replace p657:=eq_true p657
     replace q657:=eq_true q657
     go_wp2_with(first|(refine gb_ .append #[.tmp 90,.tmp 94] ?_;(try(refine jI T0_ ?_;dsimp only));at_builtin;refine Kd.R_append_rows (jb .i64) (w0:=w) w.heap.size rfl (.tmp 90) (.tmp 94) 24 3 (.int .i64 0) 8 rfl Try.underlying24 info3 rfl T3_ T2_ u14 x14_3 (rd_L3 x9_2 x15_3) _ _ _ (fun k_=>ne_ k_ u10) (fun _=>False) rfl rfl ?aO ?aR (fun _ _ h=>h) (fun _ h=>h.elim) ?aF ?aB ?aS ?aL ?_;(case aR=>exact cu_ HR657_0.out);(case aB=>exact T19_);(case aF=>exact(fun k_ hk=>jA (jh (ru_ HO_10.out)) k_ hk));(case aO=>exact(ru_ HO_14.out));(case aS=>exact(jc T19_));(case aL=>have:=LMc40.out;omega);intro v659 w42 ho hb hg hat;rw[←Ny658.out] at ho;have n_:=P5_ (Kd.S_after (ok:=(fun k_=>ne_ k_ u10)) (su_ HO_9.out) hg hat) (jv (ok:=(fun _=>True)) (ru_ (ja HO_10.out (fun _ hk=>⟨trivial,hk⟩))) hg hat) (jv (ok:=(fun k_=>ne_ k_ (.slice (some ad657) x9_2.length co41)∧ne_ k_ u10)) (ru_ (ja HL657_0.out (fun _ hk=>⟨⟨hk.2,hk.1.1⟩,hk.1.2⟩))) hg hat) (hb) (ho);clear HO_9 HO_10 HL657_0 HB HO_14;obtain⟨HO_9,HO_10,HL657_0,HB,HO660⟩:=n_;clear ho hb hg hat))
     go_roundg k3
     case measure=>have:=HJ3.out;have:=HK2.out;have:=HK3.out;omega
     case rel=>exact⟨(y658),(wrap64 (x15_3+1)),T10_,H',⟨T12_⟩,⟨su_ HO_9.out⟩,⟨ru_ (ja HO_10.out (fun _ hk=>hk.2))⟩,⟨ru_ HO660.out⟩,⟨T19_⟩⟩
   rw[if_pos c13] at H
   have c13b0:=decide_eq_true c13
   clear c13
   replace H:=ifn_ H;obtain⟨c14,H⟩:=H
   have c14b0:=decide_eq_true c14
   clear c14
   replace H:=ifn_ H;obtain⟨c15,H⟩:=H
   have c15b0:=decide_eq_true c15
   clear c15
   have HC16:=am_ H
   clear H
   have p644:0≤(x11_2:Int):=od_
   have q644:x11_2<(l1.length:Int):=od_
   obtain⟨ad644,e644,hx644_0⟩:=jy HR1.out x11_2 p644 q644
   cases e644
   (try(replace hx644_0:=(HB.out.cell (World.block_lt_of_cell? w _ hx644_0)).trans hx644_0))
   replace p644:=eq_true p644
   replace q644:=eq_true q644
   go_upto_region 12 with(fail)
   go_cut [49] (fun v49 wc=>∃ (kq:Nat) (x49_15:Bool),v49 = .bool x49_15∧Aside0 (churnref12_Pattern.j2 kq l1 t637 x8_2 x9_2 x10_2 x11_2 (rd l1 x11_2) x49_15=some (r1,r2,r3))∧Aside0 (kq≤k2)∧Aside0 (jt (jb .i64) 3 wc w.heap.size (fun k_=>ne_ k_ u10) v639 x8_2)∧Aside0 (Kd.S (jB 3 (jb .i64)) 24 wc w.heap.size (fun k_=>ne_ k_ v639∧ne_ k_ u10) v642 x9_2)∧Aside0 (jt (jb .i64) 3 wc w.heap.size (fun k_=>ne_ k_ v639) u10 x10_2)∧Aside0 (Below w.heap.size w wc))
   case first =>
    have H:=HC16.out
    clear HC16
    by_cases c17:(rd l1 x11_2)<0
    ·rw[if_pos c17] at H
     have c17b0:=decide_eq_true c17
     clear c17
     (first|rw[c17b0]|(simp only[jF,jG];rw[c17b0])|skip)
     have H':=am_ H
     clear H
     go_wp2
     go_meet
     case rel=>exact⟨_,(true),T10_,H',⟨T13_⟩,⟨ru_ HO_8.out⟩,⟨su_ HO_9.out⟩,⟨ru_ HO_10.out⟩,⟨T19_⟩⟩
    rw[if_neg c17] at H
    have c17b0:=decide_eq_false c17
    clear c17
    (first|rw[c17b0]|(simp only[jF,jG];rw[c17b0])|skip)
    have H':=am_ H
    clear H
    go_wp2
    go_meet
    case rel=>exact⟨_,(decide ((rd l1 x11_2) ≥ (wrap64 (t637-x11_2)))),T10_,H',⟨T13_⟩,⟨ru_ HO_8.out⟩,⟨su_ HO_9.out⟩,⟨ru_ HO_10.out⟩,⟨T19_⟩⟩
   clear HC16
   (try clear c6);(try clear c8);(try clear c8b0 c8b1);(try clear c9);(try clear c9b0 c9b1);(try clear c13);(try clear c13b0);(try clear c14);(try clear c14b0);(try clear c15);(try clear c15b0);(try clear hx644_0);(try clear p644 q644)
   obtain⟨kq,x49_15,rfl,HA,HJ15,HO_8,HO_9,HO_10,HB⟩:=hcut
   cases kq with
   | zero=>exact absurd HA.out (by simp[churnref12_Pattern.j2])
   | succ kj15 =>
    have H:=HA.out
    clear HA
    simp only[churnref12_Pattern.j2] at H
    by_cases c18:x49_15=true
    ·subst c18
     have H1:(some (([]:List Int),([]:List Int),2))=some (r1,r2,r3):=by rw[if_pos rfl] at H;exact H
     clear H
     have H:=H1
     clear H1
     obtain⟨rfl,rfl,rfl⟩:=sj3_ H
     go_wp2
     go_ret3
     exact⟨_,_,T17_,T21_,T21_,T19_⟩
    replace c18:=Bool.eq_false_iff.mpr c18
    subst c18
    have H1:(churnref12_Pattern.l1 kj15 l1 t637 x8_2 x9_2 x10_2 x11_2 (rd l1 x11_2) 0)=some (r1,r2,r3):=by rw[if_neg (show ¬ (false=true) by decide)] at H;exact H
    clear H
    have H:=H1
    clear H1
    have H':=am_ H
    clear H
    go_wp2
    go_loopg [12,13] kj15 (fun kq v12 v13 w'=>∃ (x12_4:Int) (x13_4:Int),v12 = .int .i64 x12_4∧v13 = .int .i64 x13_4∧Aside0 (churnref12_Pattern.l1 kq l1 t637 x8_2 x9_2 x10_2 x11_2 x12_4 x13_4=some (r1,r2,r3))∧Aside0 (kq≤kj15)∧Aside0 (jt (jb .i64) 3 w' w.heap.size (fun k_=>ne_ k_ u10) v639 x8_2)∧Aside0 (Kd.S (jB 3 (jb .i64)) 24 w' w.heap.size (fun k_=>ne_ k_ v639∧ne_ k_ u10) v642 x9_2)∧Aside0 (jt (jb .i64) 3 w' w.heap.size (fun k_=>ne_ k_ v639) u10 x10_2)∧Aside0 (Below w.heap.size w w'))
    case atStart=>exact⟨((rd l1 x11_2)),(0),T10_,T10_,H',⟨Nat.le_refl _⟩,⟨ru_ HO_8.out⟩,⟨su_ HO_9.out⟩,⟨ru_ HO_10.out⟩,⟨T19_⟩⟩
    clear H'
    (try clear c6);(try clear c8);(try clear c8b0 c8b1);(try clear c9);(try clear c9b0 c9b1);(try clear c13);(try clear c13b0);(try clear c14);(try clear c14b0);(try clear c15);(try clear c15b0);(try clear c18);(try clear hx644_0);(try clear p644 q644)
    obtain⟨x12_4,x13_4,rfl,rfl,HA,HK4,HO_8,HO_9,HO_10,HB⟩:=hrel
    cases gk with
    | zero=>exact absurd HA.out (by simp[churnref12_Pattern.l1])
    | succ k4 =>
     have H:=HA.out
     clear HA
     simp only[churnref12_Pattern.l1] at H
     replace H:=ifn_ H;obtain⟨c19,H⟩:=H
     have c19b0:=decide_eq_true c19
     clear c19
     replace H:=ifn_ H;obtain⟨c20,H⟩:=H
     have c20b0:=decide_eq_true c20
     clear c20
     by_cases c21:x12_4 ≥ (rd x8_2 x13_4)
     ·rw[if_pos c21] at H
      have c21b0:=decide_eq_true c21
      clear c21
      have H':=am_ H
      clear H
      obtain⟨Ao22,co22,eo22⟩:=jp HO_8.out
      subst eo22
      obtain⟨ad645,e645,hx645_0,p645,q645⟩:=ai_ (ji HO_8.out).2.2 x13_4
      cases e645
      have p646:0≤(x13_4:Int):=od_
      have q646:x13_4<(x8_2.length:Int):=od_
      obtain⟨ad646,e646,hx646_0⟩:=jy (ji HO_8.out).2.2 x13_4 p646 q646
      obtain rfl:ad645=ad646:=(by injection e646)
      replace p646:=eq_true p646
      replace q646:=eq_true q646
      go_wp2
      go_roundg k4
      case measure=>have:=HJ3.out;have:=HK2.out;have:=HJ15.out;have:=HK4.out;omega
      case rel=>exact⟨(wrap64 (x12_4-(rd x8_2 x13_4))),(wrap64 (x13_4+1)),T10_,T10_,H',⟨(by have:=HJ3.out;have:=HK2.out;have:=HJ15.out;have:=HK4.out;omega)⟩,⟨ru_ HO_8.out⟩,⟨su_ HO_9.out⟩,⟨ru_ HO_10.out⟩,⟨T19_⟩⟩
     rw[if_neg c21] at H
     have c21b0:=decide_eq_false c21
     clear c21
     replace H:=ifa_ H;obtain⟨LMc23,H⟩:=H
     obtain⟨y647,hy_⟩:∃ y_:List Int,y_=(x10_2 ++ [x13_4]):=⟨_,rfl⟩
     replace H:(if x13_4<(x9_2.length:Int) then(if(rd_L3 x9_2 x13_4).length<17592186044416 then(churnref12_Pattern.l0 k4 l1 t637 (x8_2.set (x13_4:Int).toNat (wrap64 ((rd x8_2 x13_4)-1))) (x9_2.set (x13_4:Int).toNat ((rd_L3 x9_2 x13_4) ++ [x12_4])) y647 (wrap64 (x11_2+1))) else(none)) else(none))=some (r1,r2,r3):=hyw_
     have Ny647:=am_ hy_
     clear hy_
     replace H:=ifn_ H;obtain⟨c24,H⟩:=H
     have c24b0:=decide_eq_true c24
     clear c24
     replace H:=ifa_ H;obtain⟨LMc25,H⟩:=H
     obtain⟨y651,hy_⟩:∃ y_:List Int,y_=((rd_L3 x9_2 x13_4) ++ [x12_4]):=⟨_,rfl⟩
     replace H:(churnref12_Pattern.l0 k4 l1 t637 (x8_2.set (x13_4:Int).toNat (wrap64 ((rd x8_2 x13_4)-1))) (x9_2.set (x13_4:Int).toNat y651) y647 (wrap64 (x11_2+1)))=some (r1,r2,r3):=hyw_
     have Ny651:=am_ hy_
     clear hy_
     obtain⟨y654,hy_⟩:∃ y_:List (List Int),y_=(x9_2.set (x13_4:Int).toNat y651):=⟨_,rfl⟩
     replace H:(churnref12_Pattern.l0 k4 l1 t637 (x8_2.set (x13_4:Int).toNat (wrap64 ((rd x8_2 x13_4)-1))) y654 y647 (wrap64 (x11_2+1)))=some (r1,r2,r3):=hyw_
     have Ny654:=am_ hy_
     clear hy_
     obtain⟨y656,hy_⟩:∃ y_:List Int,y_=(x8_2.set (x13_4:Int).toNat (wrap64 ((rd x8_2 x13_4)-1))):=⟨_,rfl⟩
     replace H:(churnref12_Pattern.l0 k4 l1 t637 y656 y654 y647 (wrap64 (x11_2+1)))=some (r1,r2,r3):=hyw_
     have Ny656:=am_ hy_
     clear hy_
     have H':=am_ H
     clear H
     obtain⟨Ao28,co28,eo28⟩:=jp HO_8.out
     subst eo28
     obtain⟨ad645,e645,hx645_0,p645,q645⟩:=ai_ (ji HO_8.out).2.2 x13_4
     cases e645
     go_wp2_with(first|(refine gb_ .append #[.tmp 64,.tmp 66] ?_;(try(refine jI T0_ ?_;dsimp only));at_builtin;refine Jd (jb .i64) (w0:=w) w.heap.size rfl (.tmp 64) (.tmp 66) 24 3 (.int .i64 0) 8 rfl Try.underlying24 info3 rfl T3_ T2_ u10 x10_2 x13_4 [.int .i64 x13_4] (fun k_=>ne_ k_ (.slice (some ad645) x8_2.length co28)) (fun _=>False) rfl rfl ?aP (fun _ hk=>hk.elim) ?aF ?aO ?aB ?aS ?aL ?_;(case aP=>exact rfl);(case aB=>exact T19_);(case aF=>exact(fun k_ hk=>jA (jh (ru_ HO_8.out)) k_ hk));(case aO=>exact(ru_ HO_10.out));(case aS=>exact(jc T19_));(case aL=>have:=LMc23.out;omega);intro v648 w29 ho hb hg hat;rw[←Ny647.out] at ho;have n_:=P4_ (jv (ok:=(fun _=>True)) (ru_ (ja HO_8.out (fun _ hk=>⟨trivial,hk⟩))) hg hat) (Kd.S_after (ok:=(fun k_=>ne_ k_ (.slice (some ad645) x8_2.length co28))) (su_ HO_9.out) hg hat) (hb) (ho);clear HO_8 HO_9 HB HO_10;obtain⟨HO_8,HO_9,HB,HO649⟩:=n_;clear ho hb hg hat;obtain⟨Ao30,co30,eo30⟩:=jT HO_9.out;subst eo30;have p650:0≤(x13_4:Int):=od_;have q650:x13_4<(x9_2.length:Int):=od_;obtain⟨ad650,A650_0,c650_0,e650,hx650_0,hl650_0,hi650_0⟩:=at_L3 (jK HO_9.out).2.2 x13_4 p650 q650;cases e650;obtain⟨ce650,hce650,hMe650,hcc650⟩:=Kd.S_get HO_9.out [] x13_4 p650 (by first|exact q650|exact od_|(have e_:=(jK HO_9.out).1;omega));obtain⟨ve650_0,rfl,ge650_0⟩:=hMe650;have hv650_0:=hcc650 0 _ rfl;rw[Nat.add_zero,show((jB 3 (jb .i64))).sz=1 from rfl,Nat.mul_one] at hv650_0;replace hv650_0:=Option.some.inj (hv650_0.symm.trans hx650_0);rw[hv650_0] at ge650_0;have HL650_0:=am_ (show jt (jb .i64) 3 _ _ _ _ (rd_L3 x9_2 x13_4) from ge650_0);clear hv650_0 ge650_0;have HX650_0:=am_ hx650_0;clear hcc650 hce650;have HR650_0:=am_ hi650_0;have HC650_0:=am_ hl650_0;clear hi650_0 hl650_0;replace p650:=eq_true p650;replace q650:=eq_true q650;obtain⟨go31,co31,eo31,gb31,gl31,cl31,HG31⟩:=Kd.S_form HO_9.out (by have h_:(x13_4:Int)<((x9_2.length:Int):Int):=od_;have h2_:0≤(x13_4:Int):=(od_);omega);(first|cases eo31|(injection eo31 with ea_ en_ ec_;(first|subst ea_|(injection ea_ with ea_;subst ea_));subst ec_;clear en_));have GB31:=am_ gb31;have GG31:=am_ HG31;clear gb31 gl31 HG31;(first|simp only[jW] at hx650_0|skip);obtain⟨oki31,ce31,hcl31,hM31,hcc31,_,_,hH31⟩:=Kd.S_elem HO_9.out [] (x13_4:Int) (od_) (by have h_:(x13_4:Int)<((x9_2.length:Int):Int):=od_;first|exact h_|(have e_:=(jK HO_9.out).1;omega)|simpa using h_);obtain⟨ve31_0,rfl,ge31_0⟩:=hM31;have hv31:=hcc31 0 _ rfl;have hX31:=HX650_0.out;(try simp only[jW] at hX31);(try simp only[Nat.add_zero] at hv31);(try rw[show((jB 3 (jb .i64))).sz=1 from rfl,Nat.mul_one] at hv31);replace hv31:=Option.some.inj (hv31.symm.trans hX31);subst hv31;clear hX31 hcc31 hcl31;have UU31:=am_ (show jt (jb .i64) 3 _ w.heap.size oki31 (.slice A650_0 (rd_L3 x9_2 x13_4).length c650_0) (rd_L3 x9_2 x13_4) from ge31_0);have HH31:=am_ hH31;have HN31:=am_ (jK HO_9.out).1;clear hH31 ge31_0)|(refine gb_ .append #[.tmp 73,.tmp 75] ?_;(try(refine jI T0_ ?_;dsimp only));at_builtin;refine Jd (jb .i64) (w0:=w) w.heap.size rfl (.tmp 73) (.tmp 75) 24 3 (.int .i64 0) 8 rfl Try.underlying24 info3 rfl T3_ T2_ (.slice A650_0 (rd_L3 x9_2 x13_4).length c650_0) (rd_L3 x9_2 x13_4) x12_4 [.int .i64 x12_4] (fun k_=>oki31 k_∨((fun k_=>ne_ k_ (.slice (some ad645) x8_2.length co28)∧ne_ k_ v648)) k_∧w29.heap.size≤k_) (fun _=>False) rfl rfl ?aP (fun _ hk=>hk.elim) ?aF ?aO ?aB ?aS ?aL ?_;(case aP=>exact rfl);(case aB=>exact T19_);(case aF=>exact(fun k_ hk=>.inr ⟨⟨jA (jh (ru_ HO_8.out)) k_ hk,jA (jh (ru_ HO649.out)) k_ hk⟩,hk⟩));(case aO=>exact(ru_ (ja UU31.out (fun _ hk=>.inl hk))));(case aS=>exact(jc T19_));(case aL=>have:=LMc25.out;omega);intro v652 w32 ho hb hg hat;rw[←Ny651.out] at ho;have n_:=P5_ (Kd.R_grown2 (ru_ HO_8.out) rfl hg (fun k_ e_=>(HL650_0.out.1 k_ e_).1.1)) (Kd.R_grown2 (ru_ HO649.out) rfl hg (fun k_ e_=>(HL650_0.out.1 k_ e_).1.2)) (hb) (Kd.H_grown (Kd.H_widen (by repeat(first|exact HH31.out|refine Kd.H_alloc ?_ _|refine Kd.H_drewN ?_ _|refine Kd.H_drew ?_))) hg (fun k_ e_=>.inl (UU31.out.1 k_ e_))) (ho);clear HO_8 HO649 HB HH31 HO_9 UU31 HL650_0;obtain⟨HO_8,HO649,HB,HH31,HO653⟩:=n_;clear ho hb hg hat;have p26:0≤(x13_4:Int):=od_;have q26:(x13_4:Int)<((x9_2.length:Int):Int):=od_;replace p26:=eq_true p26;replace q26:=eq_true q26;obtain⟨Ao35,co35,eo35⟩:=jp HO653.out;subst eo35;obtain⟨_,_,hraw33,_,_,hcc33,_⟩:=Kd.H_raw HH31.out (od_) (by have h_:(x13_4:Int)<((x9_2.length:Int):Int):=od_;first|exact h_|(have e_:=(HN31.out);omega)|simpa using h_);obtain⟨_,hfr33⟩:=Kd.H_at HH31.out (od_) (by have h_:(x13_4:Int)<((x9_2.length:Int):Int):=od_;first|exact h_|(have e_:=(HN31.out);omega)|simpa using h_);have hx33_0:=hcc33 0 _ rfl;have hf33_0:=hfr33 0;(try simp only[Nat.add_zero] at hx33_0 hf33_0);(try rw[show((jB 3 (jb .i64))).sz=1 from rfl,Nat.mul_one] at hx33_0);(try rw[show((jB 3 (jb .i64))).sz=1 from rfl,Nat.mul_one] at hf33_0);have HP33:=Kd.S_seg0 HH31.out (od_) (by have h_:(x13_4:Int)<((x9_2.length:Int):Int):=od_;first|exact h_|(have e_:=(HN31.out);omega)|simpa using h_) (seg:=[.slice Ao35 y651.length co35]) (j:=0) (show 1≤1 from by decide) (x':=y651) (Kd.M_row HO653.out) (fun _ hk=>hk);(try simp only[show((jB 3 (jb .i64))).sz=1 from rfl,Nat.mul_one,Nat.add_zero] at HP33);clear hcc33 hfr33)|(refine gs_ 24 77 ?_;refine sv_ 24 77 (w32.setCell ⟨go31,(x13_4:Int).toNat,none⟩ (.slice Ao35 y651.length co35)) ?_;intro w34 hw;have hg:w32.grownBy w34 (some go31):=(by rw[hw];exact HP33.2);have hp_:Kd.S (jB 3 (jb .i64)) 24 w34 w.heap.size (fun k_=>ne_ k_ (.slice (some ad645) x8_2.length co28)∧ne_ k_ v648) (.slice (some ⟨go31,0,none⟩) x9_2.length co30) y654:=(by rw[hw,Ny654.out];exact HP33.1);clear HP33;have n_:=P4_ (jx (v:=(.slice (some ⟨go31,0,none⟩) x9_2.length co30)) (ru_ HO_8.out) (jz hraw33) T3_ hg) (jx (v:=(.slice (some ⟨go31,0,none⟩) x9_2.length co30)) (ru_ HO649.out) (jz hraw33) T3_ hg) ((by rw[hw];exact jO HB.out GB31.out:Below w.heap.size w w34)) (hp_);clear HO_8 HO649 HB HO653 HH31;obtain⟨HO_8,HO649,HB,HO_9⟩:=n_;clear hg hw hp_ hraw33;have p655:0≤(x13_4:Int):=od_;have q655:x13_4<(x8_2.length:Int):=od_;obtain⟨ad655,e655,hx655_0⟩:=jy (ji HO_8.out).2.2 x13_4 p655 q655;obtain rfl:ad645=ad655:=(by injection e655);replace p655:=eq_true p655;replace q655:=eq_true q655;have p27:0≤(x13_4:Int):=od_;have q27:(x13_4:Int)<((x8_2.length:Int):Int):=od_;obtain⟨go27,co27,eo27,gb27,gl27,cl27,HG27⟩:=Kd.R_form HO_8.out T2_;(first|cases eo27|(injection eo27 with ea_ en_ ec_;(first|subst ea_|(injection ea_ with ea_;subst ea_));subst ec_;clear en_));have GB27:=am_ gb27;have GG27:=am_ HG27;clear gb27 gl27 HG27;(first|simp only[jW] at hx645_0|skip);(first|simp only[jW] at hx646_0|skip);(first|simp only[jW] at hx655_0|skip);obtain⟨hx27_0,hf27_0⟩:=jH 0 HO_8.out (x13_4:Int) p27 q27;replace p27:=eq_true p27;replace q27:=eq_true q27;have n_:=am_ (ja (ok':=(fun k_=>ne_ k_ v648)) HO_8.out (fun k_ hk=>hk.2));clear HO_8;have HO_8:=n_;clear n_;obtain⟨hy36_,hz36_⟩:=jH 0 HO_8.out (x13_4:Int) (od_) (od_);have HP36:=Kd.R_putg HO_8.out (x13_4:Int) (wrap64 ((rd x8_2 x13_4)-1)))|(refine gs_ 3 83 ?_;refine sv_ 3 83 (w34.setCell ⟨go27,(x13_4:Int).toNat,none⟩ (.int .i64 (wrap64 ((rd x8_2 x13_4)-1)))) ?_;intro w37 hw;have hg:w34.grownBy w37 (some go27):=(by rw[hw];exact HP36.2);have hp_:jt (jb .i64) 3 w37 w.heap.size (fun k_=>ne_ k_ v648) (.slice (some ⟨go27,0,none⟩) x8_2.length co28) y656:=(by rw[hw,Ny656.out];exact HP36.1);clear HP36;have n_:=P4_ (hp_) (jv (v:=(.slice (some ⟨go27,0,none⟩) x8_2.length co28)) (v1:=(.slice (some ⟨go27,0,none⟩) x8_2.length co28)) (ok:=(fun _=>True)) (ru_ (ja HO649.out (fun _ hk=>⟨trivial,hk⟩))) hg (.inl rfl)) (Kd.S_after (v:=(.slice (some ⟨go27,0,none⟩) x8_2.length co28)) (v1:=(.slice (some ⟨go27,0,none⟩) x8_2.length co28)) (ok:=(fun k_=>ne_ k_ v648)) (su_ (jC HO_9.out (fun _ hk=>⟨hk.2,hk.1⟩))) hg (.inl rfl)) ((by rw[hw];exact jO (HB.out) GB27.out:Below w.heap.size w w37));clear HO_8 HO649 HO_9 HB;obtain⟨HO_8,HO649,HO_9,HB⟩:=n_;clear hg hw hp_))
     go_roundg k4
     case measure=>have:=HJ3.out;have:=HK2.out;have:=HJ15.out;have:=HK4.out;omega
     case rel=>exact⟨(y656),(y654),(y647),(wrap64 (x11_2+1)),T10_,H',⟨(by have:=HJ3.out;have:=HK2.out;have:=HJ15.out;have:=HK4.out;omega)⟩,⟨ru_ HO_8.out⟩,⟨su_ (jC HO_9.out (fun _ hk=>⟨hk.2,hk.1⟩))⟩,⟨ru_ (ja HO649.out (fun _ hk=>hk.2))⟩,⟨T19_⟩⟩
def churnref11_Identity.l0:Nat→Int→List Int→Int→Option (List Int)
 | 0,_,_,_=>none
 | k+1,x0,x3,x4=>if x4<x0 then(if x3.length<17592186044416 then(churnref11_Identity.l0 k x0 (x3 ++ [x4]) (wrap64 (x4+1))) else(none)) else(some x3)
def churnref11_Identity.f (k:Nat) (a0:Int):Option (List Int):=churnref11_Identity.l0 k a0 ([]:List Int) 0
set_option maxHeartbeats 8000000 in
set_option maxRecDepth 100000 in
theorem churnref11_Identity.calls (k:Nat) (a0:Int) (r:List Int) (w:World) (h:churnref11_Identity.f k a0=some r) :
  Calls Try.prog 54 #[.int .i64 a0] w fun e w'=>∃ v0_:Value,e = .returned (v0_)∧jt (jb .i64) 3 w' w.heap.size (fun _=>True) v0_ r∧Below w.heap.size w w':=by
 have HB:=am_ (Below.refl w.heap.size w)
 have H:(churnref11_Identity.l0 k a0 ([]:List Int) 0)=some r:=h
 clear h
 have H':=am_ H
 clear H
 go_enter Try.func54,Try.ntmps54
 go_wp2
 go_loopg [3,4] k (fun kq v3 v4 w'=>∃ (x3_1:List Int) (x4_1:Int),v4 = .int .i64 x4_1∧Aside0 (churnref11_Identity.l0 kq a0 x3_1 x4_1=some r)∧Aside0 (kq≤k)∧Aside0 (jt (jb .i64) 3 w' w.heap.size (fun _=>True) v3 x3_1)∧Aside0 (Below w.heap.size w w'))
 case atStart=>exact⟨(([]:List Int)),(0),T10_,H',⟨Nat.le_refl _⟩,⟨T21_⟩,⟨T19_⟩⟩
 clear H'
 obtain⟨x3_1,x4_1,rfl,HA,HK1,HO_3,HB⟩:=hrel
 cases gk with
 | zero=>exact absurd HA.out (by simp[churnref11_Identity.l0])
 | succ k1 =>
  have H:=HA.out
  clear HA
  simp only[churnref11_Identity.l0] at H
  by_cases c2:x4_1<a0
  rotate_left
  ·rw[if_neg c2] at H
   have c2b0:=decide_eq_false c2
   clear c2
   obtain rfl:=Option.some.inj H
   obtain⟨rfl⟩:=sj1_ H
   go_wp2
   go_ret
   exact⟨_,T17_,ru_ HO_3.out,T19_⟩
  rw[if_pos c2] at H
  have c2b0:=decide_eq_true c2
  clear c2
  replace H:=ifa_ H;obtain⟨LMc3,H⟩:=H
  obtain⟨y661,hy_⟩:∃ y_:List Int,y_=(x3_1 ++ [x4_1]):=⟨_,rfl⟩
  replace H:(churnref11_Identity.l0 k1 a0 y661 (wrap64 (x4_1+1)))=some r:=hyw_
  have Ny661:=am_ hy_
  clear hy_
  have H':=am_ H
  clear H
  go_wp2_with(first|(refine gb_ .append #[.tmp 10,.tmp 12] ?_;at_builtin;refine Jd (jb .i64) (w0:=w) w.heap.size rfl (.tmp 10) (.tmp 12) 24 3 (.int .i64 0) 8 rfl Try.underlying24 info3 rfl T3_ T2_ u3 x3_1 x4_1 [.int .i64 x4_1] (fun _=>True) (fun _=>False) rfl rfl ?aP (fun _ hk=>hk.elim) ?aF ?aO ?aB ?aS ?aL ?_;(case aP=>exact rfl);(case aB=>exact T19_);(case aF=>exact(fun _ _=>trivial));(case aO=>exact(ru_ HO_3.out));(case aS=>exact(jc T19_));(case aL=>have:=LMc3.out;omega);intro v662 w4 ho hb hg hat;rw[←Ny661.out] at ho;have n_:=P2_ (hb) (ho);clear HB HO_3;obtain⟨HB,HO663⟩:=n_;clear ho hb hg hat))
  go_roundg k1
  case measure=>have:=HK1.out;omega
  case rel=>exact⟨(y661),(wrap64 (x4_1+1)),T10_,H',⟨T7_⟩,⟨ru_ HO663.out⟩,⟨T19_⟩⟩
def churnref11_Fit.l0:Nat→Int→List Int→Int→Option (Bool)
 | 0,_,_,_=>none
 | k+1,x0,x1,x5=>if x5<(x1.length:Int) then(if 0≤x5 then(if(rd x1 x5)<0 then(some false) else(if(rd x1 x5) ≥ (wrap64 (x0-x5)) then(some false) else(churnref11_Fit.l0 k x0 x1 (wrap64 (x5+1))))) else(none)) else(some true)
def churnref11_Fit.f (k:Nat) (a0:Int) (l1:List Int):Option (Bool):=(churnref11_Bounds.f k a0).bind fun t664=>(if(l1.length:Int)=(t664.length:Int) then(churnref11_Fit.l0 k a0 l1 0) else(some false))
set_option maxHeartbeats 8000000 in
set_option maxRecDepth 100000 in
theorem churnref11_Fit.calls (k:Nat) (a0:Int) (A1:Option Addr) (c1:Nat) (l1:List Int) (r:Bool) (w:World) (hr1:jX (jb .i64) w A1 l1.length l1) (hc1:l1.length≤c1) (h:churnref11_Fit.f k a0 l1=some r) :
  Calls Try.prog 62 #[.int .i64 a0,.slice A1 l1.length c1] w fun e w'=>e = .returned (.bool r)∧Below w.heap.size w w':=by
 have HR1:=am_ hr1
 have HC1:=am_ hc1
 clear hr1 hc1
 have HB:=am_ (Below.refl w.heap.size w)
 have H:((churnref11_Bounds.f k a0).bind fun t664=>(if(l1.length:Int)=(t664.length:Int) then(churnref11_Fit.l0 k a0 l1 0) else(some false)))=some r:=h
 clear h
 replace H:=Option.bind_eq_some_iff.mp H
 obtain⟨t664,A30,H⟩:=H
 try dsimp only at H
 have A3:=am_ A30
 clear A30
 by_cases c4:(l1.length:Int)=(t664.length:Int)
 rotate_left
 ·rw[if_neg c4] at H
  obtain⟨c4b0,c4b1⟩:=en_ c4
  have c4b2:(l1.length == t664.length)=false:=by first|simpa using c4|(simp at c4 ⊢;omega)
  obtain rfl:=Option.some.inj H
  obtain⟨rfl⟩:=sj1_ H
  go_enter Try.func62,Try.ntmps62
  go_wp2_with(first|(refine gc_ 31 ?_;refine gl_ (some 9) Try.func31 #[.int .i64 a0] ?_;(with_reducible refine(churnref11_Bounds.calls k a0 t664 _ A3.out).mono ?_);rintro e w11 ⟨v665,rfl,ho0,hb⟩;refine⟨_,rfl,?_⟩;have n_:=P2_ (jq ho0 (jc T19_)) (jk T19_ hb);clear HB;obtain⟨HO666,HB⟩:=n_;clear hb ho0;obtain⟨Ao12,co12,eo12⟩:=jp HO666.out;subst eo12))
  go_ret
  exact⟨T17_,T19_⟩
 rw[if_pos c4] at H
 obtain⟨c4b0,c4b1⟩:=ep_ c4
 have c4b2:(l1.length == t664.length)=true:=by first|simpa using c4|(simp at c4 ⊢;omega)
 clear c4
 have H':=am_ H
 clear H
 go_enter Try.func62,Try.ntmps62
 go_wp2_with(first|(refine gc_ 31 ?_;refine gl_ (some 9) Try.func31 #[.int .i64 a0] ?_;(with_reducible refine(churnref11_Bounds.calls k a0 t664 _ A3.out).mono ?_);rintro e w5 ⟨v665,rfl,ho0,hb⟩;refine⟨_,rfl,?_⟩;have n_:=P2_ (jq ho0 (jc T19_)) (jk T19_ hb);clear HB;obtain⟨HO666,HB⟩:=n_;clear hb ho0;obtain⟨Ao6,co6,eo6⟩:=jp HO666.out;subst eo6))
 go_loopg [5] k (fun kq v5 w'=>∃ (x5_1:Int),v5 = .int .i64 x5_1∧Aside0 (churnref11_Fit.l0 kq a0 l1 x5_1=some r)∧Aside0 (kq≤k)∧Aside0 (Below w.heap.size w w'))
 case atStart=>exact⟨(0),T10_,H',⟨Nat.le_refl _⟩,⟨T19_⟩⟩
 clear H'
 (try clear c4);(try clear c4b0 c4b1 c4b2)
 obtain⟨x5_1,rfl,HA,HK1,HB⟩:=hrel
 cases gk with
 | zero=>exact absurd HA.out (by simp[churnref11_Fit.l0])
 | succ k1 =>
  have H:=HA.out
  clear HA
  simp only[churnref11_Fit.l0] at H
  by_cases c7:x5_1<(l1.length:Int)
  rotate_left
  ·rw[if_neg c7] at H
   have c7b0:=decide_eq_false c7
   clear c7
   obtain rfl:=Option.some.inj H
   obtain⟨rfl⟩:=sj1_ H
   go_wp2
   go_ret
   exact⟨T17_,T19_⟩
  rw[if_pos c7] at H
  have c7b0:=decide_eq_true c7
  clear c7
  replace H:=ifn_ H;obtain⟨c8,H⟩:=H
  have c8b0:=decide_eq_true c8
  clear c8
  by_cases c9:(rd l1 x5_1)<0
  ·rw[if_pos c9] at H
   have c9b0:=decide_eq_true c9
   clear c9
   obtain rfl:=Option.some.inj H
   obtain⟨rfl⟩:=sj1_ H
   have p667:0≤(x5_1:Int):=od_
   have q667:x5_1<(l1.length:Int):=od_
   obtain⟨ad667,e667,hx667_0⟩:=jy HR1.out x5_1 p667 q667
   cases e667
   (try(replace hx667_0:=(HB.out.cell (World.block_lt_of_cell? w _ hx667_0)).trans hx667_0))
   replace p667:=eq_true p667
   replace q667:=eq_true q667
   go_wp2
   go_ret
   exact⟨T17_,T19_⟩
  rw[if_neg c9] at H
  have c9b0:=decide_eq_false c9
  clear c9
  by_cases c10:(rd l1 x5_1) ≥ (wrap64 (a0-x5_1))
  ·rw[if_pos c10] at H
   have c10b0:=decide_eq_true c10
   clear c10
   obtain rfl:=Option.some.inj H
   obtain⟨rfl⟩:=sj1_ H
   have p667:0≤(x5_1:Int):=od_
   have q667:x5_1<(l1.length:Int):=od_
   obtain⟨ad667,e667,hx667_0⟩:=jy HR1.out x5_1 p667 q667
   cases e667
   (try(replace hx667_0:=(HB.out.cell (World.block_lt_of_cell? w _ hx667_0)).trans hx667_0))
   replace p667:=eq_true p667
   replace q667:=eq_true q667
   have p668:0≤(x5_1:Int):=od_
   have q668:x5_1<(l1.length:Int):=od_
   obtain⟨ad668,e668,hx668_0⟩:=jy HR1.out x5_1 p668 q668
   obtain rfl:ad667=ad668:=(by injection e668)
   (try(replace hx668_0:=(HB.out.cell (World.block_lt_of_cell? w _ hx668_0)).trans hx668_0))
   replace p668:=eq_true p668
   replace q668:=eq_true q668
   go_wp2
   go_ret
   exact⟨T17_,T19_⟩
  rw[if_neg c10] at H
  have c10b0:=decide_eq_false c10
  clear c10
  have H':=am_ H
  clear H
  have p667:0≤(x5_1:Int):=od_
  have q667:x5_1<(l1.length:Int):=od_
  obtain⟨ad667,e667,hx667_0⟩:=jy HR1.out x5_1 p667 q667
  cases e667
  (try(replace hx667_0:=(HB.out.cell (World.block_lt_of_cell? w _ hx667_0)).trans hx667_0))
  replace p667:=eq_true p667
  replace q667:=eq_true q667
  have p668:0≤(x5_1:Int):=od_
  have q668:x5_1<(l1.length:Int):=od_
  obtain⟨ad668,e668,hx668_0⟩:=jy HR1.out x5_1 p668 q668
  obtain rfl:ad667=ad668:=(by injection e668)
  (try(replace hx668_0:=(HB.out.cell (World.block_lt_of_cell? w _ hx668_0)).trans hx668_0))
  replace p668:=eq_true p668
  replace q668:=eq_true q668
  go_wp2
  go_roundg k1
  case measure=>have:=HK1.out;omega
  case rel=>exact⟨(wrap64 (x5_1+1)),T10_,H',⟨T7_⟩,⟨T19_⟩⟩
mutual
def churnref11_From.j0:Nat→Int→List Int→Bool→Option (List Int×Int)
 | 0,_,_,_=>none
 | k+1,x0,x1,x33=>if x33=true then(some (([]:List Int),110)) else((churnref11_Identity.f k x0).bind fun t671=>(churnref11_From.l0 k x0 x1 t671 0))
def churnref11_From.l0:Nat→Int→List Int→List Int→Int→Option (List Int×Int)
 | 0,_,_,_,_=>none
 | k+1,x0,x1,x6,x7=>if x7<(x1.length:Int) then(if 0≤x7 then(if 0≤(wrap64 ((wrap64 (x0-1))-x7)) then(if(wrap64 ((wrap64 (x0-1))-x7))<(x6.length:Int) then(if 0≤(rd x1 x7) then(if(rd x1 x7)<(x6.length:Int) then(churnref11_From.l0 k x0 x1 ((x6.set ((wrap64 ((wrap64 (x0-1))-x7)):Int).toNat (rd x6 (rd x1 x7))).set ((rd x1 x7):Int).toNat (rd x6 (wrap64 ((wrap64 (x0-1))-x7)))) (wrap64 (x7+1))) else(none)) else(none)) else(none)) else(none)) else(none)) else(some (x6,0))
end
def churnref11_From.f (k:Nat) (a0:Int) (l1:List Int):Option (List Int×Int):=if a0<0 then(some (([]:List Int),2)) else(if a0=(wrap64 ((l1.length:Int)+1)) then((churnref11_Fit.f k a0 l1).bind fun t669=>(churnref11_From.j0 k a0 l1 (!t669))) else(if a0=0 then(if((l1.length:Int)=0) then((churnref11_Fit.f k a0 l1).bind fun t670=>(churnref11_From.j0 k a0 l1 (!t670))) else(churnref11_From.j0 k a0 l1 true)) else(churnref11_From.j0 k a0 l1 true)))
set_option maxHeartbeats 8000000 in
set_option maxRecDepth 100000 in
theorem churnref11_From.calls (k:Nat) (a0:Int) (A1:Option Addr) (c1:Nat) (l1:List Int) (r1:List Int) (r2:Int) (w:World) (hr1:jX (jb .i64) w A1 l1.length l1) (hc1:l1.length≤c1) (h:churnref11_From.f k a0 l1=some (r1,r2)) :
  Calls Try.prog 48 #[.int .i64 a0,.slice A1 l1.length c1] w fun e w'=>∃ v0_:Value,e = .returned (.tuple #[v0_,.int .i64 r2])∧jt (jb .i64) 3 w' w.heap.size (fun _=>True) v0_ r1∧Below w.heap.size w w':=by
 have HR1:=am_ hr1
 have HC1:=am_ hc1
 clear hr1 hc1
 have HB:=am_ (Below.refl w.heap.size w)
 have H:(if a0<0 then(some (([]:List Int),2)) else(if a0=(wrap64 ((l1.length:Int)+1)) then((churnref11_Fit.f k a0 l1).bind fun t669=>(churnref11_From.j0 k a0 l1 (!t669))) else(if a0=0 then(if((l1.length:Int)=0) then((churnref11_Fit.f k a0 l1).bind fun t670=>(churnref11_From.j0 k a0 l1 (!t670))) else(churnref11_From.j0 k a0 l1 true)) else(churnref11_From.j0 k a0 l1 true))))=some (r1,r2):=h
 clear h
 by_cases c3:a0<0
 ·rw[if_pos c3] at H
  have c3b0:=decide_eq_true c3
  clear c3
  obtain⟨rfl,rfl⟩:=sj2_ H
  go_enter Try.func48,Try.ntmps48
  go_wp2
  repeat(go_quiet(fail);try go_wp2)
  go_ret2
  exact⟨_,T17_,T21_,T19_⟩
 rw[if_neg c3] at H
 have c3b0:=decide_eq_false c3
 clear c3
 have HC4:=am_ H
 clear H
 go_enter Try.func48,Try.ntmps48
 go_upto_region 3 with(fail)
 repeat(go_quiet(fail);go_upto_region 3 with(fail))
 go_cut [33] (fun v33 wc=>∃ (kq:Nat) (x33_3:Bool),v33 = .bool x33_3∧Aside0 (churnref11_From.j0 kq a0 l1 x33_3=some (r1,r2))∧Aside0 (kq≤k)∧Aside0 (Below w.heap.size w wc))
 case first =>
  have H:=HC4.out
  clear HC4
  by_cases c5:a0=(wrap64 ((l1.length:Int)+1))
  ·rw[if_pos c5] at H
   obtain⟨c5b0,c5b1⟩:=ep_ c5
   clear c5
   (first|rw[c5b0]|(simp only[jF,jG];rw[c5b0])|skip)
   replace H:=Option.bind_eq_some_iff.mp H
   obtain⟨t669,A60,H⟩:=H
   try dsimp only at H
   have A6:=am_ A60
   clear A60
   have H':=am_ H
   clear H
   iterate 4 ((try go_quiet(fail));go_wp2_with(first|(go_at_call 62;(with_reducible refine(churnref11_Fit.calls k a0 _ _ l1 t669 _ ?side1 ?side2 A6.out).mono ?_);(case side1=>exact cu_ (jw HR1.out HB.out));(case side2=>exact HC1.out);rintro e w7 ⟨rfl,hb⟩;have n0_:=am_ (jk T19_ hb);clear HB;have HB:=n0_;clear n0_;clear hb)))
   go_meet
   case rel=>exact⟨_,(!t669),T10_,H',⟨T8_⟩,⟨T19_⟩⟩
  rw[if_neg c5] at H
  obtain⟨c5b0,c5b1⟩:=en_ c5
  (first|rw[c5b0]|(simp only[jF,jG];rw[c5b0])|skip)
  by_cases c8:a0=0
  rotate_left
  ·rw[if_neg c8] at H
   obtain⟨c8b0,c8b1⟩:=en_ c8
   have H':=am_ H
   clear H
   go_wp2
   repeat(go_quiet(fail);try go_wp2)
   go_meet
   case rel=>exact⟨_,(true),T10_,H',⟨T8_⟩,⟨T19_⟩⟩
  rw[if_pos c8] at H
  obtain⟨c8b0,c8b1⟩:=ep_ c8
  clear c8
  by_cases c9:((l1.length:Int)=0)
  rotate_left
  ·rw[if_neg c9] at H
   obtain⟨c9b0,c9b1⟩:=en_ c9
   have c9b2:¬ (l1=[]):=fun h_=>c9 (by rw[h_];rfl)
   have H':=am_ H
   clear H
   go_wp2
   repeat(go_quiet(fail);try go_wp2)
   go_meet
   case rel=>exact⟨_,(true),T10_,H',⟨T8_⟩,⟨T19_⟩⟩
  rw[if_pos c9] at H
  obtain⟨c9b0,c9b1⟩:=ep_ c9
  clear c9
  replace H:=Option.bind_eq_some_iff.mp H
  obtain⟨t670,A100,H⟩:=H
  try dsimp only at H
  have A10:=am_ A100
  clear A100
  have H':=am_ H
  clear H
  iterate 4 ((try go_quiet(fail));go_wp2_with(first|(go_at_call 62;(with_reducible refine(churnref11_Fit.calls k a0 _ _ l1 t670 _ ?side1 ?side2 A10.out).mono ?_);(case side1=>exact cu_ (jw HR1.out HB.out));(case side2=>exact HC1.out);rintro e w11 ⟨rfl,hb⟩;have n0_:=am_ (jk T19_ hb);clear HB;have HB:=n0_;clear n0_;clear hb)))
  go_meet
  case rel=>exact⟨_,(!t670),T10_,H',⟨T8_⟩,⟨T19_⟩⟩
 clear HC4
 (try clear c3);(try clear c3b0)
 obtain⟨kq,x33_3,rfl,HA,HJ3,HB⟩:=hcut
 cases kq with
 | zero=>exact absurd HA.out (by simp[churnref11_From.j0])
 | succ kj3 =>
  have H:=HA.out
  clear HA
  simp only[churnref11_From.j0] at H
  by_cases c12:x33_3=true
  ·subst c12
   have H1:(some (([]:List Int),110))=some (r1,r2):=by rw[if_pos rfl] at H;exact H
   clear H
   have H:=H1
   clear H1
   obtain⟨rfl,rfl⟩:=sj2_ H
   go_wp2
   repeat(go_quiet(fail);try go_wp2)
   go_ret2
   exact⟨_,T17_,T21_,T19_⟩
  replace c12:=Bool.eq_false_iff.mpr c12
  subst c12
  have H1:((churnref11_Identity.f kj3 a0).bind fun t671=>(churnref11_From.l0 kj3 a0 l1 t671 0))=some (r1,r2):=by rw[if_neg (show ¬ (false=true) by decide)] at H;exact H
  clear H
  have H:=H1
  clear H1
  replace H:=Option.bind_eq_some_iff.mp H
  obtain⟨t671,A130,H⟩:=H
  try dsimp only at H
  have A13:=am_ A130
  clear A130
  have H':=am_ H
  clear H
  iterate 4 ((try go_quiet(fail));go_wp2_with(first|(go_at_call 54;(with_reducible refine(churnref11_Identity.calls kj3 a0 t671 _ A13.out).mono ?_);rintro e w14 ⟨v672,rfl,ho0,hb⟩;have n_:=P2_ (jq ho0 (jc T19_)) (jk T19_ hb);clear HB;obtain⟨HO673,HB⟩:=n_;clear hb ho0)))
  go_loopg [7] kj3 (fun kq v7 w'=>∃ (x6_2:List Int) (x7_2:Int),v7 = .int .i64 x7_2∧Aside0 (churnref11_From.l0 kq a0 l1 x6_2 x7_2=some (r1,r2))∧Aside0 (kq≤kj3)∧Aside0 (jt (jb .i64) 3 w' w.heap.size (fun _=>True) v672 x6_2)∧Aside0 (Below w.heap.size w w'))
  case atStart=>exact⟨(t671),(0),T10_,H',⟨Nat.le_refl _⟩,⟨ru_ HO673.out⟩,⟨T19_⟩⟩
  clear H'
  (try clear c3);(try clear c3b0);(try clear c12)
  obtain⟨x6_2,x7_2,rfl,HA,HK2,HO_6,HB⟩:=hrel
  cases gk with
  | zero=>exact absurd HA.out (by simp[churnref11_From.l0])
  | succ k2 =>
   have H:=HA.out
   clear HA
   simp only[churnref11_From.l0] at H
   by_cases c15:x7_2<(l1.length:Int)
   rotate_left
   ·rw[if_neg c15] at H
    have c15b0:=decide_eq_false c15
    clear c15
    obtain⟨rfl,rfl⟩:=sj2_ H
    go_wp2
    repeat(go_quiet(fail);try go_wp2)
    go_ret2
    exact⟨_,T17_,ru_ HO_6.out,T19_⟩
   rw[if_pos c15] at H
   have c15b0:=decide_eq_true c15
   clear c15
   replace H:=ifn_ H;obtain⟨c16,H⟩:=H
   have c16b0:=decide_eq_true c16
   clear c16
   obtain⟨ji17,hji17⟩:∃ j_:Int,(wrap64 ((wrap64 (a0-1))-x7_2))=j_:=⟨_,rfl⟩
   replace H:(if 0≤(ji17) then(if(ji17)<(x6_2.length:Int) then(if 0≤(rd l1 x7_2) then(if(rd l1 x7_2)<(x6_2.length:Int) then(churnref11_From.l0 k2 a0 l1 ((x6_2.set ((ji17):Int).toNat (rd x6_2 (rd l1 x7_2))).set ((rd l1 x7_2):Int).toNat (rd x6_2 (ji17))) (wrap64 (x7_2+1))) else(none)) else(none)) else(none)) else(none))=some (r1,r2):=by first|(rw[hji17] at H;exact H)|(simp only[hji17] at H ⊢;exact H)
   have hji17w:(IntKind.i64.wrap ((wrap64 (a0-1))-x7_2))=ji17:=(jF _).trans hji17
   replace H:=ifn_ H;obtain⟨c18,H⟩:=H
   have c18b0:=decide_eq_true c18
   clear c18
   replace H:=ifn_ H;obtain⟨c19,H⟩:=H
   have c19b0:=decide_eq_true c19
   clear c19
   replace H:=ifn_ H;obtain⟨c20,H⟩:=H
   have c20b0:=decide_eq_true c20
   clear c20
   replace H:=ifn_ H;obtain⟨c21,H⟩:=H
   have c21b0:=decide_eq_true c21
   clear c21
   obtain⟨y677,hy_⟩:∃ y_:List Int,y_=(x6_2.set ((ji17):Int).toNat (rd x6_2 (rd l1 x7_2))):=⟨_,rfl⟩
   replace H:(churnref11_From.l0 k2 a0 l1 (y677.set ((rd l1 x7_2):Int).toNat (rd x6_2 (ji17))) (wrap64 (x7_2+1)))=some (r1,r2):=hyw_
   have Ny677:=am_ hy_
   clear hy_
   obtain⟨y678,hy_⟩:∃ y_:List Int,y_=(y677.set ((rd l1 x7_2):Int).toNat (rd x6_2 (ji17))):=⟨_,rfl⟩
   replace H:(churnref11_From.l0 k2 a0 l1 y678 (wrap64 (x7_2+1)))=some (r1,r2):=hyw_
   have Ny678:=am_ hy_
   clear hy_
   have H':=am_ H
   clear H
   have p674:0≤(x7_2:Int):=od_
   have q674:x7_2<(l1.length:Int):=od_
   obtain⟨ad674,e674,hx674_0⟩:=jy HR1.out x7_2 p674 q674
   cases e674
   (try(replace hx674_0:=(HB.out.cell (World.block_lt_of_cell? w _ hx674_0)).trans hx674_0))
   replace p674:=eq_true p674
   replace q674:=eq_true q674
   obtain⟨Ao24,co24,eo24⟩:=jp HO_6.out
   subst eo24
   obtain⟨ad675,e675,hx675_0,p675,q675⟩:=ai_ (ji HO_6.out).2.2 (ji17)
   cases e675
   have p676:0≤((rd l1 x7_2):Int):=od_
   have q676:(rd l1 x7_2)<(x6_2.length:Int):=od_
   obtain⟨ad676,e676,hx676_0⟩:=jy (ji HO_6.out).2.2 (rd l1 x7_2) p676 q676
   obtain rfl:ad675=ad676:=(by injection e676)
   replace p676:=eq_true p676
   replace q676:=eq_true q676
   have p22:0≤((ji17):Int):=od_
   have q22:((ji17):Int)<((x6_2.length:Int):Int):=od_
   obtain⟨go22,co22,eo22,gb22,gl22,cl22,HG22⟩:=Kd.R_form HO_6.out T2_
   (first|cases eo22|(injection eo22 with ea_ en_ ec_;(first|subst ea_|(injection ea_ with ea_;subst ea_));subst ec_;clear en_))
   have GB22:=am_ gb22
   have GG22:=am_ HG22
   clear gb22 gl22 HG22
   (first|simp only[jW] at hx675_0|skip)
   (first|simp only[jW] at hx676_0|skip)
   obtain⟨hx22_0,hf22_0⟩:=jH 0 HO_6.out ((ji17):Int) p22 q22
   replace p22:=eq_true p22
   replace q22:=eq_true q22
   obtain⟨hy25_,hz25_⟩:=jH 0 HO_6.out ((ji17):Int) (od_) (od_)
   have HP25:=Kd.R_putg HO_6.out ((ji17):Int) (rd x6_2 (rd l1 x7_2))
   iterate 4 ((try go_quiet(fail));go_wp2_with(first|(refine gs_ 3 60 ?_;(try(rw[drewN_self wr];generalize hq_:World.drewN wr _=wr;have n_:=P2_ (Kd.R_at hq_ HO_6.out) (below_at hq_ HB.out);obtain⟨HO_6,HB⟩:=n_;(try(obtain⟨hy25_,hz25_⟩:=jH 0 HO_6.out ((ji17):Int) (od_) (od_)));(try(have HP25:=Kd.R_putg HO_6.out ((ji17):Int) (rd x6_2 (rd l1 x7_2))))));refine sv_ 3 60 (wr.setCell ⟨go22,((ji17):Int).toNat,none⟩ (.int .i64 (rd x6_2 (rd l1 x7_2)))) ?_;intro w26 hw;have hg:wr.grownBy w26 (some go22):=(by rw[hw];exact HP25.2);have hp_:jt (jb .i64) 3 w26 w.heap.size (fun _=>True) (.slice (some ⟨go22,0,none⟩) x6_2.length co24) y677:=(by rw[hw,Ny677.out];exact HP25.1);clear HP25;have n_:=P2_ (hp_) ((by rw[hw];exact jO (HB.out) GB22.out:Below w.heap.size w w26));clear HO_6 HB;obtain⟨HO_6,HB⟩:=n_;clear hg hw hp_;have p23:0≤((rd l1 x7_2):Int):=od_;have q23:((rd l1 x7_2):Int)<((x6_2.length:Int):Int):=od_;obtain⟨hx23_0,hf23_0⟩:=jH 0 HO_6.out ((rd l1 x7_2):Int) p23 q23;replace p23:=eq_true p23;replace q23:=eq_true q23;obtain⟨hy27_,hz27_⟩:=jH 0 HO_6.out ((rd l1 x7_2):Int) (od_) (od_);have HP27:=Kd.R_putg HO_6.out ((rd l1 x7_2):Int) (rd x6_2 (ji17)))|(refine gs_ 3 64 ?_;(try(rw[drewN_self w26];generalize hq_:World.drewN w26 _=w26;have n_:=P2_ (Kd.R_at hq_ HO_6.out) (below_at hq_ HB.out);obtain⟨HO_6,HB⟩:=n_;(try(obtain⟨hy27_,hz27_⟩:=jH 0 HO_6.out ((rd l1 x7_2):Int) (od_) (od_)));(try(have HP27:=Kd.R_putg HO_6.out ((rd l1 x7_2):Int) (rd x6_2 (ji17))))));refine sv_ 3 64 (w26.setCell ⟨go22,((rd l1 x7_2):Int).toNat,none⟩ (.int .i64 (rd x6_2 (ji17)))) ?_;intro w28 hw;have hg:w26.grownBy w28 (some go22):=(by rw[hw];exact HP27.2);have hp_:jt (jb .i64) 3 w28 w.heap.size (fun _=>True) (.slice (some ⟨go22,0,none⟩) x6_2.length co24) y678:=(by rw[hw,Ny678.out];exact HP27.1);clear HP27;have n_:=P2_ (hp_) ((by rw[hw];exact jO (HB.out) GB22.out:Below w.heap.size w w28));clear HO_6 HB;obtain⟨HO_6,HB⟩:=n_;clear hg hw hp_)))
   go_roundg k2
   case measure=>have:=HJ3.out;have:=HK2.out;omega
   case rel=>exact⟨(y678),(wrap64 (x7_2+1)),T10_,H',⟨(by have:=HJ3.out;have:=HK2.out;omega)⟩,⟨ru_ HO_6.out⟩,⟨T19_⟩⟩
def churnref13_laid.l0:Nat→Int→Int→List Int→List Int→List Int→List (List Int)→List Int→List Int→List (List Int)→Option (List Int×List Int×List Int×(List (List Int))×Bool)
 | 0,_,_,_,_,_,_,_,_,_=>none
 | k+1,x2,x14,x681000,x681001,x681002,x681003,x692000,x692001,x692002=>if x14<x2 then(if 0≤x14 then(if x14<(x692002.length:Int) then(if x14<(x681000.length:Int) then((churnref11_Bounds.f k (rd x681000 x14)).bind fun t713=>((churnref10_All.f k (rd_L2 x692002 x14) t713).bind fun bt716=>(if bt716.2.2=0 then((churnref11_From.f k (rd x681000 x14) bt716.1).bind fun bt722=>(if x681003.length<5864062014805 then(churnref13_laid.l0 k x2 (wrap64 (x14+1)) x681000 x681001 x681002 (x681003 ++ [bt722.1]) x692000 x692001 x692002) else(none))) else(some (x681000,x681001,x681002,x681003,false))))) else(none)) else(none)) else(none)) else(some (x681000,x681001,x681002,x681003,true))
def churnref13_laid.f (k:Nat) (l0:List Int) (a1:Int) (a2:Int):Option (List Int×List Int×List Int×(List (List Int))×Bool):=(churnref09_Split.f k l0 a2).bind fun bt681=>(if bt681.2.2.2=0 then((churnref12_Sizes.f k a1 a2).bind fun bt692=>((churnref12_Bounds.f k a1).bind fun t696=>((churnref10_All.f k bt681.2.1 t696).bind fun bt699=>(if bt699.2.2=0 then((churnref12_Pattern.f k bt692.1 bt699.1).bind fun bt704=>(churnref13_laid.l0 k a2 0 bt692.1 bt704.1 bt704.2.1 ([]:List (List Int)) bt681.1 bt681.2.1 bt681.2.2.1)) else(some (bt692.1,([]:List Int),([]:List Int),([]:List (List Int)),false)))))) else(some (([]:List Int),([]:List Int),([]:List Int),([]:List (List Int)),false)))
def churnref13_laid.T6:Bool×List (List Nat×List Nat):=(true,[([],[]),([0],[0]),([],[]),([2],[2]),([1,3,3],[1,3]),([4],[4]),([5],[5]),([5],[5]),([5],[5]),([6,4,0,1,2,3,4,5,6],[6]),([7,9,0,1,2,3,4,5,6,7,9],[7]),([8,10,0,1,2,3,4,5,6,7,8,9,10],[8])])
def churnref13_laid.B6:List Nat:=[0,1,0,4,15,31,63,63,63,127,767,2047]
theorem churnref13_laid.tab6:rtab .any (opsOf Try.f23 6)=churnref13_laid.T6:=by kernel_rfl
theorem churnref13_laid.bits6:waitsOk churnref13_laid.T6.2 churnref13_laid.B6=true:=by kernel_rfl
def churnref13_laid.T13:Bool×List (List Nat×List Nat):=(true,[([],[]),([0],[0]),([],[]),([1,2],[1,2]),([3],[3]),([],[]),([5],[5]),([],[]),([6,7],[6,7]),([8],[8]),([9],[9]),([4,10,10],[4,10]),([11],[11]),([12],[12]),([12],[12]),([12],[12]),([13,11,0,1,2,3,4,5,6,7,8,9,10,11,12,13],[13]),([14,16,0,1,2,3,4,5,6,7,8,9,10,11,12,13,14,16],[14]),([15,17,0,1,2,3,4,5,6,7,8,9,10,11,12,13,14,15,16,17],[15])])
def churnref13_laid.B13:List Nat:=[0,1,0,7,15,0,32,0,224,480,992,2047,4095,8191,8191,8191,16383,98303,262143]
theorem churnref13_laid.tab13:rtab .any (opsOf Try.f23 13)=churnref13_laid.T13:=by kernel_rfl
theorem churnref13_laid.bits13:waitsOk churnref13_laid.T13.2 churnref13_laid.B13=true:=by kernel_rfl
set_option maxHeartbeats 8000000 in
set_option maxRecDepth 100000 in
theorem churnref13_laid.calls (k:Nat) (A0:Option Addr) (c0:Nat) (l0:List Int) (a1:Int) (a2:Int) (r1:List Int) (r2:List Int) (r3:List Int) (r4:List (List Int)) (r5:Bool) (w:World) (hr0:jX (jb .u8) w A0 l0.length l0) (hc0:l0.length≤c0) (h:churnref13_laid.f k l0 a1 a2=some (r1,r2,r3,r4,r5)) :
  Calls Try.prog 23 #[.slice A0 l0.length c0,.int .i64 a1,.int .i64 a2] w fun e w'=>∃ v0_ v1_ v2_ v3_:Value,e = .returned (.tuple #[.agg #[v0_,v1_,v2_,v3_],.bool r5])∧jt (jb .i64) 3 w' w.heap.size (fun k_=>ne_ k_ v1_∧ne_ k_ v2_) v0_ r1∧jt (jb .i64) 3 w' w.heap.size (fun k_=>ne_ k_ v0_∧ne_ k_ v2_) v1_ r2∧jt (jb .i64) 3 w' w.heap.size (fun k_=>ne_ k_ v0_∧ne_ k_ v1_) v2_ r3∧Kd.S (jB 3 (jb .i64)) 24 w' w.heap.size (fun k_=>ne_ k_ v0_∧ne_ k_ v1_∧ne_ k_ v2_) v3_ r4∧Below w.heap.size w w':=by
 have hu63:=Try.underlying63
 have hu55:=Try.underlying55
 have HR0:=am_ hr0
 have HC0:=am_ hc0
 clear hr0 hc0
 have HB:=am_ (Below.refl w.heap.size w)
 have H:((churnref09_Split.f k l0 a2).bind fun bt681=>(if bt681.2.2.2=0 then((churnref12_Sizes.f k a1 a2).bind fun bt692=>((churnref12_Bounds.f k a1).bind fun t696=>((churnref10_All.f k bt681.2.1 t696).bind fun bt699=>(if bt699.2.2=0 then((churnref12_Pattern.f k bt692.1 bt699.1).bind fun bt704=>(churnref13_laid.l0 k a2 0 bt692.1 bt704.1 bt704.2.1 ([]:List (List Int)) bt681.1 bt681.2.1 bt681.2.2.1)) else(some (bt692.1,([]:List Int),([]:List Int),([]:List (List Int)),false)))))) else(some (([]:List Int),([]:List Int),([]:List Int),([]:List (List Int)),false))))=some (r1,r2,r3,r4,r5):=h
 clear h
 replace H:=Option.bind_eq_some_iff.mp H
 obtain⟨⟨t681,t684,t687,t690⟩,A40,H⟩:=H
 try dsimp only at H
 have A4:=am_ A40
 clear A40
 by_cases c5:t690=0
 rotate_left
 ·rw[if_neg c5] at H
  obtain⟨c5b0,c5b1⟩:=en_ c5
  obtain⟨rfl,rfl,rfl,rfl,rfl⟩:=sj5_ H
  go_enter Try.func23,Try.ntmps23
  go_wp2_with(first|(refine gd_ 6 ?_;refine bx_ 6 #[.slice none 0 0,.slice none 0 0,.slice none 0 0,.slice none 0 0] 63 ?_;intro gb679 hg w96 hbox hb;have n_:=P4_ (jk T19_ hb) (hbox) ((by rw[hg];exact(jc T19_):w.heap.size≤gb679)) ((by rw[hg];exact(jc T19_):w.heap.size≤gb679));clear HB;obtain⟨HB,BK679,GW679,GE679⟩:=n_;clear hb hbox hg)|(refine gd_ 8 ?_;refine bx_ 8 #[.slice none 0 0,.slice none 0 0,.slice none 0 0,.slice none 0 0] 63 ?_;intro gb680 hg w97 hbox hb;have n_:=P7_ (jo (bu_ BK679.out) hb) (jk T34_ hb) (hbox) ((by rw[hg];exact(jc T34_):w.heap.size≤gb680)) ((by rw[hg];exact(jc T34_):w.heap.size≤gb680)) ((by rw[hg];exact Nat.ne_of_lt (jV (g:=gb679) (o:=.cells #[.slice none 0 0,.slice none 0 0,.slice none 0 0,.slice none 0 0] 63 (0,0)) (bu_ BK679.out)):gb679≠gb680)) ((by rw[hg];exact Nat.ne_of_gt (jV (g:=gb679) (o:=.cells #[.slice none 0 0,.slice none 0 0,.slice none 0 0,.slice none 0 0] 63 (0,0)) (bu_ BK679.out)):gb680≠gb679));clear BK679 HB;obtain⟨BK679,HB,BK680,GW680,GE680,NB679_680,NB680_679⟩:=n_;clear hb hbox hg)|(refine gc_ 26 ?_;refine gl_ (some 23) Try.func26 #[.slice A0 l0.length c0,.int .i64 a2] ?_;(with_reducible refine(churnref09_Split.calls k _ _ l0 a2 t681 t684 t687 t690 _ ?side1 ?side2 A4.out).mono ?_);(case side1=>exact cu_ (jw HR0.out HB.out));(case side2=>exact HC0.out);rintro e w98 ⟨v682,v685,v688,rfl,ho0,ho1,ho2,hb⟩;refine⟨_,rfl,?_⟩;have n_:=P6_ (jq ho0 (jc T42_)) (jq ho1 (jc T42_)) (Kd.S_lower ho2 (jc T42_)) (jo (bu_ BK679.out) hb) (jo (bu_ BK680.out) hb) (jk T42_ hb);clear BK679 BK680 HB;obtain⟨HO683,HO686,HO689,BK679,BK680,HB⟩:=n_;clear hb ho0 ho1 ho2)|(refine gd_ 9 ?_;refine bx_ 9 #[.slice none 0 0,.slice none 0 0,.slice none 0 0] 55 ?_;intro gb691 hg w99 hbox hb;have n_:=P13_ (je (ru_ HO683.out) hb) (je (ru_ HO686.out) hb) (jD (su_ HO689.out) hb) (jo (bu_ BK679.out) hb) (jo (bu_ BK680.out) hb) (jk T42_ hb) (hbox) ((by rw[hg];exact(jc T42_):w.heap.size≤gb691)) ((by rw[hg];exact(jc T42_):w.heap.size≤gb691)) ((by rw[hg];exact Nat.ne_of_lt (jV (g:=gb679) (o:=.cells #[.slice none 0 0,.slice none 0 0,.slice none 0 0,.slice none 0 0] 63 (0,0)) (bu_ BK679.out)):gb679≠gb691)) ((by rw[hg];exact Nat.ne_of_gt (jV (g:=gb679) (o:=.cells #[.slice none 0 0,.slice none 0 0,.slice none 0 0,.slice none 0 0] 63 (0,0)) (bu_ BK679.out)):gb691≠gb679)) ((by rw[hg];exact Nat.ne_of_lt (jV (g:=gb680) (o:=.cells #[.slice none 0 0,.slice none 0 0,.slice none 0 0,.slice none 0 0] 63 (0,0)) (bu_ BK680.out)):gb680≠gb691)) ((by rw[hg];exact Nat.ne_of_gt (jV (g:=gb680) (o:=.cells #[.slice none 0 0,.slice none 0 0,.slice none 0 0,.slice none 0 0] 63 (0,0)) (bu_ BK680.out)):gb691≠gb680));clear HO683 HO686 HO689 BK679 BK680 HB;obtain⟨HO683,HO686,HO689,BK679,BK680,HB,BK691,GW691,GE691,NB679_691,NB691_679,NB680_691,NB691_680⟩:=n_;clear hb hbox hg;obtain⟨Ao100,co100,eo100⟩:=jp HO683.out;subst eo100;have hnb101:=NB691_679.out;have hnc101:=NB679_691.out;have hnb102:=NB691_680.out;have hnc102:=NB680_691.out;obtain⟨hcz103_0,hcz103_1,hcz103_2,hfz103_0,hfz103_1,hfz103_2⟩:=cz3_ BK691.out;obtain⟨Ao104,co104,eo104⟩:=jp HO686.out;subst eo104;obtain⟨Ao105,co105,eo105⟩:=jT HO689.out;subst eo105;have hnb106:=NB680_679.out;have hnc106:=NB679_680.out;obtain⟨hcz107_0,hcz107_1,hcz107_2,hcz107_3,hfz107_0,hfz107_1,hfz107_2,hfz107_3⟩:=cz4_ BK680.out;obtain⟨hcz108_0,hcz108_1,hcz108_2,hcz108_3,hfz108_0,hfz108_1,hfz108_2,hfz108_3⟩:=cz4_ BK679.out))
  refine bodyPost_ret (results_ct rfl _ _ gb679 63 #[.slice none 0 0,.slice none 0 0,.slice none 0 0,.slice none 0 0] (0,0) _ rfl (by(with_reducible repeat(first|refine jn ?_ _|refine jl ?_|refine jm ?_ _));refine ju (cs:=#[.slice none 0 0,.slice none 0 0,.slice none 0 0,.slice none 0 0]) ?_ 3 _ rfl;(with_reducible repeat(first|refine jn ?_ _|refine jl ?_|refine jm ?_ _));refine ju (cs:=#[.slice none 0 0,.slice none 0 0,.slice none 0 0,.slice none 0 0]) ?_ 2 _ rfl;(with_reducible repeat(first|refine jn ?_ _|refine jl ?_|refine jm ?_ _));refine ju (cs:=#[.slice none 0 0,.slice none 0 0,.slice none 0 0,.slice none 0 0]) ?_ 1 _ rfl;(with_reducible repeat(first|refine jn ?_ _|refine jl ?_|refine jm ?_ _));refine ju (cs:=#[.slice none 0 0,.slice none 0 0,.slice none 0 0,.slice none 0 0]) ?_ 0 _ rfl;(with_reducible repeat(first|refine jn ?_ _|refine jl ?_|refine jm ?_ _));refine jU ?_ NB679_691.out _;(with_reducible repeat(first|refine jn ?_ _|refine jl ?_|refine jm ?_ _));refine jU ?_ NB679_691.out _;(with_reducible repeat(first|refine jn ?_ _|refine jl ?_|refine jm ?_ _));refine jU ?_ NB679_691.out _;exact bu_ BK679.out) Try.underlying63 rfl T4_) rfl ?_
  exact⟨_,_,_,_,T17_,T21_,T21_,T21_,T22_,T45_⟩
 rw[if_pos c5] at H
 obtain⟨c5b0,c5b1⟩:=ep_ c5
 clear c5
 replace H:=Option.bind_eq_some_iff.mp H
 obtain⟨⟨t692,t693⟩,A60,H⟩:=H
 try dsimp only at H
 have A6:=am_ A60
 clear A60
 replace H:=Option.bind_eq_some_iff.mp H
 obtain⟨t696,A70,H⟩:=H
 try dsimp only at H
 have A7:=am_ A70
 clear A70
 replace H:=Option.bind_eq_some_iff.mp H
 obtain⟨⟨t699,t700,t701⟩,A80,H⟩:=H
 try dsimp only at H
 have A8:=am_ A80
 clear A80
 by_cases c9:t701=0
 rotate_left
 ·rw[if_neg c9] at H
  obtain⟨c9b0,c9b1⟩:=en_ c9
  obtain⟨rfl,rfl,rfl,rfl,rfl⟩:=sj5_ H
  go_enter Try.func23,Try.ntmps23
  try go_wp2_with(first|(refine gd_ 6 ?_;refine bx_ 6 #[.slice none 0 0,.slice none 0 0,.slice none 0 0,.slice none 0 0] 63 ?_;intro gb679 hg w75 hbox hb;have n_:=P4_ (jk T19_ hb) (hbox) ((by rw[hg];exact(jc T19_):w.heap.size≤gb679)) ((by rw[hg];exact(jc T19_):w.heap.size≤gb679));clear HB;obtain⟨HB,BK679,GW679,GE679⟩:=n_;clear hb hbox hg)|(refine gd_ 8 ?_;refine bx_ 8 #[.slice none 0 0,.slice none 0 0,.slice none 0 0,.slice none 0 0] 63 ?_;intro gb680 hg w76 hbox hb;have n_:=P7_ (jo (bu_ BK679.out) hb) (jk T34_ hb) (hbox) ((by rw[hg];exact(jc T34_):w.heap.size≤gb680)) ((by rw[hg];exact(jc T34_):w.heap.size≤gb680)) ((by rw[hg];exact Nat.ne_of_lt (jV (g:=gb679) (o:=.cells #[.slice none 0 0,.slice none 0 0,.slice none 0 0,.slice none 0 0] 63 (0,0)) (bu_ BK679.out)):gb679≠gb680)) ((by rw[hg];exact Nat.ne_of_gt (jV (g:=gb679) (o:=.cells #[.slice none 0 0,.slice none 0 0,.slice none 0 0,.slice none 0 0] 63 (0,0)) (bu_ BK679.out)):gb680≠gb679));clear BK679 HB;obtain⟨BK679,HB,BK680,GW680,GE680,NB679_680,NB680_679⟩:=n_;clear hb hbox hg)|(refine gc_ 26 ?_;refine gl_ (some 23) Try.func26 #[.slice A0 l0.length c0,.int .i64 a2] ?_;(with_reducible refine(churnref09_Split.calls k _ _ l0 a2 t681 t684 t687 t690 _ ?side1 ?side2 A4.out).mono ?_);(case side1=>exact cu_ (jw HR0.out HB.out));(case side2=>exact HC0.out);rintro e w77 ⟨v682,v685,v688,rfl,ho0,ho1,ho2,hb⟩;refine⟨_,rfl,?_⟩;have n_:=P6_ (jq ho0 (jc T42_)) (jq ho1 (jc T42_)) (Kd.S_lower ho2 (jc T42_)) (jo (bu_ BK679.out) hb) (jo (bu_ BK680.out) hb) (jk T42_ hb);clear BK679 BK680 HB;obtain⟨HO683,HO686,HO689,BK679,BK680,HB⟩:=n_;clear hb ho0 ho1 ho2)|(refine gd_ 9 ?_;refine bx_ 9 #[.slice none 0 0,.slice none 0 0,.slice none 0 0] 55 ?_;intro gb691 hg w78 hbox hb;have n_:=P13_ (je (ru_ HO683.out) hb) (je (ru_ HO686.out) hb) (jD (su_ HO689.out) hb) (jo (bu_ BK679.out) hb) (jo (bu_ BK680.out) hb) (jk T42_ hb) (hbox) ((by rw[hg];exact(jc T42_):w.heap.size≤gb691)) ((by rw[hg];exact(jc T42_):w.heap.size≤gb691)) ((by rw[hg];exact Nat.ne_of_lt (jV (g:=gb679) (o:=.cells #[.slice none 0 0,.slice none 0 0,.slice none 0 0,.slice none 0 0] 63 (0,0)) (bu_ BK679.out)):gb679≠gb691)) ((by rw[hg];exact Nat.ne_of_gt (jV (g:=gb679) (o:=.cells #[.slice none 0 0,.slice none 0 0,.slice none 0 0,.slice none 0 0] 63 (0,0)) (bu_ BK679.out)):gb691≠gb679)) ((by rw[hg];exact Nat.ne_of_lt (jV (g:=gb680) (o:=.cells #[.slice none 0 0,.slice none 0 0,.slice none 0 0,.slice none 0 0] 63 (0,0)) (bu_ BK680.out)):gb680≠gb691)) ((by rw[hg];exact Nat.ne_of_gt (jV (g:=gb680) (o:=.cells #[.slice none 0 0,.slice none 0 0,.slice none 0 0,.slice none 0 0] 63 (0,0)) (bu_ BK680.out)):gb691≠gb680));clear HO683 HO686 HO689 BK679 BK680 HB;obtain⟨HO683,HO686,HO689,BK679,BK680,HB,BK691,GW691,GE691,NB679_691,NB691_679,NB680_691,NB691_680⟩:=n_;clear hb hbox hg;obtain⟨Ao79,co79,eo79⟩:=jp HO683.out;subst eo79;have hnb80:=NB691_679.out;have hnc80:=NB679_691.out;have hnb81:=NB691_680.out;have hnc81:=NB680_691.out;obtain⟨hcz82_0,hcz82_1,hcz82_2,hfz82_0,hfz82_1,hfz82_2⟩:=cz3_ BK691.out;obtain⟨Ao83,co83,eo83⟩:=jp HO686.out;subst eo83;obtain⟨Ao84,co84,eo84⟩:=jT HO689.out;subst eo84)|(refine gc_ 45 ?_;refine gl_ (some 32) Try.func45 #[.int .i64 a1,.int .i64 a2] ?_;(with_reducible refine(churnref12_Sizes.calls k a1 a2 t692 t693 _ A6.out).mono ?_);rintro e w85 ⟨v694,rfl,ho0,hb⟩;refine⟨_,rfl,?_⟩;have n_:=P8_ (je (ru_ ((ja (jd (p:=⟨gb691,2,none⟩) (jd (p:=⟨gb691,1,none⟩) (jd (p:=⟨gb691,0,none⟩) (jr HO683.out BK691.out T3_) (fun _ hk=>hk.2) (.slice Ao79 t681.length co79)) (fun _ hk=>hk.2) (.slice Ao83 t684.length co83)) (fun _ hk=>hk.2) (.slice Ao84 t687.length co84)) (fun _ h_=>h_.1)))) hb) (je (ru_ ((ja (jd (p:=⟨gb691,2,none⟩) (jd (p:=⟨gb691,1,none⟩) (jd (p:=⟨gb691,0,none⟩) (jr HO686.out BK691.out T3_) (fun _ hk=>hk.2) (.slice Ao79 t681.length co79)) (fun _ hk=>hk.2) (.slice Ao83 t684.length co83)) (fun _ hk=>hk.2) (.slice Ao84 t687.length co84)) (fun _ h_=>h_.1)))) hb) (jD (su_ ((jC (jE (p:=⟨gb691,2,none⟩) (jE (p:=⟨gb691,1,none⟩) (jE (p:=⟨gb691,0,none⟩) (Jb HO689.out BK691.out T3_) (fun _ hk=>hk.2) (.slice Ao79 t681.length co79)) (fun _ hk=>hk.2) (.slice Ao83 t684.length co83)) (fun _ hk=>hk.2) (.slice Ao84 t687.length co84)) (fun _ h_=>h_.1)))) hb) (jq ho0 (jc T45_)) (jo (g:=gb679) (o:=.cells #[.slice none 0 0,.slice none 0 0,.slice none 0 0,.slice none 0 0] 63 (0,0)) (by(with_reducible repeat(first|refine jn ?_ _|refine jl ?_|refine jm ?_ _));refine jU ?_ NB679_691.out _;(with_reducible repeat(first|refine jn ?_ _|refine jl ?_|refine jm ?_ _));refine jU ?_ NB679_691.out _;(with_reducible repeat(first|refine jn ?_ _|refine jl ?_|refine jm ?_ _));refine jU ?_ NB679_691.out _;exact bu_ BK679.out) hb) (jo (g:=gb680) (o:=.cells #[.slice none 0 0,.slice none 0 0,.slice none 0 0,.slice none 0 0] 63 (0,0)) (by(with_reducible repeat(first|refine jn ?_ _|refine jl ?_|refine jm ?_ _));refine jU ?_ NB680_691.out _;(with_reducible repeat(first|refine jn ?_ _|refine jl ?_|refine jm ?_ _));refine jU ?_ NB680_691.out _;(with_reducible repeat(first|refine jn ?_ _|refine jl ?_|refine jm ?_ _));refine jU ?_ NB680_691.out _;exact bu_ BK680.out) hb) (jo (g:=gb691) (o:=.cells #[.slice Ao79 t681.length co79,.slice Ao83 t684.length co83,.slice Ao84 t687.length co84] 55 (0,0)) (by(with_reducible repeat(first|refine jn ?_ _|refine jl ?_|refine jm ?_ _));refine ju (cs:=#[.slice Ao79 t681.length co79,.slice Ao83 t684.length co83,.slice none 0 0]) ?_ 2 _ rfl;(with_reducible repeat(first|refine jn ?_ _|refine jl ?_|refine jm ?_ _));refine ju (cs:=#[.slice Ao79 t681.length co79,.slice none 0 0,.slice none 0 0]) ?_ 1 _ rfl;(with_reducible repeat(first|refine jn ?_ _|refine jl ?_|refine jm ?_ _));refine ju (cs:=#[.slice none 0 0,.slice none 0 0,.slice none 0 0]) ?_ 0 _ rfl;exact bu_ BK691.out) hb) (jk T45_ hb);clear HO683 HO686 HO689 BK679 BK680 BK691 HB;obtain⟨HO683,HO686,HO689,HO695,BK679,BK680,BK691,HB⟩:=n_;clear hb ho0;obtain⟨Ao86,co86,eo86⟩:=jp HO695.out;subst eo86;have hnb87:=NB680_679.out;have hnc87:=NB679_680.out;obtain⟨hcz88_0,hcz88_1,hcz88_2,hcz88_3,hfz88_0,hfz88_1,hfz88_2,hfz88_3⟩:=cz4_ BK680.out))
  have n0_:Aside0 (jt (jb .u8) 5 (w85.setCell ⟨gb680,0,none⟩ (.slice Ao86 t692.length co86)) w.heap.size (fun k_=>ne_ k_ (.slice Ao83 t684.length co83)) (.slice Ao79 t681.length co79) t681):=⟨ru_ (ja (jd (p:=⟨gb680,0,none⟩) (jr HO683.out BK680.out T3_) (fun _ hk=>hk.2) (.slice Ao86 t692.length co86)) (fun _ hk=>hk.1))⟩
  have n1_:Aside0 (jt (jb .u8) 5 (w85.setCell ⟨gb680,0,none⟩ (.slice Ao86 t692.length co86)) w.heap.size (fun k_=>ne_ k_ (.slice Ao79 t681.length co79)) (.slice Ao83 t684.length co83) t684):=⟨ru_ (ja (jd (p:=⟨gb680,0,none⟩) (jr HO686.out BK680.out T3_) (fun _ hk=>hk.2) (.slice Ao86 t692.length co86)) (fun _ hk=>hk.1))⟩
  have n2_:Aside0 (Kd.S (jB 5 (jb .u8)) 23 (w85.setCell ⟨gb680,0,none⟩ (.slice Ao86 t692.length co86)) w.heap.size (fun k_=>ne_ k_ (.slice Ao79 t681.length co79)∧ne_ k_ (.slice Ao83 t684.length co83)) (.slice Ao84 t687.length co84) t687):=⟨su_ (jC (jE (p:=⟨gb680,0,none⟩) (Jb HO689.out BK680.out T3_) (fun _ hk=>hk.2) (.slice Ao86 t692.length co86)) (fun _ hk=>⟨hk.1.1,hk.1.2⟩))⟩
  have n3_:Aside0 (jt (jb .i64) 3 (w85.setCell ⟨gb680,0,none⟩ (.slice Ao86 t692.length co86)) w.heap.size (fun _=>True) (.slice Ao86 t692.length co86) t692):=⟨ru_ (ja (jd (p:=⟨gb680,0,none⟩) (jr HO695.out BK680.out T3_) (fun _ hk=>hk.2) (.slice Ao86 t692.length co86)) (fun _ hk=>trivial))⟩
  have n4_:Aside0 ((w85.setCell ⟨gb680,0,none⟩ (.slice Ao86 t692.length co86)).heap[gb679]? = some (.cells #[.slice none 0 0,.slice none 0 0,.slice none 0 0,.slice none 0 0] 63 (0,0))):=⟨T24_⟩
  have n5_:Aside0 ((w85.setCell ⟨gb680,0,none⟩ (.slice Ao86 t692.length co86)).heap[gb680]? = some (.cells #[.slice Ao86 t692.length co86,.slice none 0 0,.slice none 0 0,.slice none 0 0] 63 (0,0))):=⟨(by(with_reducible repeat(first|refine jn ?_ _|refine jl ?_|refine jm ?_ _));refine ju (cs:=#[.slice none 0 0,.slice none 0 0,.slice none 0 0,.slice none 0 0]) ?_ 0 _ rfl;exact bu_ BK680.out)⟩
  have n6_:Aside0 ((w85.setCell ⟨gb680,0,none⟩ (.slice Ao86 t692.length co86)).heap[gb691]? = some (.cells #[.slice Ao79 t681.length co79,.slice Ao83 t684.length co83,.slice Ao84 t687.length co84] 55 (0,0))):=⟨T25_⟩
  have n7_:Aside0 (Below w.heap.size w (w85.setCell ⟨gb680,0,none⟩ (.slice Ao86 t692.length co86))):=⟨T45_⟩
  (try clear HO683);(try clear HO686);(try clear HO689);(try clear HO695);(try clear BK679);(try clear BK680);(try clear BK691);(try clear HB)
  generalize (w85.setCell ⟨gb680,0,none⟩ (.slice Ao86 t692.length co86))=w89 at n0_ n1_ n2_ n3_ n4_ n5_ n6_ n7_ ⊢
  have HO683:=n0_
  have HO686:=n1_
  have HO689:=n2_
  have HO695:=n3_
  have BK679:=n4_
  have BK680:=n5_
  have BK691:=n6_
  have HB:=n7_
  clear n0_ n1_ n2_ n3_ n4_ n5_ n6_ n7_
  have n_:=P8_ (js HO683.out) (js HO686.out) (Ja HO689.out) (js HO695.out) (jl BK679.out) (jl BK680.out) (jl BK691.out) (jJ HB.out)
  clear HO683 HO686 HO689 HO695 BK679 BK680 BK691 HB
  obtain⟨HO683,HO686,HO689,HO695,BK679,BK680,BK691,HB⟩:=n_
  refine start_ (n:=12) (S:=fun w'=>w'.cell? ⟨gb691,0,none⟩=some (.slice Ao79 t681.length co79)∧w'.cell? ⟨gb691,1,none⟩=some (.slice Ao83 t684.length co83)∧w'.cell? ⟨gb691,2,none⟩=some (.slice Ao84 t687.length co84)) (ds:=[]) #[false,false,false,false,false,false,false,false,false,false,false,false] T4_ rfl rfl ⟨bc_ BK691.out 0,bc_ BK691.out 1,bc_ BK691.out 2⟩ (fun hHeld=>?_);refine Jf churnref13_laid.tab6 churnref13_laid.bits6 (fun HT_ HW_=>?_)
  generalize w89.drew=w90 at HO683 HO686 HO689 HO695 BK679 BK680 BK691 HB hHeld ⊢
  refine pz_ 0 (some 37) ?_
  refine pz_ 2 (some 39) ?_
  refine tz3_ 1 (some 38) hHeld ?_
  refine oz_ 3 (some 40) (fun K hK=>?_)
  refine goes_ Try.func29 T4_ rfl #[.int .i64 a1] T0_ rfl rfl T20_ ?_
  with_reducible refine(churnref12_Bounds.calls k a1 t696 _ A7.out).mono ?_
  rintro e w91 ⟨v697,rfl,ho0,hb⟩
  refine⟨_,rfl,?_⟩
  have n_:=P9_ (je (ru_ HO683.out) hb) (je (ru_ HO686.out) hb) (jD (su_ HO689.out) hb) (jg (ru_ HO695.out) (jf ho0) hb) (jq (jj ho0 (jh (ru_ HO695.out))) (jc T45_)) (jo (bu_ BK679.out) hb) (jo (bu_ BK680.out) hb) (jo (bu_ BK691.out) hb) (jk T45_ hb)
  clear HO683 HO686 HO689 HO695 BK679 BK680 BK691 HB
  obtain⟨HO683,HO686,HO689,HO695,HO698,BK679,BK680,BK691,HB⟩:=n_
  (try clear hb);(try clear hk);(try clear ho0)
  obtain⟨Ao92,co92,eo92⟩:=jp HO698.out
  (first|subst eo92|(injection eo92 with f1_ f2_ f3_;have f4_:=f1_.symm;have f5_:=f3_.symm;clear f1_ f2_ f3_;subst f4_;subst f5_))
  refine hK.out _ _ ⟨bc_ BK691.out 0,bc_ BK691.out 1,bc_ BK691.out 2⟩ (fun hHeld=>?_)
  clear hK K
  refine norm_ (a':=?_) ?_ ?_
  rotate_left
  ·show Act.put _ (some 40) _=_
   simp only[Act.put,List.setIfInBounds_toArray,List.set_cons_zero,List.set_cons_succ,jF,jG]
   rfl
  refine oz_ 4 (some 41) (fun K hK=>?_)
  refine goes_ Try.func46 T4_ rfl #[.slice Ao83 t684.length co83,.slice Ao92 t696.length co92] T0_ rfl rfl T20_ ?_
  with_reducible refine(churnref10_All.calls k _ _ t684 _ _ t696 t699 t700 t701 _ ?side1 ?side2 ?side3 ?side4 A8.out).mono ?_
  (case side1=>exact cu_ ((ji HO686.out).2.2))
  (case side2=>exact(ji HO686.out).2.1)
  (case side3=>exact cu_ ((ji HO698.out).2.2))
  (case side4=>exact(ji HO698.out).2.1)
  rintro e w93 ⟨v702,rfl,ho0,hb⟩
  refine⟨_,rfl,?_⟩
  have n_:=P10_ (je (ru_ HO683.out) hb) (je (ru_ HO686.out) hb) (jD (su_ HO689.out) hb) (jg (ru_ HO695.out) (jf ho0) hb) (jg (ru_ HO698.out) (jf ho0) hb) (jq (jj (jj ho0 (jh (ru_ HO695.out))) (jh (ru_ HO698.out))) (jc T45_)) (jo (bu_ BK679.out) hb) (jo (bu_ BK680.out) hb) (jo (bu_ BK691.out) hb) (jk T45_ hb)
  clear HO683 HO686 HO689 HO695 HO698 BK679 BK680 BK691 HB
  obtain⟨HO683,HO686,HO689,HO695,HO698,HO703,BK679,BK680,BK691,HB⟩:=n_
  (try clear hb);(try clear hk);(try clear ho0)
  refine hK.out _ _ ⟨bc_ BK691.out 0,bc_ BK691.out 1,bc_ BK691.out 2⟩ (fun hHeld=>?_)
  clear hK K
  refine norm_ (a':=?_) ?_ ?_
  rotate_left
  ·show Act.put _ (some 41) _=_
   simp only[Act.put,List.setIfInBounds_toArray,List.set_cons_zero,List.set_cons_succ,jF,jG]
   rfl
  refine pz_ 5 (some 36) ?_
  refine pz_ 6 (some 42) ?_
  refine pz_ 7 (some 43) ?_
  refine pz_ 8 (some 44) ?_
  refine pz_ 9 (some 11) ?_
  refine pz_ 10 (some 12) ?_
  refine pz_ 11 (some 13) ?_
  refine done_ (done_of HT_.out T4_) ?_
  obtain⟨hcz94_0,hcz94_1,hcz94_2,hcz94_3,hfz94_0,hfz94_1,hfz94_2,hfz94_3⟩:=cz4_ BK680.out
  obtain⟨hcz95_0,hcz95_1,hcz95_2,hcz95_3,hfz95_0,hfz95_1,hfz95_2,hfz95_3⟩:=cz4_ BK679.out
  try go_wp2
  refine bodyPost_ret (results_ct rfl _ _ gb679 63 #[.slice Ao86 t692.length co86,.slice none 0 0,.slice none 0 0,.slice none 0 0] (0,0) _ rfl (by(with_reducible repeat(first|refine jn ?_ _|refine jl ?_|refine jm ?_ _));refine ju (cs:=#[.slice Ao86 t692.length co86,.slice none 0 0,.slice none 0 0,.slice none 0 0]) ?_ 3 _ rfl;(with_reducible repeat(first|refine jn ?_ _|refine jl ?_|refine jm ?_ _));refine ju (cs:=#[.slice Ao86 t692.length co86,.slice none 0 0,.slice none 0 0,.slice none 0 0]) ?_ 2 _ rfl;(with_reducible repeat(first|refine jn ?_ _|refine jl ?_|refine jm ?_ _));refine ju (cs:=#[.slice Ao86 t692.length co86,.slice none 0 0,.slice none 0 0,.slice none 0 0]) ?_ 1 _ rfl;(with_reducible repeat(first|refine jn ?_ _|refine jl ?_|refine jm ?_ _));refine ju (cs:=#[.slice none 0 0,.slice none 0 0,.slice none 0 0,.slice none 0 0]) ?_ 0 _ rfl;exact bu_ BK679.out) Try.underlying63 rfl T4_) rfl ?_
  exact⟨_,_,_,_,T17_,ru_ (ja (jd (p:=⟨gb679,3,none⟩) (jd (p:=⟨gb679,2,none⟩) (jd (p:=⟨gb679,1,none⟩) (jd (p:=⟨gb679,0,none⟩) (jr HO695.out BK679.out T3_) (fun _ hk=>hk.2) (.slice Ao86 t692.length co86)) (fun _ hk=>hk.2) (.slice none 0 0)) (fun _ hk=>hk.2) (.slice none 0 0)) (fun _ hk=>hk.2) (.slice none 0 0)) (fun _ hk=>⟨T6_,T6_⟩)),T21_,T21_,T22_,T45_⟩
 rw[if_pos c9] at H
 obtain⟨c9b0,c9b1⟩:=ep_ c9
 clear c9
 replace H:=Option.bind_eq_some_iff.mp H
 obtain⟨⟨t704,t705,t706⟩,A100,H⟩:=H
 try dsimp only at H
 have A10:=am_ A100
 clear A100
 have H':=am_ H
 clear H
 go_enter Try.func23,Try.ntmps23
 try go_wp2_with(first|(refine gd_ 6 ?_;refine bx_ 6 #[.slice none 0 0,.slice none 0 0,.slice none 0 0,.slice none 0 0] 63 ?_;intro gb679 hg w11 hbox hb;have n_:=P4_ (jk T19_ hb) (hbox) ((by rw[hg];exact(jc T19_):w.heap.size≤gb679)) ((by rw[hg];exact(jc T19_):w.heap.size≤gb679));clear HB;obtain⟨HB,BK679,GW679,GE679⟩:=n_;clear hb hbox hg)|(refine gd_ 8 ?_;refine bx_ 8 #[.slice none 0 0,.slice none 0 0,.slice none 0 0,.slice none 0 0] 63 ?_;intro gb680 hg w12 hbox hb;have n_:=P7_ (jo (bu_ BK679.out) hb) (jk T34_ hb) (hbox) ((by rw[hg];exact(jc T34_):w.heap.size≤gb680)) ((by rw[hg];exact(jc T34_):w.heap.size≤gb680)) ((by rw[hg];exact Nat.ne_of_lt (jV (g:=gb679) (o:=.cells #[.slice none 0 0,.slice none 0 0,.slice none 0 0,.slice none 0 0] 63 (0,0)) (bu_ BK679.out)):gb679≠gb680)) ((by rw[hg];exact Nat.ne_of_gt (jV (g:=gb679) (o:=.cells #[.slice none 0 0,.slice none 0 0,.slice none 0 0,.slice none 0 0] 63 (0,0)) (bu_ BK679.out)):gb680≠gb679));clear BK679 HB;obtain⟨BK679,HB,BK680,GW680,GE680,NB679_680,NB680_679⟩:=n_;clear hb hbox hg)|(refine gc_ 26 ?_;refine gl_ (some 23) Try.func26 #[.slice A0 l0.length c0,.int .i64 a2] ?_;(with_reducible refine(churnref09_Split.calls k _ _ l0 a2 t681 t684 t687 t690 _ ?side1 ?side2 A4.out).mono ?_);(case side1=>exact cu_ (jw HR0.out HB.out));(case side2=>exact HC0.out);rintro e w13 ⟨v682,v685,v688,rfl,ho0,ho1,ho2,hb⟩;refine⟨_,rfl,?_⟩;have n_:=P6_ (jq ho0 (jc T42_)) (jq ho1 (jc T42_)) (Kd.S_lower ho2 (jc T42_)) (jo (bu_ BK679.out) hb) (jo (bu_ BK680.out) hb) (jk T42_ hb);clear BK679 BK680 HB;obtain⟨HO683,HO686,HO689,BK679,BK680,HB⟩:=n_;clear hb ho0 ho1 ho2)|(refine gd_ 9 ?_;refine bx_ 9 #[.slice none 0 0,.slice none 0 0,.slice none 0 0] 55 ?_;intro gb691 hg w14 hbox hb;have n_:=P13_ (je (ru_ HO683.out) hb) (je (ru_ HO686.out) hb) (jD (su_ HO689.out) hb) (jo (bu_ BK679.out) hb) (jo (bu_ BK680.out) hb) (jk T42_ hb) (hbox) ((by rw[hg];exact(jc T42_):w.heap.size≤gb691)) ((by rw[hg];exact(jc T42_):w.heap.size≤gb691)) ((by rw[hg];exact Nat.ne_of_lt (jV (g:=gb679) (o:=.cells #[.slice none 0 0,.slice none 0 0,.slice none 0 0,.slice none 0 0] 63 (0,0)) (bu_ BK679.out)):gb679≠gb691)) ((by rw[hg];exact Nat.ne_of_gt (jV (g:=gb679) (o:=.cells #[.slice none 0 0,.slice none 0 0,.slice none 0 0,.slice none 0 0] 63 (0,0)) (bu_ BK679.out)):gb691≠gb679)) ((by rw[hg];exact Nat.ne_of_lt (jV (g:=gb680) (o:=.cells #[.slice none 0 0,.slice none 0 0,.slice none 0 0,.slice none 0 0] 63 (0,0)) (bu_ BK680.out)):gb680≠gb691)) ((by rw[hg];exact Nat.ne_of_gt (jV (g:=gb680) (o:=.cells #[.slice none 0 0,.slice none 0 0,.slice none 0 0,.slice none 0 0] 63 (0,0)) (bu_ BK680.out)):gb691≠gb680));clear HO683 HO686 HO689 BK679 BK680 HB;obtain⟨HO683,HO686,HO689,BK679,BK680,HB,BK691,GW691,GE691,NB679_691,NB691_679,NB680_691,NB691_680⟩:=n_;clear hb hbox hg;obtain⟨Ao15,co15,eo15⟩:=jp HO683.out;subst eo15;have hnb16:=NB691_679.out;have hnc16:=NB679_691.out;have hnb17:=NB691_680.out;have hnc17:=NB680_691.out;obtain⟨hcz18_0,hcz18_1,hcz18_2,hfz18_0,hfz18_1,hfz18_2⟩:=cz3_ BK691.out;obtain⟨Ao19,co19,eo19⟩:=jp HO686.out;subst eo19;obtain⟨Ao20,co20,eo20⟩:=jT HO689.out;subst eo20)|(refine gc_ 45 ?_;refine gl_ (some 32) Try.func45 #[.int .i64 a1,.int .i64 a2] ?_;(with_reducible refine(churnref12_Sizes.calls k a1 a2 t692 t693 _ A6.out).mono ?_);rintro e w21 ⟨v694,rfl,ho0,hb⟩;refine⟨_,rfl,?_⟩;have n_:=P8_ (je (ru_ ((ja (jd (p:=⟨gb691,2,none⟩) (jd (p:=⟨gb691,1,none⟩) (jd (p:=⟨gb691,0,none⟩) (jr HO683.out BK691.out T3_) (fun _ hk=>hk.2) (.slice Ao15 t681.length co15)) (fun _ hk=>hk.2) (.slice Ao19 t684.length co19)) (fun _ hk=>hk.2) (.slice Ao20 t687.length co20)) (fun _ h_=>h_.1)))) hb) (je (ru_ ((ja (jd (p:=⟨gb691,2,none⟩) (jd (p:=⟨gb691,1,none⟩) (jd (p:=⟨gb691,0,none⟩) (jr HO686.out BK691.out T3_) (fun _ hk=>hk.2) (.slice Ao15 t681.length co15)) (fun _ hk=>hk.2) (.slice Ao19 t684.length co19)) (fun _ hk=>hk.2) (.slice Ao20 t687.length co20)) (fun _ h_=>h_.1)))) hb) (jD (su_ ((jC (jE (p:=⟨gb691,2,none⟩) (jE (p:=⟨gb691,1,none⟩) (jE (p:=⟨gb691,0,none⟩) (Jb HO689.out BK691.out T3_) (fun _ hk=>hk.2) (.slice Ao15 t681.length co15)) (fun _ hk=>hk.2) (.slice Ao19 t684.length co19)) (fun _ hk=>hk.2) (.slice Ao20 t687.length co20)) (fun _ h_=>h_.1)))) hb) (jq ho0 (jc T45_)) (jo (g:=gb679) (o:=.cells #[.slice none 0 0,.slice none 0 0,.slice none 0 0,.slice none 0 0] 63 (0,0)) (by(with_reducible repeat(first|refine jn ?_ _|refine jl ?_|refine jm ?_ _));refine jU ?_ NB679_691.out _;(with_reducible repeat(first|refine jn ?_ _|refine jl ?_|refine jm ?_ _));refine jU ?_ NB679_691.out _;(with_reducible repeat(first|refine jn ?_ _|refine jl ?_|refine jm ?_ _));refine jU ?_ NB679_691.out _;exact bu_ BK679.out) hb) (jo (g:=gb680) (o:=.cells #[.slice none 0 0,.slice none 0 0,.slice none 0 0,.slice none 0 0] 63 (0,0)) (by(with_reducible repeat(first|refine jn ?_ _|refine jl ?_|refine jm ?_ _));refine jU ?_ NB680_691.out _;(with_reducible repeat(first|refine jn ?_ _|refine jl ?_|refine jm ?_ _));refine jU ?_ NB680_691.out _;(with_reducible repeat(first|refine jn ?_ _|refine jl ?_|refine jm ?_ _));refine jU ?_ NB680_691.out _;exact bu_ BK680.out) hb) (jo (g:=gb691) (o:=.cells #[.slice Ao15 t681.length co15,.slice Ao19 t684.length co19,.slice Ao20 t687.length co20] 55 (0,0)) (by(with_reducible repeat(first|refine jn ?_ _|refine jl ?_|refine jm ?_ _));refine ju (cs:=#[.slice Ao15 t681.length co15,.slice Ao19 t684.length co19,.slice none 0 0]) ?_ 2 _ rfl;(with_reducible repeat(first|refine jn ?_ _|refine jl ?_|refine jm ?_ _));refine ju (cs:=#[.slice Ao15 t681.length co15,.slice none 0 0,.slice none 0 0]) ?_ 1 _ rfl;(with_reducible repeat(first|refine jn ?_ _|refine jl ?_|refine jm ?_ _));refine ju (cs:=#[.slice none 0 0,.slice none 0 0,.slice none 0 0]) ?_ 0 _ rfl;exact bu_ BK691.out) hb) (jk T45_ hb);clear HO683 HO686 HO689 BK679 BK680 BK691 HB;obtain⟨HO683,HO686,HO689,HO695,BK679,BK680,BK691,HB⟩:=n_;clear hb ho0;obtain⟨Ao22,co22,eo22⟩:=jp HO695.out;subst eo22;have hnb23:=NB680_679.out;have hnc23:=NB679_680.out;obtain⟨hcz24_0,hcz24_1,hcz24_2,hcz24_3,hfz24_0,hfz24_1,hfz24_2,hfz24_3⟩:=cz4_ BK680.out))
 have n0_:Aside0 (jt (jb .u8) 5 (w21.setCell ⟨gb680,0,none⟩ (.slice Ao22 t692.length co22)) w.heap.size (fun k_=>ne_ k_ (.slice Ao19 t684.length co19)) (.slice Ao15 t681.length co15) t681):=⟨ru_ (ja (jd (p:=⟨gb680,0,none⟩) (jr HO683.out BK680.out T3_) (fun _ hk=>hk.2) (.slice Ao22 t692.length co22)) (fun _ hk=>hk.1))⟩
 have n1_:Aside0 (jt (jb .u8) 5 (w21.setCell ⟨gb680,0,none⟩ (.slice Ao22 t692.length co22)) w.heap.size (fun k_=>ne_ k_ (.slice Ao15 t681.length co15)) (.slice Ao19 t684.length co19) t684):=⟨ru_ (ja (jd (p:=⟨gb680,0,none⟩) (jr HO686.out BK680.out T3_) (fun _ hk=>hk.2) (.slice Ao22 t692.length co22)) (fun _ hk=>hk.1))⟩
 have n2_:Aside0 (Kd.S (jB 5 (jb .u8)) 23 (w21.setCell ⟨gb680,0,none⟩ (.slice Ao22 t692.length co22)) w.heap.size (fun k_=>ne_ k_ (.slice Ao15 t681.length co15)∧ne_ k_ (.slice Ao19 t684.length co19)) (.slice Ao20 t687.length co20) t687):=⟨su_ (jC (jE (p:=⟨gb680,0,none⟩) (Jb HO689.out BK680.out T3_) (fun _ hk=>hk.2) (.slice Ao22 t692.length co22)) (fun _ hk=>⟨hk.1.1,hk.1.2⟩))⟩
 have n3_:Aside0 (jt (jb .i64) 3 (w21.setCell ⟨gb680,0,none⟩ (.slice Ao22 t692.length co22)) w.heap.size (fun _=>True) (.slice Ao22 t692.length co22) t692):=⟨ru_ (ja (jd (p:=⟨gb680,0,none⟩) (jr HO695.out BK680.out T3_) (fun _ hk=>hk.2) (.slice Ao22 t692.length co22)) (fun _ hk=>trivial))⟩
 have n4_:Aside0 ((w21.setCell ⟨gb680,0,none⟩ (.slice Ao22 t692.length co22)).heap[gb679]? = some (.cells #[.slice none 0 0,.slice none 0 0,.slice none 0 0,.slice none 0 0] 63 (0,0))):=⟨T24_⟩
 have n5_:Aside0 ((w21.setCell ⟨gb680,0,none⟩ (.slice Ao22 t692.length co22)).heap[gb680]? = some (.cells #[.slice Ao22 t692.length co22,.slice none 0 0,.slice none 0 0,.slice none 0 0] 63 (0,0))):=⟨(by(with_reducible repeat(first|refine jn ?_ _|refine jl ?_|refine jm ?_ _));refine ju (cs:=#[.slice none 0 0,.slice none 0 0,.slice none 0 0,.slice none 0 0]) ?_ 0 _ rfl;exact bu_ BK680.out)⟩
 have n6_:Aside0 ((w21.setCell ⟨gb680,0,none⟩ (.slice Ao22 t692.length co22)).heap[gb691]? = some (.cells #[.slice Ao15 t681.length co15,.slice Ao19 t684.length co19,.slice Ao20 t687.length co20] 55 (0,0))):=⟨T25_⟩
 have n7_:Aside0 (Below w.heap.size w (w21.setCell ⟨gb680,0,none⟩ (.slice Ao22 t692.length co22))):=⟨T45_⟩
 (try clear HO683);(try clear HO686);(try clear HO689);(try clear HO695);(try clear BK679);(try clear BK680);(try clear BK691);(try clear HB)
 generalize (w21.setCell ⟨gb680,0,none⟩ (.slice Ao22 t692.length co22))=w25 at n0_ n1_ n2_ n3_ n4_ n5_ n6_ n7_ ⊢
 have HO683:=n0_
 have HO686:=n1_
 have HO689:=n2_
 have HO695:=n3_
 have BK679:=n4_
 have BK680:=n5_
 have BK691:=n6_
 have HB:=n7_
 clear n0_ n1_ n2_ n3_ n4_ n5_ n6_ n7_
 have n_:=P8_ (js HO683.out) (js HO686.out) (Ja HO689.out) (js HO695.out) (jl BK679.out) (jl BK680.out) (jl BK691.out) (jJ HB.out)
 clear HO683 HO686 HO689 HO695 BK679 BK680 BK691 HB
 obtain⟨HO683,HO686,HO689,HO695,BK679,BK680,BK691,HB⟩:=n_
 refine start_ (n:=12) (S:=fun w'=>w'.cell? ⟨gb691,0,none⟩=some (.slice Ao15 t681.length co15)∧w'.cell? ⟨gb691,1,none⟩=some (.slice Ao19 t684.length co19)∧w'.cell? ⟨gb691,2,none⟩=some (.slice Ao20 t687.length co20)) (ds:=[]) #[false,false,false,false,false,false,false,false,false,false,false,false] T4_ rfl rfl ⟨bc_ BK691.out 0,bc_ BK691.out 1,bc_ BK691.out 2⟩ (fun hHeld=>?_);refine Jf churnref13_laid.tab6 churnref13_laid.bits6 (fun HT_ HW_=>?_)
 generalize w25.drew=w26 at HO683 HO686 HO689 HO695 BK679 BK680 BK691 HB hHeld ⊢
 refine pz_ 0 (some 37) ?_
 refine pz_ 2 (some 39) ?_
 refine tz3_ 1 (some 38) hHeld ?_
 refine oz_ 3 (some 40) (fun K hK=>?_)
 refine goes_ Try.func29 T4_ rfl #[.int .i64 a1] T0_ rfl rfl T20_ ?_
 with_reducible refine(churnref12_Bounds.calls k a1 t696 _ A7.out).mono ?_
 rintro e w27 ⟨v697,rfl,ho0,hb⟩
 refine⟨_,rfl,?_⟩
 have n_:=P9_ (je (ru_ HO683.out) hb) (je (ru_ HO686.out) hb) (jD (su_ HO689.out) hb) (jg (ru_ HO695.out) (jf ho0) hb) (jq (jj ho0 (jh (ru_ HO695.out))) (jc T45_)) (jo (bu_ BK679.out) hb) (jo (bu_ BK680.out) hb) (jo (bu_ BK691.out) hb) (jk T45_ hb)
 clear HO683 HO686 HO689 HO695 BK679 BK680 BK691 HB
 obtain⟨HO683,HO686,HO689,HO695,HO698,BK679,BK680,BK691,HB⟩:=n_
 (try clear hb);(try clear hk);(try clear ho0)
 obtain⟨Ao28,co28,eo28⟩:=jp HO698.out
 (first|subst eo28|(injection eo28 with f1_ f2_ f3_;have f4_:=f1_.symm;have f5_:=f3_.symm;clear f1_ f2_ f3_;subst f4_;subst f5_))
 refine hK.out _ _ ⟨bc_ BK691.out 0,bc_ BK691.out 1,bc_ BK691.out 2⟩ (fun hHeld=>?_)
 clear hK K
 refine norm_ (a':=?_) ?_ ?_
 rotate_left
 ·show Act.put _ (some 40) _=_
  simp only[Act.put,List.setIfInBounds_toArray,List.set_cons_zero,List.set_cons_succ,jF,jG]
  rfl
 refine oz_ 4 (some 41) (fun K hK=>?_)
 refine goes_ Try.func46 T4_ rfl #[.slice Ao19 t684.length co19,.slice Ao28 t696.length co28] T0_ rfl rfl T20_ ?_
 with_reducible refine(churnref10_All.calls k _ _ t684 _ _ t696 t699 t700 t701 _ ?side1 ?side2 ?side3 ?side4 A8.out).mono ?_
 (case side1=>exact cu_ ((ji HO686.out).2.2))
 (case side2=>exact(ji HO686.out).2.1)
 (case side3=>exact cu_ ((ji HO698.out).2.2))
 (case side4=>exact(ji HO698.out).2.1)
 rintro e w29 ⟨v702,rfl,ho0,hb⟩
 refine⟨_,rfl,?_⟩
 have n_:=P10_ (je (ru_ HO683.out) hb) (je (ru_ HO686.out) hb) (jD (su_ HO689.out) hb) (jg (ru_ HO695.out) (jf ho0) hb) (jg (ru_ HO698.out) (jf ho0) hb) (jq (jj (jj ho0 (jh (ru_ HO695.out))) (jh (ru_ HO698.out))) (jc T45_)) (jo (bu_ BK679.out) hb) (jo (bu_ BK680.out) hb) (jo (bu_ BK691.out) hb) (jk T45_ hb)
 clear HO683 HO686 HO689 HO695 HO698 BK679 BK680 BK691 HB
 obtain⟨HO683,HO686,HO689,HO695,HO698,HO703,BK679,BK680,BK691,HB⟩:=n_
 (try clear hb);(try clear hk);(try clear ho0)
 refine hK.out _ _ ⟨bc_ BK691.out 0,bc_ BK691.out 1,bc_ BK691.out 2⟩ (fun hHeld=>?_)
 clear hK K
 refine norm_ (a':=?_) ?_ ?_
 rotate_left
 ·show Act.put _ (some 41) _=_
  simp only[Act.put,List.setIfInBounds_toArray,List.set_cons_zero,List.set_cons_succ,jF,jG]
  rfl
 refine pz_ 5 (some 36) ?_
 refine pz_ 6 (some 42) ?_
 refine pz_ 7 (some 43) ?_
 refine pz_ 8 (some 44) ?_
 refine pz_ 9 (some 11) ?_
 refine pz_ 10 (some 12) ?_
 refine pz_ 11 (some 13) ?_
 refine done_ (done_of HT_.out T4_) ?_
 obtain⟨hcz30_0,hcz30_1,hcz30_2,hcz30_3,hfz30_0,hfz30_1,hfz30_2,hfz30_3⟩:=cz4_ BK680.out
 obtain⟨Ao31,co31,eo31⟩:=jp HO703.out
 subst eo31
 try go_wp2_with(first|(refine gc_ 47 ?_;refine gl_ (some 52) Try.func47 #[.slice Ao22 t692.length co22,.slice Ao31 t699.length co31] ?_;(with_reducible refine(churnref12_Pattern.calls k _ _ t692 _ _ t699 t704 t705 t706 _ ?side1 ?side2 ?side3 ?side4 A10.out).mono ?_);(case side1=>exact cu_ ((ji HO695.out).2.2));(case side2=>exact(ji HO695.out).2.1);(case side3=>exact cu_ ((ji HO703.out).2.2));(case side4=>exact(ji HO703.out).2.1);rintro e w32 ⟨v707,v709,rfl,ho0,ho1,hb⟩;refine⟨_,rfl,?_⟩;have n_:=P12_ (je (ru_ HO683.out) hb) (je (ru_ HO686.out) hb) (jD (su_ HO689.out) hb) (ja (Kd.R_told (Kd.R_told (Kd.R_old (ru_ HO695.out) hb) (jf ho0)) (jf ho1)) (fun _ h_=>h_.1)) (ja (Kd.R_told (Kd.R_told (Kd.R_old (ru_ HO698.out) hb) (jf ho0)) (jf ho1)) (fun _ h_=>h_.1)) (ja (Kd.R_told (Kd.R_told (Kd.R_old (ru_ HO703.out) hb) (jf ho0)) (jf ho1)) (fun _ h_=>h_.1)) (jq (jj (jj (jj ho0 (jh (ru_ HO695.out))) (jh (ru_ HO698.out))) (jh (ru_ HO703.out))) (jc T45_)) (jq (jj (jj (jj ho1 (jh (ru_ HO695.out))) (jh (ru_ HO698.out))) (jh (ru_ HO703.out))) (jc T45_)) (jo (bu_ BK679.out) hb) (jo (bu_ BK680.out) hb) (jo (bu_ BK691.out) hb) (jk T45_ hb);clear HO683 HO686 HO689 HO695 HO698 HO703 BK679 BK680 BK691 HB;obtain⟨HO683,HO686,HO689,HO695,HO698,HO703,HO708,HO710,BK679,BK680,BK691,HB⟩:=n_;clear hb ho0 ho1;obtain⟨Ao33,co33,eo33⟩:=jp HO708.out;subst eo33;obtain⟨hcz34_0,hcz34_1,hcz34_2,hcz34_3,hfz34_0,hfz34_1,hfz34_2,hfz34_3⟩:=cz4_ BK680.out;obtain⟨Ao35,co35,eo35⟩:=jp HO710.out;subst eo35))
 go_loopg [14] k (fun kq v14 w'=>∃ (x14_1:Int) (x681003_1:List (List Int)) (u681003:Value),v14 = .int .i64 x14_1∧Aside0 (churnref13_laid.l0 kq a2 x14_1 t692 t704 t705 x681003_1 t681 t684 t687=some (r1,r2,r3,r4,r5))∧Aside0 (kq≤k)∧Aside0 (jt (jb .i64) 3 w' w.heap.size (fun k_=>ne_ k_ (.slice Ao33 t704.length co33)∧ne_ k_ (.slice Ao35 t705.length co35)) (.slice Ao22 t692.length co22) t692)∧Aside0 (jt (jb .i64) 3 w' w.heap.size (fun k_=>ne_ k_ (.slice Ao22 t692.length co22)∧ne_ k_ (.slice Ao35 t705.length co35)) (.slice Ao33 t704.length co33) t704)∧Aside0 (jt (jb .i64) 3 w' w.heap.size (fun k_=>ne_ k_ (.slice Ao22 t692.length co22)∧ne_ k_ (.slice Ao33 t704.length co33)) (.slice Ao35 t705.length co35) t705)∧Aside0 (Kd.S (jB 3 (jb .i64)) 24 w' w.heap.size (fun k_=>ne_ k_ (.slice Ao22 t692.length co22)∧ne_ k_ (.slice Ao33 t704.length co33)∧ne_ k_ (.slice Ao35 t705.length co35)) u681003 x681003_1)∧Aside0 (jt (jb .u8) 5 w' w.heap.size (fun k_=>ne_ k_ (.slice Ao19 t684.length co19)) (.slice Ao15 t681.length co15) t681)∧Aside0 (jt (jb .u8) 5 w' w.heap.size (fun k_=>ne_ k_ (.slice Ao15 t681.length co15)) (.slice Ao19 t684.length co19) t684)∧Aside0 (Kd.S (jB 5 (jb .u8)) 23 w' w.heap.size (fun k_=>ne_ k_ (.slice Ao15 t681.length co15)∧ne_ k_ (.slice Ao19 t684.length co19)) (.slice Ao20 t687.length co20) t687)∧Aside0 (w'.heap[gb679]? = some (.cells #[(.slice none 0 0),(.slice none 0 0),(.slice none 0 0),(.slice none 0 0)] 63 (0,0)))∧Aside0 (w'.heap[gb680]? = some (.cells #[(.slice Ao22 t692.length co22),(.slice Ao33 t704.length co33),(.slice Ao35 t705.length co35),u681003] 63 (0,0)))∧Aside0 (w'.heap[gb691]? = some (.cells #[(.slice Ao15 t681.length co15),(.slice Ao19 t684.length co19),(.slice Ao20 t687.length co20)] 55 (0,0)))∧Aside0 (Below w.heap.size w w'))
 case atStart=>exact⟨(0),(([]:List (List Int))),(.slice none 0 0),T10_,H',⟨Nat.le_refl _⟩,⟨ru_ (ja (jd (p:=⟨gb680,2,none⟩) (jd (p:=⟨gb680,1,none⟩) (jr HO695.out BK680.out T3_) (fun _ hk=>hk.2) (.slice Ao33 t704.length co33)) (fun _ hk=>hk.2) (.slice Ao35 t705.length co35)) (fun _ hk=>⟨hk.1.1.2,hk.1.2⟩))⟩,⟨ru_ (ja (jd (p:=⟨gb680,2,none⟩) (jd (p:=⟨gb680,1,none⟩) (jr HO708.out BK680.out T3_) (fun _ hk=>hk.2) (.slice Ao33 t704.length co33)) (fun _ hk=>hk.2) (.slice Ao35 t705.length co35)) (fun _ hk=>⟨hk.1.1.1.2,hk.1.1.1.1⟩))⟩,⟨ru_ (ja (jd (p:=⟨gb680,2,none⟩) (jd (p:=⟨gb680,1,none⟩) (jr HO710.out BK680.out T3_) (fun _ hk=>hk.2) (.slice Ao33 t704.length co33)) (fun _ hk=>hk.2) (.slice Ao35 t705.length co35)) (fun _ hk=>⟨hk.1.1.1.2,hk.1.1.1.1⟩))⟩,⟨T22_⟩,⟨ru_ (ja (jd (p:=⟨gb680,2,none⟩) (jd (p:=⟨gb680,1,none⟩) (jr HO683.out BK680.out T3_) (fun _ hk=>hk.2) (.slice Ao33 t704.length co33)) (fun _ hk=>hk.2) (.slice Ao35 t705.length co35)) (fun _ hk=>hk.1))⟩,⟨ru_ (ja (jd (p:=⟨gb680,2,none⟩) (jd (p:=⟨gb680,1,none⟩) (jr HO686.out BK680.out T3_) (fun _ hk=>hk.2) (.slice Ao33 t704.length co33)) (fun _ hk=>hk.2) (.slice Ao35 t705.length co35)) (fun _ hk=>hk.1))⟩,⟨su_ (jC (jE (p:=⟨gb680,2,none⟩) (jE (p:=⟨gb680,1,none⟩) (Jb HO689.out BK680.out T3_) (fun _ hk=>hk.2) (.slice Ao33 t704.length co33)) (fun _ hk=>hk.2) (.slice Ao35 t705.length co35)) (fun _ hk=>⟨hk.1.1,hk.1.2⟩))⟩,⟨(by(with_reducible repeat(first|refine jn ?_ _|refine jl ?_|refine jm ?_ _));refine jU ?_ NB679_680.out _;(with_reducible repeat(first|refine jn ?_ _|refine jl ?_|refine jm ?_ _));refine jU ?_ NB679_680.out _;exact bu_ BK679.out)⟩,⟨(by(with_reducible repeat(first|refine jn ?_ _|refine jl ?_|refine jm ?_ _));refine ju (cs:=#[.slice Ao22 t692.length co22,.slice Ao33 t704.length co33,.slice none 0 0,.slice none 0 0]) ?_ 2 _ rfl;(with_reducible repeat(first|refine jn ?_ _|refine jl ?_|refine jm ?_ _));refine ju (cs:=#[.slice Ao22 t692.length co22,.slice none 0 0,.slice none 0 0,.slice none 0 0]) ?_ 1 _ rfl;exact bu_ BK680.out)⟩,⟨(by(with_reducible repeat(first|refine jn ?_ _|refine jl ?_|refine jm ?_ _));refine jU ?_ NB691_680.out _;(with_reducible repeat(first|refine jn ?_ _|refine jl ?_|refine jm ?_ _));refine jU ?_ NB691_680.out _;exact bu_ BK691.out)⟩,⟨T45_⟩⟩
 clear H'
 (try clear c5);(try clear c5b0 c5b1);(try clear c9);(try clear c9b0 c9b1);(try clear hcz18_0 hcz18_1 hcz18_2 hfz18_0 hfz18_1 hfz18_2);(try clear hcz24_0 hcz24_1 hcz24_2 hcz24_3 hfz24_0 hfz24_1 hfz24_2 hfz24_3);(try clear hcz30_0 hcz30_1 hcz30_2 hcz30_3 hfz30_0 hfz30_1 hfz30_2 hfz30_3);(try clear hcz34_0 hcz34_1 hcz34_2 hcz34_3 hfz34_0 hfz34_1 hfz34_2 hfz34_3);(try clear BK679);(try clear BK680);(try clear BK691)
 obtain⟨x14_1,x681003_1,u681003,rfl,HA,HK1,HO_681000,HO_681001,HO_681002,HO_681003,HO_692000,HO_692001,HO_692002,BK679,BK680,BK691,HB⟩:=hrel
 cases gk with
 | zero=>exact absurd HA.out (by simp[churnref13_laid.l0])
 | succ k1 =>
  have H:=HA.out
  clear HA
  simp only[churnref13_laid.l0] at H
  by_cases c36:x14_1<a2
  rotate_left
  ·rw[if_neg c36] at H
   have c36b0:=decide_eq_false c36
   clear c36
   obtain⟨rfl,rfl,rfl,rfl,rfl⟩:=sj5_ H
   have hnb69:=NB680_679.out
   have hnc69:=NB679_680.out
   have hnb70:=NB680_691.out
   have hnc70:=NB691_680.out
   obtain⟨hcz71_0,hcz71_1,hcz71_2,hcz71_3,hfz71_0,hfz71_1,hfz71_2,hfz71_3⟩:=cz4_ BK680.out
   have hnb72:=NB679_691.out
   have hnc72:=NB691_679.out
   obtain⟨hcz73_0,hcz73_1,hcz73_2,hcz73_3,hfz73_0,hfz73_1,hfz73_2,hfz73_3⟩:=cz4_ BK679.out
   obtain⟨Ao74,co74,eo74⟩:=jT HO_681003.out
   subst eo74
   go_wp2
   refine bodyPost_ret (results_ct rfl _ _ gb679 63 #[.slice Ao22 t692.length co22,.slice Ao33 t704.length co33,.slice Ao35 t705.length co35,.slice Ao74 x681003_1.length co74] (0,0) _ rfl (by(with_reducible repeat(first|refine jn ?_ _|refine jl ?_|refine jm ?_ _));refine ju (cs:=#[.slice Ao22 t692.length co22,.slice Ao33 t704.length co33,.slice Ao35 t705.length co35,.slice none 0 0]) ?_ 3 _ rfl;(with_reducible repeat(first|refine jn ?_ _|refine jl ?_|refine jm ?_ _));refine ju (cs:=#[.slice Ao22 t692.length co22,.slice Ao33 t704.length co33,.slice none 0 0,.slice none 0 0]) ?_ 2 _ rfl;(with_reducible repeat(first|refine jn ?_ _|refine jl ?_|refine jm ?_ _));refine ju (cs:=#[.slice Ao22 t692.length co22,.slice none 0 0,.slice none 0 0,.slice none 0 0]) ?_ 1 _ rfl;(with_reducible repeat(first|refine jn ?_ _|refine jl ?_|refine jm ?_ _));refine ju (cs:=#[.slice none 0 0,.slice none 0 0,.slice none 0 0,.slice none 0 0]) ?_ 0 _ rfl;exact bu_ BK679.out) Try.underlying63 rfl T4_) rfl ?_
   exact⟨_,_,_,_,T17_,ru_ (ja (jd (p:=⟨gb679,3,none⟩) (jd (p:=⟨gb679,2,none⟩) (jd (p:=⟨gb679,1,none⟩) (jd (p:=⟨gb679,0,none⟩) (jr HO_681000.out BK679.out T3_) (fun _ hk=>hk.2) (.slice Ao22 t692.length co22)) (fun _ hk=>hk.2) (.slice Ao33 t704.length co33)) (fun _ hk=>hk.2) (.slice Ao35 t705.length co35)) (fun _ hk=>hk.2) (.slice Ao74 x681003_1.length co74)) (fun _ hk=>⟨hk.1.1,hk.1.2⟩)),ru_ (ja (jd (p:=⟨gb679,3,none⟩) (jd (p:=⟨gb679,2,none⟩) (jd (p:=⟨gb679,1,none⟩) (jd (p:=⟨gb679,0,none⟩) (jr HO_681001.out BK679.out T3_) (fun _ hk=>hk.2) (.slice Ao22 t692.length co22)) (fun _ hk=>hk.2) (.slice Ao33 t704.length co33)) (fun _ hk=>hk.2) (.slice Ao35 t705.length co35)) (fun _ hk=>hk.2) (.slice Ao74 x681003_1.length co74)) (fun _ hk=>⟨hk.1.1,hk.1.2⟩)),ru_ (ja (jd (p:=⟨gb679,3,none⟩) (jd (p:=⟨gb679,2,none⟩) (jd (p:=⟨gb679,1,none⟩) (jd (p:=⟨gb679,0,none⟩) (jr HO_681002.out BK679.out T3_) (fun _ hk=>hk.2) (.slice Ao22 t692.length co22)) (fun _ hk=>hk.2) (.slice Ao33 t704.length co33)) (fun _ hk=>hk.2) (.slice Ao35 t705.length co35)) (fun _ hk=>hk.2) (.slice Ao74 x681003_1.length co74)) (fun _ hk=>⟨hk.1.1,hk.1.2⟩)),su_ (jC (jE (p:=⟨gb679,3,none⟩) (jE (p:=⟨gb679,2,none⟩) (jE (p:=⟨gb679,1,none⟩) (jE (p:=⟨gb679,0,none⟩) (Jb HO_681003.out BK679.out T3_) (fun _ hk=>hk.2) (.slice Ao22 t692.length co22)) (fun _ hk=>hk.2) (.slice Ao33 t704.length co33)) (fun _ hk=>hk.2) (.slice Ao35 t705.length co35)) (fun _ hk=>hk.2) (.slice Ao74 x681003_1.length co74)) (fun _ hk=>⟨hk.1.1,⟨hk.1.2.1,hk.1.2.2⟩⟩)),T45_⟩
  rw[if_pos c36] at H
  have c36b0:=decide_eq_true c36
  clear c36
  replace H:=ifn_ H;obtain⟨c37,H⟩:=H
  have c37b0:=decide_eq_true c37
  clear c37
  replace H:=ifn_ H;obtain⟨c38,H⟩:=H
  have c38b0:=decide_eq_true c38
  clear c38
  replace H:=ifn_ H;obtain⟨c39,H⟩:=H
  have c39b0:=decide_eq_true c39
  clear c39
  replace H:=Option.bind_eq_some_iff.mp H
  obtain⟨t713,A400,H⟩:=H
  try dsimp only at H
  have A40:=am_ A400
  clear A400
  replace H:=Option.bind_eq_some_iff.mp H
  obtain⟨⟨t716,t717,t718⟩,A410,H⟩:=H
  try dsimp only at H
  have A41:=am_ A410
  clear A410
  by_cases c42:t718=0
  rotate_left
  ·rw[if_neg c42] at H
   obtain⟨c42b0,c42b1⟩:=en_ c42
   obtain⟨rfl,rfl,rfl,rfl,rfl⟩:=sj5_ H
   try go_wp2
   have n_:=P11_ (js HO_681000.out) (js HO_681001.out) (js HO_681002.out) (Ja HO_681003.out) (js HO_692000.out) (js HO_692001.out) (Ja HO_692002.out) (jl BK679.out) (jl BK680.out) (jl BK691.out) (jJ HB.out)
   clear HO_681000 HO_681001 HO_681002 HO_681003 HO_692000 HO_692001 HO_692002 BK679 BK680 BK691 HB
   obtain⟨HO_681000,HO_681001,HO_681002,HO_681003,HO_692000,HO_692001,HO_692002,BK679,BK680,BK691,HB⟩:=n_
   have p711:0≤(x14_1:Int):=od_
   have q711:x14_1<(t687.length:Int):=od_
   obtain⟨ad711,A711_0,c711_0,e711,hx711_0,hl711_0,hi711_0⟩:=at_L2 (jK HO_692002.out).2.2 x14_1 p711 q711
   cases e711
   obtain⟨ce711,hce711,hMe711,hcc711⟩:=Kd.S_get HO_692002.out [] x14_1 p711 (by first|exact q711|exact od_|(have e_:=(jK HO_692002.out).1;omega))
   obtain⟨ve711_0,rfl,ge711_0⟩:=hMe711
   have hv711_0:=hcc711 0 _ rfl
   rw[Nat.add_zero,show((jB 5 (jb .u8))).sz=1 from rfl,Nat.mul_one] at hv711_0
   replace hv711_0:=Option.some.inj (hv711_0.symm.trans hx711_0)
   rw[hv711_0] at ge711_0
   have HL711_0:=am_ (show jt (jb .u8) 5 _ _ _ _ (rd_L2 t687 x14_1) from ge711_0)
   clear hv711_0 ge711_0 hcc711 hce711
   have HR711_0:=am_ hi711_0
   have HC711_0:=am_ hl711_0
   clear hi711_0 hl711_0
   replace p711:=eq_true p711
   replace q711:=eq_true q711
   obtain⟨ad712,e712,hx712_0,p712,q712⟩:=ai_ (ji HO_681000.out).2.2 x14_1
   cases e712
   refine start_ (n:=19) (S:=fun w'=>w'.cell? ⟨gb691,0,none⟩=some (.slice Ao15 t681.length co15)∧w'.cell? ⟨gb691,1,none⟩=some (.slice Ao19 t684.length co19)∧w'.cell? ⟨gb691,2,none⟩=some (.slice (some ad711) t687.length co20)∧w'.cell? ⟨gb680,0,none⟩=some (.slice (some ad712) t692.length co22)∧w'.cell? ⟨gb680,1,none⟩=some (.slice Ao33 t704.length co33)∧w'.cell? ⟨gb680,2,none⟩=some (.slice Ao35 t705.length co35)∧w'.cell? ⟨gb680,3,none⟩=some (u681003)∧w'.cell? (ad711.add (x14_1).toNat)=some (.slice A711_0 (rd_L2 t687 x14_1).length c711_0)∧w'.cell? (ad712.add (x14_1).toNat)=some (.int .i64 (rd t692 x14_1))) (ds:=[]) #[false,false,false,false,false,false,false,false,false,false,false,false,false,false,false,false,false,false,false] T4_ rfl rfl ⟨bc_ BK691.out 0,bc_ BK691.out 1,bc_ BK691.out 2,bc_ BK680.out 0,bc_ BK680.out 1,bc_ BK680.out 2,bc_ BK680.out 3,hx711_0,hx712_0⟩ (fun hHeld=>?_);refine Jf churnref13_laid.tab13 churnref13_laid.bits13 (fun HT_ HW_=>?_)
   generalize wr.drew=w59 at HO_681000 HO_681001 HO_681002 HO_681003 HO_692000 HO_692001 HO_692002 BK679 BK680 BK691 HB HL711_0 HR711_0 hx711_0 hx712_0 hHeld ⊢
   refine pz_ 0 (some 64) ?_
   refine pz_ 2 (some 66) ?_
   refine pz_ 5 (some 69) ?_
   refine pz_ 7 (some 71) ?_
   refine tz9_ 1 (some 65) hHeld ?_
   refine pz_ 3 (some 67) ?_
   refine tz9_ 4 (some 68) hHeld ?_
   refine tz9_ 6 (some 70) hHeld ?_
   refine pz_ 8 (some 72) ?_
   refine tz9_ 9 (some 73) hHeld ?_
   refine oz_ 10 (some 74) (fun K hK=>?_)
   refine goes_ Try.func31 T4_ rfl #[.int .i64 (rd t692 x14_1)] T0_ rfl rfl T20_ ?_
   with_reducible refine(churnref11_Bounds.calls k1 (rd t692 x14_1) t713 _ A40.out).mono ?_
   rintro e w60 ⟨v714,rfl,ho0,hb⟩
   have HS7_:=(hb.cell (World.block_lt_of_cell? _ _ (hHeld.2.2.2.2.2.2.2.1))).trans (hHeld.2.2.2.2.2.2.2.1)
   have HS8_:=(hb.cell (World.block_lt_of_cell? _ _ (hHeld.2.2.2.2.2.2.2.2))).trans (hHeld.2.2.2.2.2.2.2.2)
   refine⟨_,rfl,?_⟩
   have n_:=P14_ (jg (ru_ HO_681000.out) (jf ho0) hb) (jg (ru_ HO_681001.out) (jf ho0) hb) (jg (ru_ HO_681002.out) (jf ho0) hb) (jL (su_ HO_681003.out) (jf ho0) hb) (je (ru_ HO_692000.out) hb) (je (ru_ HO_692001.out) hb) (jD (su_ HO_692002.out) hb) (je (ru_ HL711_0.out) hb) (jq (jj (jj (jj ho0 (jh (ru_ HO_681000.out))) (jh (ru_ HO_681001.out))) (jh (ru_ HO_681002.out))) (jc T45_)) (jo (bu_ BK679.out) hb) (jo (bu_ BK680.out) hb) (jo (bu_ BK691.out) hb) (jw (cu_ HR711_0.out) hb) (jk T45_ hb)
   clear HO_681000 HO_681001 HO_681002 HO_681003 HO_692000 HO_692001 HO_692002 HL711_0 BK679 BK680 BK691 HR711_0 HB
   obtain⟨HO_681000,HO_681001,HO_681002,HO_681003,HO_692000,HO_692001,HO_692002,HL711_0,HO715,BK679,BK680,BK691,HR711_0,HB⟩:=n_
   (try clear hb);(try clear hk);(try clear ho0)
   obtain⟨Ao61,co61,eo61⟩:=jp HO715.out
   (first|subst eo61|(injection eo61 with f1_ f2_ f3_;have f4_:=f1_.symm;have f5_:=f3_.symm;clear f1_ f2_ f3_;subst f4_;subst f5_))
   refine hK.out _ _ ⟨bc_ BK691.out 0,bc_ BK691.out 1,bc_ BK691.out 2,bc_ BK680.out 0,bc_ BK680.out 1,bc_ BK680.out 2,bc_ BK680.out 3,HS7_,HS8_⟩ (fun hHeld=>?_)
   clear hK K
   refine norm_ (a':=?_) ?_ ?_
   rotate_left
   ·show Act.put _ (some 74) _=_
    simp only[Act.put,List.setIfInBounds_toArray,List.set_cons_zero,List.set_cons_succ,jF,jG]
    rfl
   refine oz_ 11 (some 75) (fun K hK=>?_)
   refine goes_ Try.func46 T4_ rfl #[.slice A711_0 (rd_L2 t687 x14_1).length c711_0,.slice Ao61 t713.length co61] T0_ rfl rfl T20_ ?_
   with_reducible refine(churnref10_All.calls k1 _ _ (rd_L2 t687 x14_1) _ _ t713 t716 t717 t718 _ ?side1 ?side2 ?side3 ?side4 A41.out).mono ?_
   (case side1=>exact cu_ HR711_0.out)
   (case side2=>exact HC711_0.out)
   (case side3=>exact cu_ ((ji HO715.out).2.2))
   (case side4=>exact(ji HO715.out).2.1)
   rintro e w62 ⟨v719,rfl,ho0,hb⟩
   have HS7_:=(hb.cell (World.block_lt_of_cell? _ _ (hHeld.2.2.2.2.2.2.2.1))).trans (hHeld.2.2.2.2.2.2.2.1)
   have HS8_:=(hb.cell (World.block_lt_of_cell? _ _ (hHeld.2.2.2.2.2.2.2.2))).trans (hHeld.2.2.2.2.2.2.2.2)
   refine⟨_,rfl,?_⟩
   have n_:=P15_ (jg (ru_ HO_681000.out) (jf ho0) hb) (jg (ru_ HO_681001.out) (jf ho0) hb) (jg (ru_ HO_681002.out) (jf ho0) hb) (jL (su_ HO_681003.out) (jf ho0) hb) (je (ru_ HO_692000.out) hb) (je (ru_ HO_692001.out) hb) (jD (su_ HO_692002.out) hb) (je (ru_ HL711_0.out) hb) (jg (ru_ HO715.out) (jf ho0) hb) (jq (jj (jj (jj (jj ho0 (jh (ru_ HO_681000.out))) (jh (ru_ HO_681001.out))) (jh (ru_ HO_681002.out))) (jh (ru_ HO715.out))) (jc T45_)) (jo (bu_ BK679.out) hb) (jo (bu_ BK680.out) hb) (jo (bu_ BK691.out) hb) (jw (cu_ HR711_0.out) hb) (jk T45_ hb)
   clear HO_681000 HO_681001 HO_681002 HO_681003 HO_692000 HO_692001 HO_692002 HL711_0 HO715 BK679 BK680 BK691 HR711_0 HB
   obtain⟨HO_681000,HO_681001,HO_681002,HO_681003,HO_692000,HO_692001,HO_692002,HL711_0,HO715,HO720,BK679,BK680,BK691,HR711_0,HB⟩:=n_
   (try clear hb);(try clear hk);(try clear ho0)
   refine hK.out _ _ ⟨bc_ BK691.out 0,bc_ BK691.out 1,bc_ BK691.out 2,bc_ BK680.out 0,bc_ BK680.out 1,bc_ BK680.out 2,bc_ BK680.out 3,HS7_,HS8_⟩ (fun hHeld=>?_)
   clear hK K
   refine norm_ (a':=?_) ?_ ?_
   rotate_left
   ·show Act.put _ (some 75) _=_
    simp only[Act.put,List.setIfInBounds_toArray,List.set_cons_zero,List.set_cons_succ,jF,jG]
    rfl
   refine pz_ 12 (some 63) ?_
   refine pz_ 13 (some 76) ?_
   refine pz_ 14 (some 77) ?_
   refine pz_ 15 (some 78) ?_
   refine pz_ 16 (some 15) ?_
   refine pz_ 17 (some 16) ?_
   refine pz_ 18 (some 17) ?_
   refine done_ (done_of HT_.out T4_) ?_
   have hnb63:=NB680_679.out
   have hnc63:=NB679_680.out
   have hnb64:=NB680_691.out
   have hnc64:=NB691_680.out
   obtain⟨hcz65_0,hcz65_1,hcz65_2,hcz65_3,hfz65_0,hfz65_1,hfz65_2,hfz65_3⟩:=cz4_ BK680.out
   have hnb66:=NB679_691.out
   have hnc66:=NB691_679.out
   obtain⟨hcz67_0,hcz67_1,hcz67_2,hcz67_3,hfz67_0,hfz67_1,hfz67_2,hfz67_3⟩:=cz4_ BK679.out
   obtain⟨Ao68,co68,eo68⟩:=jT HO_681003.out
   subst eo68
   try go_wp2
   refine bodyPost_ret (results_ct rfl _ _ gb679 63 #[.slice (some ad712) t692.length co22,.slice Ao33 t704.length co33,.slice Ao35 t705.length co35,.slice Ao68 x681003_1.length co68] (0,0) _ rfl (by(with_reducible repeat(first|refine jn ?_ _|refine jl ?_|refine jm ?_ _));refine ju (cs:=#[.slice (some ad712) t692.length co22,.slice Ao33 t704.length co33,.slice Ao35 t705.length co35,.slice none 0 0]) ?_ 3 _ rfl;(with_reducible repeat(first|refine jn ?_ _|refine jl ?_|refine jm ?_ _));refine ju (cs:=#[.slice (some ad712) t692.length co22,.slice Ao33 t704.length co33,.slice none 0 0,.slice none 0 0]) ?_ 2 _ rfl;(with_reducible repeat(first|refine jn ?_ _|refine jl ?_|refine jm ?_ _));refine ju (cs:=#[.slice (some ad712) t692.length co22,.slice none 0 0,.slice none 0 0,.slice none 0 0]) ?_ 1 _ rfl;(with_reducible repeat(first|refine jn ?_ _|refine jl ?_|refine jm ?_ _));refine ju (cs:=#[.slice none 0 0,.slice none 0 0,.slice none 0 0,.slice none 0 0]) ?_ 0 _ rfl;exact bu_ BK679.out) Try.underlying63 rfl T4_) rfl ?_
   exact⟨_,_,_,_,T17_,ru_ (ja (jd (p:=⟨gb679,3,none⟩) (jd (p:=⟨gb679,2,none⟩) (jd (p:=⟨gb679,1,none⟩) (jd (p:=⟨gb679,0,none⟩) (jr HO_681000.out BK679.out T3_) (fun _ hk=>hk.2) (.slice (some ad712) t692.length co22)) (fun _ hk=>hk.2) (.slice Ao33 t704.length co33)) (fun _ hk=>hk.2) (.slice Ao35 t705.length co35)) (fun _ hk=>hk.2) (.slice Ao68 x681003_1.length co68)) (fun _ hk=>⟨hk.1.1.1.1,hk.1.1.1.2⟩)),ru_ (ja (jd (p:=⟨gb679,3,none⟩) (jd (p:=⟨gb679,2,none⟩) (jd (p:=⟨gb679,1,none⟩) (jd (p:=⟨gb679,0,none⟩) (jr HO_681001.out BK679.out T3_) (fun _ hk=>hk.2) (.slice (some ad712) t692.length co22)) (fun _ hk=>hk.2) (.slice Ao33 t704.length co33)) (fun _ hk=>hk.2) (.slice Ao35 t705.length co35)) (fun _ hk=>hk.2) (.slice Ao68 x681003_1.length co68)) (fun _ hk=>⟨hk.1.1.1.1,hk.1.1.1.2⟩)),ru_ (ja (jd (p:=⟨gb679,3,none⟩) (jd (p:=⟨gb679,2,none⟩) (jd (p:=⟨gb679,1,none⟩) (jd (p:=⟨gb679,0,none⟩) (jr HO_681002.out BK679.out T3_) (fun _ hk=>hk.2) (.slice (some ad712) t692.length co22)) (fun _ hk=>hk.2) (.slice Ao33 t704.length co33)) (fun _ hk=>hk.2) (.slice Ao35 t705.length co35)) (fun _ hk=>hk.2) (.slice Ao68 x681003_1.length co68)) (fun _ hk=>⟨hk.1.1.1.1,hk.1.1.1.2⟩)),su_ (jC (jE (p:=⟨gb679,3,none⟩) (jE (p:=⟨gb679,2,none⟩) (jE (p:=⟨gb679,1,none⟩) (jE (p:=⟨gb679,0,none⟩) (Jb HO_681003.out BK679.out T3_) (fun _ hk=>hk.2) (.slice (some ad712) t692.length co22)) (fun _ hk=>hk.2) (.slice Ao33 t704.length co33)) (fun _ hk=>hk.2) (.slice Ao35 t705.length co35)) (fun _ hk=>hk.2) (.slice Ao68 x681003_1.length co68)) (fun _ hk=>⟨hk.1.1.1.1,⟨hk.1.1.1.2.1,hk.1.1.1.2.2⟩⟩)),T45_⟩
  rw[if_pos c42] at H
  obtain⟨c42b0,c42b1⟩:=ep_ c42
  clear c42
  replace H:=Option.bind_eq_some_iff.mp H
  obtain⟨⟨t722,t723⟩,A430,H⟩:=H
  try dsimp only at H
  have A43:=am_ A430
  clear A430
  replace H:=ifa_ H;obtain⟨LMc44,H⟩:=H
  obtain⟨y726,hy_⟩:∃ y_:List (List Int),y_=(x681003_1 ++ [t722]):=⟨_,rfl⟩
  replace H:(churnref13_laid.l0 k1 a2 (wrap64 (x14_1+1)) t692 t704 t705 y726 t681 t684 t687)=some (r1,r2,r3,r4,r5):=hyw_
  have Ny726:=am_ hy_
  clear hy_
  have H':=am_ H
  clear H
  try go_wp2
  have n_:=P11_ (js HO_681000.out) (js HO_681001.out) (js HO_681002.out) (Ja HO_681003.out) (js HO_692000.out) (js HO_692001.out) (Ja HO_692002.out) (jl BK679.out) (jl BK680.out) (jl BK691.out) (jJ HB.out)
  clear HO_681000 HO_681001 HO_681002 HO_681003 HO_692000 HO_692001 HO_692002 BK679 BK680 BK691 HB
  obtain⟨HO_681000,HO_681001,HO_681002,HO_681003,HO_692000,HO_692001,HO_692002,BK679,BK680,BK691,HB⟩:=n_
  have p711:0≤(x14_1:Int):=od_
  have q711:x14_1<(t687.length:Int):=od_
  obtain⟨ad711,A711_0,c711_0,e711,hx711_0,hl711_0,hi711_0⟩:=at_L2 (jK HO_692002.out).2.2 x14_1 p711 q711
  cases e711
  obtain⟨ce711,hce711,hMe711,hcc711⟩:=Kd.S_get HO_692002.out [] x14_1 p711 (by first|exact q711|exact od_|(have e_:=(jK HO_692002.out).1;omega))
  obtain⟨ve711_0,rfl,ge711_0⟩:=hMe711
  have hv711_0:=hcc711 0 _ rfl
  rw[Nat.add_zero,show((jB 5 (jb .u8))).sz=1 from rfl,Nat.mul_one] at hv711_0
  replace hv711_0:=Option.some.inj (hv711_0.symm.trans hx711_0)
  rw[hv711_0] at ge711_0
  have HL711_0:=am_ (show jt (jb .u8) 5 _ _ _ _ (rd_L2 t687 x14_1) from ge711_0)
  clear hv711_0 ge711_0 hcc711 hce711
  have HR711_0:=am_ hi711_0
  have HC711_0:=am_ hl711_0
  clear hi711_0 hl711_0
  replace p711:=eq_true p711
  replace q711:=eq_true q711
  obtain⟨ad712,e712,hx712_0,p712,q712⟩:=ai_ (ji HO_681000.out).2.2 x14_1
  cases e712
  refine start_ (n:=19) (S:=fun w'=>w'.cell? ⟨gb691,0,none⟩=some (.slice Ao15 t681.length co15)∧w'.cell? ⟨gb691,1,none⟩=some (.slice Ao19 t684.length co19)∧w'.cell? ⟨gb691,2,none⟩=some (.slice (some ad711) t687.length co20)∧w'.cell? ⟨gb680,0,none⟩=some (.slice (some ad712) t692.length co22)∧w'.cell? ⟨gb680,1,none⟩=some (.slice Ao33 t704.length co33)∧w'.cell? ⟨gb680,2,none⟩=some (.slice Ao35 t705.length co35)∧w'.cell? ⟨gb680,3,none⟩=some (u681003)∧w'.cell? (ad711.add (x14_1).toNat)=some (.slice A711_0 (rd_L2 t687 x14_1).length c711_0)∧w'.cell? (ad712.add (x14_1).toNat)=some (.int .i64 (rd t692 x14_1))) (ds:=[]) #[false,false,false,false,false,false,false,false,false,false,false,false,false,false,false,false,false,false,false] T4_ rfl rfl ⟨bc_ BK691.out 0,bc_ BK691.out 1,bc_ BK691.out 2,bc_ BK680.out 0,bc_ BK680.out 1,bc_ BK680.out 2,bc_ BK680.out 3,hx711_0,hx712_0⟩ (fun hHeld=>?_);refine Jf churnref13_laid.tab13 churnref13_laid.bits13 (fun HT_ HW_=>?_)
  generalize wr.drew=w45 at HO_681000 HO_681001 HO_681002 HO_681003 HO_692000 HO_692001 HO_692002 BK679 BK680 BK691 HB HL711_0 HR711_0 hx711_0 hx712_0 hHeld ⊢
  refine pz_ 0 (some 64) ?_
  refine pz_ 2 (some 66) ?_
  refine pz_ 5 (some 69) ?_
  refine pz_ 7 (some 71) ?_
  refine tz9_ 1 (some 65) hHeld ?_
  refine pz_ 3 (some 67) ?_
  refine tz9_ 4 (some 68) hHeld ?_
  refine tz9_ 6 (some 70) hHeld ?_
  refine pz_ 8 (some 72) ?_
  refine tz9_ 9 (some 73) hHeld ?_
  refine oz_ 10 (some 74) (fun K hK=>?_)
  refine goes_ Try.func31 T4_ rfl #[.int .i64 (rd t692 x14_1)] T0_ rfl rfl T20_ ?_
  with_reducible refine(churnref11_Bounds.calls k1 (rd t692 x14_1) t713 _ A40.out).mono ?_
  rintro e w46 ⟨v714,rfl,ho0,hb⟩
  have HS7_:=(hb.cell (World.block_lt_of_cell? _ _ (hHeld.2.2.2.2.2.2.2.1))).trans (hHeld.2.2.2.2.2.2.2.1)
  have HS8_:=(hb.cell (World.block_lt_of_cell? _ _ (hHeld.2.2.2.2.2.2.2.2))).trans (hHeld.2.2.2.2.2.2.2.2)
  refine⟨_,rfl,?_⟩
  have n_:=P14_ (jg (ru_ HO_681000.out) (jf ho0) hb) (jg (ru_ HO_681001.out) (jf ho0) hb) (jg (ru_ HO_681002.out) (jf ho0) hb) (jL (su_ HO_681003.out) (jf ho0) hb) (je (ru_ HO_692000.out) hb) (je (ru_ HO_692001.out) hb) (jD (su_ HO_692002.out) hb) (je (ru_ HL711_0.out) hb) (jq (jj (jj (jj ho0 (jh (ru_ HO_681000.out))) (jh (ru_ HO_681001.out))) (jh (ru_ HO_681002.out))) (jc T45_)) (jo (bu_ BK679.out) hb) (jo (bu_ BK680.out) hb) (jo (bu_ BK691.out) hb) (jw (cu_ HR711_0.out) hb) (jk T45_ hb)
  clear HO_681000 HO_681001 HO_681002 HO_681003 HO_692000 HO_692001 HO_692002 HL711_0 BK679 BK680 BK691 HR711_0 HB
  obtain⟨HO_681000,HO_681001,HO_681002,HO_681003,HO_692000,HO_692001,HO_692002,HL711_0,HO715,BK679,BK680,BK691,HR711_0,HB⟩:=n_
  (try clear hb);(try clear hk);(try clear ho0)
  obtain⟨Ao47,co47,eo47⟩:=jp HO715.out
  (first|subst eo47|(injection eo47 with f1_ f2_ f3_;have f4_:=f1_.symm;have f5_:=f3_.symm;clear f1_ f2_ f3_;subst f4_;subst f5_))
  refine hK.out _ _ ⟨bc_ BK691.out 0,bc_ BK691.out 1,bc_ BK691.out 2,bc_ BK680.out 0,bc_ BK680.out 1,bc_ BK680.out 2,bc_ BK680.out 3,HS7_,HS8_⟩ (fun hHeld=>?_)
  clear hK K
  refine norm_ (a':=?_) ?_ ?_
  rotate_left
  ·show Act.put _ (some 74) _=_
   simp only[Act.put,List.setIfInBounds_toArray,List.set_cons_zero,List.set_cons_succ,jF,jG]
   rfl
  refine oz_ 11 (some 75) (fun K hK=>?_)
  refine goes_ Try.func46 T4_ rfl #[.slice A711_0 (rd_L2 t687 x14_1).length c711_0,.slice Ao47 t713.length co47] T0_ rfl rfl T20_ ?_
  with_reducible refine(churnref10_All.calls k1 _ _ (rd_L2 t687 x14_1) _ _ t713 t716 t717 t718 _ ?side1 ?side2 ?side3 ?side4 A41.out).mono ?_
  (case side1=>exact cu_ HR711_0.out)
  (case side2=>exact HC711_0.out)
  (case side3=>exact cu_ ((ji HO715.out).2.2))
  (case side4=>exact(ji HO715.out).2.1)
  rintro e w48 ⟨v719,rfl,ho0,hb⟩
  have HS7_:=(hb.cell (World.block_lt_of_cell? _ _ (hHeld.2.2.2.2.2.2.2.1))).trans (hHeld.2.2.2.2.2.2.2.1)
  have HS8_:=(hb.cell (World.block_lt_of_cell? _ _ (hHeld.2.2.2.2.2.2.2.2))).trans (hHeld.2.2.2.2.2.2.2.2)
  refine⟨_,rfl,?_⟩
  have n_:=P15_ (jg (ru_ HO_681000.out) (jf ho0) hb) (jg (ru_ HO_681001.out) (jf ho0) hb) (jg (ru_ HO_681002.out) (jf ho0) hb) (jL (su_ HO_681003.out) (jf ho0) hb) (je (ru_ HO_692000.out) hb) (je (ru_ HO_692001.out) hb) (jD (su_ HO_692002.out) hb) (je (ru_ HL711_0.out) hb) (jg (ru_ HO715.out) (jf ho0) hb) (jq (jj (jj (jj (jj ho0 (jh (ru_ HO_681000.out))) (jh (ru_ HO_681001.out))) (jh (ru_ HO_681002.out))) (jh (ru_ HO715.out))) (jc T45_)) (jo (bu_ BK679.out) hb) (jo (bu_ BK680.out) hb) (jo (bu_ BK691.out) hb) (jw (cu_ HR711_0.out) hb) (jk T45_ hb)
  clear HO_681000 HO_681001 HO_681002 HO_681003 HO_692000 HO_692001 HO_692002 HL711_0 HO715 BK679 BK680 BK691 HR711_0 HB
  obtain⟨HO_681000,HO_681001,HO_681002,HO_681003,HO_692000,HO_692001,HO_692002,HL711_0,HO715,HO720,BK679,BK680,BK691,HR711_0,HB⟩:=n_
  (try clear hb);(try clear hk);(try clear ho0)
  refine hK.out _ _ ⟨bc_ BK691.out 0,bc_ BK691.out 1,bc_ BK691.out 2,bc_ BK680.out 0,bc_ BK680.out 1,bc_ BK680.out 2,bc_ BK680.out 3,HS7_,HS8_⟩ (fun hHeld=>?_)
  clear hK K
  refine norm_ (a':=?_) ?_ ?_
  rotate_left
  ·show Act.put _ (some 75) _=_
   simp only[Act.put,List.setIfInBounds_toArray,List.set_cons_zero,List.set_cons_succ,jF,jG]
   rfl
  refine pz_ 12 (some 63) ?_
  refine pz_ 13 (some 76) ?_
  refine pz_ 14 (some 77) ?_
  refine pz_ 15 (some 78) ?_
  refine pz_ 16 (some 15) ?_
  refine pz_ 17 (some 16) ?_
  refine pz_ 18 (some 17) ?_
  refine done_ (done_of HT_.out T4_) ?_
  have hnb49:=NB680_679.out
  have hnc49:=NB679_680.out
  have hnb50:=NB680_691.out
  have hnc50:=NB691_680.out
  obtain⟨hcz51_0,hcz51_1,hcz51_2,hcz51_3,hfz51_0,hfz51_1,hfz51_2,hfz51_3⟩:=cz4_ BK680.out
  have p721:0≤(x14_1:Int):=od_
  have q721:x14_1<(t692.length:Int):=od_
  obtain⟨ad721,e721,hx721_0⟩:=jy (ji HO_681000.out).2.2 x14_1 p721 q721
  obtain rfl:ad712=ad721:=(by injection e721)
  replace p721:=eq_true p721
  replace q721:=eq_true q721
  obtain⟨Ao52,co52,eo52⟩:=jp HO720.out
  subst eo52
  try go_wp2_with(first|(refine gc_ 48 ?_;refine gl_ (some 89) Try.func48 #[.int .i64 (rd t692 x14_1),.slice Ao52 t716.length co52] ?_;(with_reducible refine(churnref11_From.calls k1 (rd t692 x14_1) _ _ t716 t722 t723 _ ?side1 ?side2 A43.out).mono ?_);(case side1=>exact cu_ ((ji HO720.out).2.2));(case side2=>exact(ji HO720.out).2.1);rintro e w53 ⟨v724,rfl,ho0,hb⟩;refine⟨_,rfl,?_⟩;have n_:=P16_ (jg (ru_ HO_681000.out) (jf ho0) hb) (jg (ru_ HO_681001.out) (jf ho0) hb) (jg (ru_ HO_681002.out) (jf ho0) hb) (jL (su_ HO_681003.out) (jf ho0) hb) (je (ru_ HO_692000.out) hb) (je (ru_ HO_692001.out) hb) (jD (su_ HO_692002.out) hb) (je (ru_ HL711_0.out) hb) (jg (ru_ HO715.out) (jf ho0) hb) (jg (ru_ HO720.out) (jf ho0) hb) (jq (jj (jj (jj (jj (jj ho0 (jh (ru_ HO_681000.out))) (jh (ru_ HO_681001.out))) (jh (ru_ HO_681002.out))) (jh (ru_ HO715.out))) (jh (ru_ HO720.out))) (jc T45_)) (jo (bu_ BK679.out) hb) (jo (bu_ BK680.out) hb) (jo (bu_ BK691.out) hb) (jw (cu_ HR711_0.out) hb) (jk T45_ hb);clear HO_681000 HO_681001 HO_681002 HO_681003 HO_692000 HO_692001 HO_692002 HL711_0 HO715 HO720 BK679 BK680 BK691 HR711_0 HB;obtain⟨HO_681000,HO_681001,HO_681002,HO_681003,HO_692000,HO_692001,HO_692002,HL711_0,HO715,HO720,HO725,BK679,BK680,BK691,HR711_0,HB⟩:=n_;clear hb ho0;obtain⟨hcz54_0,hcz54_1,hcz54_2,hcz54_3,hfz54_0,hfz54_1,hfz54_2,hfz54_3⟩:=cz4_ BK680.out;obtain⟨Ao56,co56,eo56⟩:=jp HO725.out;subst eo56)|(refine gb_ .append #[.tmp 93,.tmp 95] ?_;at_builtin;refine Kd.S_append (jB 3 (jb .i64)) (w0:=w) w.heap.size rfl (.tmp 93) (.tmp 95) 51 24 (.slice none 0 0) 24 rfl Try.underlying51 info24 rfl T3_ T2_ u681003 x681003_1 t722 [.slice Ao56 t722.length co56] (fun k_=>ne_ k_ (.slice (some ad712) t692.length co22)∧ne_ k_ (.slice Ao33 t704.length co33)∧ne_ k_ (.slice Ao35 t705.length co35)∧ne_ k_ (.slice Ao47 t713.length co47)∧ne_ k_ (.slice Ao52 t716.length co52)) (fun k_=>some k_=(.slice Ao56 t722.length co56:Value).ownBlock) rfl rfl ?aP (fun k_ hk_=>((ja (ok':=fun k_=>((fun k_=>ne_ k_ (.slice (some ad712) t692.length co22)∧ne_ k_ (.slice Ao33 t704.length co33)∧ne_ k_ (.slice Ao35 t705.length co35)∧ne_ k_ (.slice Ao47 t713.length co47)∧ne_ k_ (.slice Ao52 t716.length co52))) k_∧ne_ k_ u681003) (Kd.R_apart' (HO725.out) (Jc HO_681003.out) T3_) (fun k_ hk=>⟨⟨hk.1.1.1.1.1.2,⟨hk.1.1.1.1.2,⟨hk.1.1.1.2,⟨hk.1.1.2,hk.1.2⟩⟩⟩⟩,hk.2⟩))).1 k_ hk_.symm) ?aF ?aO ?aB ?aS ?aL ?_;(case aP=>exact Kd.M_row (ja (Kd.R_tight rfl (ja (ok':=fun k_=>((fun k_=>ne_ k_ (.slice (some ad712) t692.length co22)∧ne_ k_ (.slice Ao33 t704.length co33)∧ne_ k_ (.slice Ao35 t705.length co35)∧ne_ k_ (.slice Ao47 t713.length co47)∧ne_ k_ (.slice Ao52 t716.length co52))) k_∧ne_ k_ u681003) (Kd.R_apart' (HO725.out) (Jc HO_681003.out) T3_) (fun k_ hk=>⟨⟨hk.1.1.1.1.1.2,⟨hk.1.1.1.1.2,⟨hk.1.1.1.2,⟨hk.1.1.2,hk.1.2⟩⟩⟩⟩,hk.2⟩))) (fun _ h_=>h_)));(case aB=>exact T45_);(case aF=>exact(fun k_ hk=>⟨jA (jh (ru_ HO_681000.out)) k_ hk,jA (jh (ru_ HO_681001.out)) k_ hk,jA (jh (ru_ HO_681002.out)) k_ hk,jA (jh (ru_ HO715.out)) k_ hk,jA (jh (ru_ HO720.out)) k_ hk⟩));(case aO=>exact(su_ (jC HO_681003.out (fun k_ hk=>⟨⟨hk.1.1.1.1,⟨hk.1.1.1.2.1,⟨hk.1.1.1.2.2,⟨hk.1.1.2,hk.1.2⟩⟩⟩⟩,fun e_=>hk.2 e_⟩))));(case aS=>exact(jc T45_));(case aL=>have:=LMc44.out;omega);intro v727 w55 ho hb hg hat;rw[←Ny726.out] at ho;have n_:=P14_ (jx (ru_ HO_681000.out) (Jc (su_ HO_681003.out)) T3_ hg) (jx (ru_ HO_681001.out) (Jc (su_ HO_681003.out)) T3_ hg) (jx (ru_ HO_681002.out) (Jc (su_ HO_681003.out)) T3_ hg) (jx (ru_ HO_692000.out) (Jc (su_ HO_681003.out)) T3_ hg) (jx (ru_ HO_692001.out) (Jc (su_ HO_681003.out)) T3_ hg) (Kd.S_over' (su_ HO_692002.out) (Jc (su_ HO_681003.out)) T3_ hg) (Jg (g:=gb679) (o:=.cells #[.slice none 0 0,.slice none 0 0,.slice none 0 0,.slice none 0 0] 63 (0,0)) (bu_ BK679.out) hg (Kd.S_ne HO_681003.out BK679.out T3_)) (Jg (g:=gb680) (o:=.cells #[.slice (some ad712) t692.length co22,.slice Ao33 t704.length co33,.slice Ao35 t705.length co35,u681003] 63 (0,0)) (bu_ BK680.out) hg (Kd.S_ne HO_681003.out BK680.out T3_)) (Jg (g:=gb691) (o:=.cells #[.slice Ao15 t681.length co15,.slice Ao19 t684.length co19,.slice (some ad711) t687.length co20] 55 (0,0)) (bu_ BK691.out) hg (Kd.S_ne HO_681003.out BK691.out T3_)) (jx (ru_ HL711_0.out) (Jc (su_ HO_681003.out)) T3_ hg) (jx (ru_ HO715.out) (Jc (su_ HO_681003.out)) T3_ hg) (jx (ru_ HO720.out) (Jc (su_ HO_681003.out)) T3_ hg) (hb) (ho);clear HO_681000 HO_681001 HO_681002 HO_692000 HO_692001 HO_692002 BK679 BK680 BK691 HL711_0 HO715 HO720 HB HO_681003 HO725;obtain⟨HO_681000,HO_681001,HO_681002,HO_692000,HO_692001,HO_692002,BK679,BK680,BK691,HL711_0,HO715,HO720,HB,HO728⟩:=n_;clear ho hb hg hat;obtain⟨Ao57,co57,eo57⟩:=jT HO728.out;subst eo57;obtain⟨hcz58_0,hcz58_1,hcz58_2,hcz58_3,hfz58_0,hfz58_1,hfz58_2,hfz58_3⟩:=cz4_ BK680.out))
  go_roundg k1
  case measure=>have:=HK1.out;omega
  case rel=>exact⟨(wrap64 (x14_1+1)),(y726),(.slice Ao57 y726.length co57),T10_,H',⟨T7_⟩,⟨ru_ (ja (jd (p:=⟨gb680,3,none⟩) (jr HO_681000.out BK680.out T3_) (fun _ hk=>hk.2) (.slice Ao57 y726.length co57)) (fun _ hk=>⟨hk.1.1.1.1.1,hk.1.1.1.1.2⟩))⟩,⟨ru_ (ja (jd (p:=⟨gb680,3,none⟩) (jr HO_681001.out BK680.out T3_) (fun _ hk=>hk.2) (.slice Ao57 y726.length co57)) (fun _ hk=>⟨hk.1.1.1.1.1,hk.1.1.1.1.2⟩))⟩,⟨ru_ (ja (jd (p:=⟨gb680,3,none⟩) (jr HO_681002.out BK680.out T3_) (fun _ hk=>hk.2) (.slice Ao57 y726.length co57)) (fun _ hk=>⟨hk.1.1.1.1.1,hk.1.1.1.1.2⟩))⟩,⟨su_ (jC (jE (p:=⟨gb680,3,none⟩) (Jb HO728.out BK680.out T3_) (fun _ hk=>hk.2) (.slice Ao57 y726.length co57)) (fun _ hk=>⟨hk.1.1,⟨hk.1.2.1,hk.1.2.2.1⟩⟩))⟩,⟨ru_ (ja (jd (p:=⟨gb680,3,none⟩) (jr HO_692000.out BK680.out T3_) (fun _ hk=>hk.2) (.slice Ao57 y726.length co57)) (fun _ hk=>hk.1))⟩,⟨ru_ (ja (jd (p:=⟨gb680,3,none⟩) (jr HO_692001.out BK680.out T3_) (fun _ hk=>hk.2) (.slice Ao57 y726.length co57)) (fun _ hk=>hk.1))⟩,⟨su_ (jC (jE (p:=⟨gb680,3,none⟩) (Jb HO_692002.out BK680.out T3_) (fun _ hk=>hk.2) (.slice Ao57 y726.length co57)) (fun _ hk=>⟨hk.1.1,hk.1.2⟩))⟩,⟨T24_⟩,⟨(by(with_reducible repeat(first|refine jn ?_ _|refine jl ?_|refine jm ?_ _));refine ju (cs:=#[.slice (some ad712) t692.length co22,.slice Ao33 t704.length co33,.slice Ao35 t705.length co35,u681003]) ?_ 3 _ rfl;exact bu_ BK680.out)⟩,⟨T25_⟩,⟨T45_⟩⟩
def churnref11_Check.l0:Nat→List Int→List Bool→Int→Option (Int)
 | 0,_,_,_=>none
 | k+1,x0,x3,x4=>if x4<(x0.length:Int) then(if 0≤x4 then(if(rd x0 x4)<0 then(some 110) else(if(rd x0 x4) ≥ (x0.length:Int) then(some 110) else(if 0≤(rd x0 x4) then(if(rd x0 x4)<(x3.length:Int) then(if rdOf false x3 (rd x0 x4)=true then(some 110) else(churnref11_Check.l0 k x0 (x3.set ((rd x0 x4):Int).toNat true) (wrap64 (x4+1)))) else(none)) else(none)))) else(none)) else(some 0)
def churnref11_Check.f (k:Nat) (l0:List Int):Option (Int):=if 0≤(l0.length:Int) then(if((l0.length:Int):Int).toNat≤281474976710656 then(churnref11_Check.l0 k l0 (List.replicate ((l0.length:Int):Int).toNat false) 0) else(none)) else(none)
set_option maxHeartbeats 8000000 in
set_option maxRecDepth 100000 in
theorem churnref11_Check.calls (k:Nat) (A0:Option Addr) (c0:Nat) (l0:List Int) (r:Int) (w:World) (hr0:jX (jb .i64) w A0 l0.length l0) (hc0:l0.length≤c0) (h:churnref11_Check.f k l0=some r) :
  Calls Try.prog 25 #[.slice A0 l0.length c0] w fun e w'=>e = .returned (.int .i64 r)∧Below w.heap.size w w':=by
 have HR0:=am_ hr0
 have HC0:=am_ hc0
 clear hr0 hc0
 have HB:=am_ (Below.refl w.heap.size w)
 have H:(if 0≤(l0.length:Int) then(if((l0.length:Int):Int).toNat≤281474976710656 then(churnref11_Check.l0 k l0 (List.replicate ((l0.length:Int):Int).toNat false) 0) else(none)) else(none))=some r:=h
 clear h
 replace H:=ifn_ H;obtain⟨c2,H⟩:=H
 have c2b0:=eq_true c2
 have c2b1:decide (0≤(l0.length:Int))=true:=decide_eq_true c2
 clear c2
 replace H:=ifn_ H;obtain⟨c3,H⟩:=H
 have c3b0:=eq_true c3
 have c3b1:decide (((l0.length:Int):Int).toNat≤281474976710656)=true:=decide_eq_true c3
 clear c3
 obtain⟨y794,hy_⟩:∃ y_:List Bool,y_=(List.replicate ((l0.length:Int):Int).toNat false):=⟨_,rfl⟩
 replace H:(churnref11_Check.l0 k l0 y794 0)=some r:=hyw_
 have Ny794:=am_ hy_
 clear hy_
 have H':=am_ H
 clear H
 go_enter Try.func25,Try.ntmps25
 go_wp2_with(first|(refine gd_ 7 ?_;(try(refine jI T0_ ?_;dsimp only));refine Kd.R_make Kd.bool _ 4 rfl (N:=7) rfl 95 _ _ rfl (l0.length:Int) rfl rfl Try.underlying95 (.bool false) 1 info4 rfl T3_ T2_ false (ok:=fun _=>True) (okp:=fun _=>True) rfl (fun _ hk=>hk) trivial (od_) (Nat.le_trans (Nat.mul_le_mul_right _ (od_:(l0.length:Int).toNat≤281474976710656)) T2_) (Below.refl _ _) (Nat.le_refl _) ?_;intro v795 w4 ho5 hb hg_ hnew_;clear hg_ hnew_;(first|rw[←Ny794.out] at ho5|(simp only[Int.reduceToNat] at ho5;rw[←Ny794.out] at ho5));have n_:=P2_ (jq ho5 (jc T19_)) (jk T19_ hb);clear HB;obtain⟨HO796,HB⟩:=n_;clear hb ho5))
 go_loopg [4] k (fun kq v4 w'=>∃ (x3_1:List Bool) (x4_1:Int),v4 = .int .i64 x4_1∧Aside0 (churnref11_Check.l0 kq l0 x3_1 x4_1=some r)∧Aside0 (kq≤k)∧Aside0 (jt Kd.bool 4 w' w.heap.size (fun _=>True) v795 x3_1)∧Aside0 (Below w.heap.size w w'))
 case atStart=>exact⟨(y794),(0),T10_,H',⟨Nat.le_refl _⟩,⟨ru_ HO796.out⟩,⟨T19_⟩⟩
 clear H'
 (try clear c2);(try clear c2b0 c2b1);(try clear c3);(try clear c3b0 c3b1)
 obtain⟨x3_1,x4_1,rfl,HA,HK1,HO_3,HB⟩:=hrel
 cases gk with
 | zero=>exact absurd HA.out (by simp[churnref11_Check.l0])
 | succ k1 =>
  have H:=HA.out
  clear HA
  simp only[churnref11_Check.l0] at H
  by_cases c6:x4_1<(l0.length:Int)
  rotate_left
  ·rw[if_neg c6] at H
   have c6b0:=decide_eq_false c6
   clear c6
   obtain rfl:=Option.some.inj H
   obtain⟨rfl⟩:=sj1_ H
   go_wp2
   go_ret
   exact⟨T17_,T19_⟩
  rw[if_pos c6] at H
  have c6b0:=decide_eq_true c6
  clear c6
  replace H:=ifn_ H;obtain⟨c7,H⟩:=H
  have c7b0:=decide_eq_true c7
  clear c7
  by_cases c8:(rd l0 x4_1)<0
  ·rw[if_pos c8] at H
   have c8b0:=decide_eq_true c8
   clear c8
   obtain rfl:=Option.some.inj H
   obtain⟨rfl⟩:=sj1_ H
   have p797:0≤(x4_1:Int):=od_
   have q797:x4_1<(l0.length:Int):=od_
   obtain⟨ad797,e797,hx797_0⟩:=jy HR0.out x4_1 p797 q797
   cases e797
   (try(replace hx797_0:=(HB.out.cell (World.block_lt_of_cell? w _ hx797_0)).trans hx797_0))
   replace p797:=eq_true p797
   replace q797:=eq_true q797
   go_wp2
   go_ret
   exact⟨T17_,T19_⟩
  rw[if_neg c8] at H
  have c8b0:=decide_eq_false c8
  clear c8
  by_cases c9:(rd l0 x4_1) ≥ (l0.length:Int)
  ·rw[if_pos c9] at H
   have c9b0:=decide_eq_true c9
   clear c9
   obtain rfl:=Option.some.inj H
   obtain⟨rfl⟩:=sj1_ H
   have p797:0≤(x4_1:Int):=od_
   have q797:x4_1<(l0.length:Int):=od_
   obtain⟨ad797,e797,hx797_0⟩:=jy HR0.out x4_1 p797 q797
   cases e797
   (try(replace hx797_0:=(HB.out.cell (World.block_lt_of_cell? w _ hx797_0)).trans hx797_0))
   replace p797:=eq_true p797
   replace q797:=eq_true q797
   have p798:0≤(x4_1:Int):=od_
   have q798:x4_1<(l0.length:Int):=od_
   obtain⟨ad798,e798,hx798_0⟩:=jy HR0.out x4_1 p798 q798
   obtain rfl:ad797=ad798:=(by injection e798)
   (try(replace hx798_0:=(HB.out.cell (World.block_lt_of_cell? w _ hx798_0)).trans hx798_0))
   replace p798:=eq_true p798
   replace q798:=eq_true q798
   go_wp2
   go_ret
   exact⟨T17_,T19_⟩
  rw[if_neg c9] at H
  have c9b0:=decide_eq_false c9
  clear c9
  replace H:=ifn_ H;obtain⟨c10,H⟩:=H
  have c10b0:=decide_eq_true c10
  clear c10
  replace H:=ifn_ H;obtain⟨c11,H⟩:=H
  have c11b0:=decide_eq_true c11
  clear c11
  obtain⟨bq12,hbq12⟩:∃ b_:Bool,b_=(rdOf false x3_1 (rd l0 x4_1)):=⟨_,rfl⟩
  replace H:(if bq12=true then(some 110) else(churnref11_Check.l0 k1 l0 (x3_1.set ((rd l0 x4_1):Int).toNat true) (wrap64 (x4_1+1))))=some r:=by rw[←hbq12] at H;exact H
  have Nbq12:=am_ hbq12
  clear hbq12
  by_cases c13:bq12=true
  ·subst c13
   have H1:(some 110)=some r:=by rw[if_pos rfl] at H;exact H
   clear H
   have H:=H1
   clear H1
   obtain rfl:=Option.some.inj H
   obtain⟨rfl⟩:=sj1_ H
   have p797:0≤(x4_1:Int):=od_
   have q797:x4_1<(l0.length:Int):=od_
   obtain⟨ad797,e797,hx797_0⟩:=jy HR0.out x4_1 p797 q797
   cases e797
   (try(replace hx797_0:=(HB.out.cell (World.block_lt_of_cell? w _ hx797_0)).trans hx797_0))
   replace p797:=eq_true p797
   replace q797:=eq_true q797
   have p798:0≤(x4_1:Int):=od_
   have q798:x4_1<(l0.length:Int):=od_
   obtain⟨ad798,e798,hx798_0⟩:=jy HR0.out x4_1 p798 q798
   obtain rfl:ad797=ad798:=(by injection e798)
   (try(replace hx798_0:=(HB.out.cell (World.block_lt_of_cell? w _ hx798_0)).trans hx798_0))
   replace p798:=eq_true p798
   replace q798:=eq_true q798
   have p799:0≤(x4_1:Int):=od_
   have q799:x4_1<(l0.length:Int):=od_
   obtain⟨ad799,e799,hx799_0⟩:=jy HR0.out x4_1 p799 q799
   obtain rfl:ad797=ad799:=(by injection e799)
   (try(replace hx799_0:=(HB.out.cell (World.block_lt_of_cell? w _ hx799_0)).trans hx799_0))
   replace p799:=eq_true p799
   replace q799:=eq_true q799
   obtain⟨Ao14,co14,eo14⟩:=jp HO_3.out
   subst eo14
   have p800:0≤((rd l0 x4_1):Int):=od_
   have q800:(rd l0 x4_1)<(x3_1.length:Int):=od_
   obtain⟨ad800,e800,hx800_0⟩:=Kd.at_bool (ji HO_3.out).2.2 (rd l0 x4_1) p800 q800
   (try rw[←Nbq12.out] at hx800_0)
   cases e800
   replace p800:=eq_true p800
   replace q800:=eq_true q800
   go_wp2
   go_ret
   exact⟨T17_,T19_⟩
  replace c13:=Bool.eq_false_iff.mpr c13
  subst c13
  have H1:(churnref11_Check.l0 k1 l0 (x3_1.set ((rd l0 x4_1):Int).toNat true) (wrap64 (x4_1+1)))=some r:=by rw[if_neg (show ¬ (false=true) by decide)] at H;exact H
  clear H
  have H:=H1
  clear H1
  obtain⟨y802,hy_⟩:∃ y_:List Bool,y_=(x3_1.set ((rd l0 x4_1):Int).toNat true):=⟨_,rfl⟩
  replace H:(churnref11_Check.l0 k1 l0 y802 (wrap64 (x4_1+1)))=some r:=hyw_
  have Ny802:=am_ hy_
  clear hy_
  have H':=am_ H
  clear H
  have p797:0≤(x4_1:Int):=od_
  have q797:x4_1<(l0.length:Int):=od_
  obtain⟨ad797,e797,hx797_0⟩:=jy HR0.out x4_1 p797 q797
  cases e797
  (try(replace hx797_0:=(HB.out.cell (World.block_lt_of_cell? w _ hx797_0)).trans hx797_0))
  replace p797:=eq_true p797
  replace q797:=eq_true q797
  have p798:0≤(x4_1:Int):=od_
  have q798:x4_1<(l0.length:Int):=od_
  obtain⟨ad798,e798,hx798_0⟩:=jy HR0.out x4_1 p798 q798
  obtain rfl:ad797=ad798:=(by injection e798)
  (try(replace hx798_0:=(HB.out.cell (World.block_lt_of_cell? w _ hx798_0)).trans hx798_0))
  replace p798:=eq_true p798
  replace q798:=eq_true q798
  have p799:0≤(x4_1:Int):=od_
  have q799:x4_1<(l0.length:Int):=od_
  obtain⟨ad799,e799,hx799_0⟩:=jy HR0.out x4_1 p799 q799
  obtain rfl:ad797=ad799:=(by injection e799)
  (try(replace hx799_0:=(HB.out.cell (World.block_lt_of_cell? w _ hx799_0)).trans hx799_0))
  replace p799:=eq_true p799
  replace q799:=eq_true q799
  obtain⟨Ao16,co16,eo16⟩:=jp HO_3.out
  subst eo16
  have p800:0≤((rd l0 x4_1):Int):=od_
  have q800:(rd l0 x4_1)<(x3_1.length:Int):=od_
  obtain⟨ad800,e800,hx800_0⟩:=Kd.at_bool (ji HO_3.out).2.2 (rd l0 x4_1) p800 q800
  (try rw[←Nbq12.out] at hx800_0)
  cases e800
  replace p800:=eq_true p800
  replace q800:=eq_true q800
  have p801:0≤(x4_1:Int):=od_
  have q801:x4_1<(l0.length:Int):=od_
  obtain⟨ad801,e801,hx801_0⟩:=jy HR0.out x4_1 p801 q801
  obtain rfl:ad797=ad801:=(by injection e801)
  (try(replace hx801_0:=(HB.out.cell (World.block_lt_of_cell? w _ hx801_0)).trans hx801_0))
  replace p801:=eq_true p801
  replace q801:=eq_true q801
  have p15:0≤((rd l0 x4_1):Int):=od_
  have q15:((rd l0 x4_1):Int)<((x3_1.length:Int):Int):=od_
  obtain⟨go15,co15,eo15,gb15,gl15,cl15,HG15⟩:=Kd.R_form HO_3.out T2_
  (first|cases eo15|(injection eo15 with ea_ en_ ec_;(first|subst ea_|(injection ea_ with ea_;subst ea_));subst ec_;clear en_))
  have GB15:=am_ gb15
  have GG15:=am_ HG15
  clear gb15 gl15 HG15
  (first|simp only[jW] at hx800_0|skip)
  obtain⟨hx15_0,hf15_0⟩:=jH false HO_3.out ((rd l0 x4_1):Int) p15 q15
  replace p15:=eq_true p15
  replace q15:=eq_true q15
  have HP17:=Kd.R_putg HO_3.out ((rd l0 x4_1):Int) true
  go_wp2_with(first|(refine gs_ 4 42 ?_;refine sv_ 4 42 (wr.setCell ⟨go15,((rd l0 x4_1):Int).toNat,none⟩ (.bool true)) ?_;intro w18 hw;have hg:wr.grownBy w18 (some go15):=(by rw[hw];exact HP17.2);have hp_:jt Kd.bool 4 w18 w.heap.size (fun _=>True) (.slice (some ⟨go15,0,none⟩) x3_1.length co16) y802:=(by rw[hw,Ny802.out];exact HP17.1);clear HP17;have n_:=P2_ (hp_) ((by rw[hw];exact jO (HB.out) GB15.out:Below w.heap.size w w18));clear HO_3 HB;obtain⟨HO_3,HB⟩:=n_;clear hg hw hp_))
  go_roundg k1
  case measure=>have:=HK1.out;omega
  case rel=>exact⟨(y802),(wrap64 (x4_1+1)),T10_,H',⟨T7_⟩,⟨ru_ HO_3.out⟩,⟨T19_⟩⟩
mutual
def churnref12_Draws.j0:Nat→List Int→List Int→List Int→Int→Bool→Option (List Int×Int)
 | 0,_,_,_,_,_=>none
 | k+1,x0,x1,x2,x8,x34=>if x34=true then(some (([]:List Int),2)) else(churnref12_Draws.l0 k x0 x1 x2 x8 ([]:List Int) ([]:List Int) 0 0)
def churnref12_Draws.l0:Nat→List Int→List Int→List Int→Int→List Int→List Int→Int→Int→Option (List Int×Int)
 | 0,_,_,_,_,_,_,_,_=>none
 | k+1,x0,x1,x2,x8,x9,x10,x11,x12=>if x12<(x0.length:Int) then(if 0≤x12 then(if x9.length<17592186044416 then(if x10.length<17592186044416 then(churnref12_Draws.l0 k x0 x1 x2 x8 (x9 ++ [rd x0 x12]) (x10 ++ [x11]) (wrap64 (x11+(rd x0 x12))) (wrap64 (x12+1))) else(none)) else(none)) else(none)) else(churnref12_Draws.l1 k x0 x1 x2 x8 x9 x10 ([]:List Int) 0)
def churnref12_Draws.l1:Nat→List Int→List Int→List Int→Int→List Int→List Int→List Int→Int→Option (List Int×Int)
 | 0,_,_,_,_,_,_,_,_=>none
 | k+1,x0,x1,x2,x8,x9,x10,x13,x14=>if x14<x8 then(if 0≤x14 then(if x14<(x1.length:Int) then(if(rd x1 x14)<0 then(churnref12_Draws.j3 k x0 x1 x2 x8 x9 x10 x13 x14 (rd x1 x14) true) else(if(rd x1 x14) ≥ (x0.length:Int) then(churnref12_Draws.j3 k x0 x1 x2 x8 x9 x10 x13 x14 (rd x1 x14) true) else(if 0≤(rd x1 x14) then(if(rd x1 x14)<(x9.length:Int) then(churnref12_Draws.j3 k x0 x1 x2 x8 x9 x10 x13 x14 (rd x1 x14) ((rd x9 (rd x1 x14)) == 0)) else(none)) else(none)))) else(none)) else(none)) else(some (x13,0))
def churnref12_Draws.j3:Nat→List Int→List Int→List Int→Int→List Int→List Int→List Int→Int→Int→Bool→Option (List Int×Int)
 | 0,_,_,_,_,_,_,_,_,_,_=>none
 | k+1,x0,x1,x2,x8,x9,x10,x13,x14,x15,x81=>if x81=true then(some (([]:List Int),2)) else(if 0≤x15 then(if x15<(x10.length:Int) then(if 0≤(rd x10 x15) then(if(rd x10 x15)<(x2.length:Int) then(if(rd x2 (rd x10 x15))<0 then(churnref12_Draws.j4 k x0 x1 x2 x8 x9 x10 x13 x14 x15 (rd x2 (rd x10 x15)) true) else(if x15<(x9.length:Int) then(churnref12_Draws.j4 k x0 x1 x2 x8 x9 x10 x13 x14 x15 (rd x2 (rd x10 x15)) (decide ((rd x2 (rd x10 x15)) ≥ (rd x9 x15)))) else(none))) else(none)) else(none)) else(none)) else(none))
def churnref12_Draws.j4:Nat→List Int→List Int→List Int→Int→List Int→List Int→List Int→Int→Int→Int→Bool→Option (List Int×Int)
 | 0,_,_,_,_,_,_,_,_,_,_,_=>none
 | k+1,x0,x1,x2,x8,x9,x10,x13,x14,x15,x16,x98=>if x98=true then(some (([]:List Int),2)) else(churnref12_Draws.l2 k x0 x1 x2 x8 x9 x10 x13 x14 x15 x16 0)
def churnref12_Draws.l2:Nat→List Int→List Int→List Int→Int→List Int→List Int→List Int→Int→Int→Int→Int→Option (List Int×Int)
 | 0,_,_,_,_,_,_,_,_,_,_,_=>none
 | k+1,x0,x1,x2,x8,x9,x10,x13,x14,x15,x17,x18=>if x18<x15 then(if 0≤x18 then(if x18<(x9.length:Int) then(churnref12_Draws.l2 k x0 x1 x2 x8 x9 x10 x13 x14 x15 (wrap64 (x17+(rd x9 x18))) (wrap64 (x18+1))) else(none)) else(none)) else(if x13.length<17592186044416 then(if 0≤x15 then(if x15<(x9.length:Int) then(if x15<(x10.length:Int) then(churnref12_Draws.l1 k x0 x1 x2 x8 (x9.set (x15:Int).toNat (wrap64 ((rd x9 x15)-1))) (x10.set (x15:Int).toNat (wrap64 ((rd x10 x15)+1))) (x13 ++ [x17]) (wrap64 (x14+1))) else(none)) else(none)) else(none)) else(none))
end
def churnref12_Draws.f (k:Nat) (l0:List Int) (l1:List Int) (l2:List Int):Option (List Int×Int):=(churnref12_total.f k l0).bind fun t803=>(if t803<0 then(churnref12_Draws.j0 k l0 l1 l2 t803 true) else(if(l1.length:Int)=t803 then(churnref12_Draws.j0 k l0 l1 l2 t803 ((l2.length:Int) != t803)) else(churnref12_Draws.j0 k l0 l1 l2 t803 true)))
set_option maxHeartbeats 8000000 in
set_option maxRecDepth 100000 in
theorem churnref12_Draws.calls (k:Nat) (A0:Option Addr) (c0:Nat) (l0:List Int) (A1:Option Addr) (c1:Nat) (l1:List Int) (A2:Option Addr) (c2:Nat) (l2:List Int) (r1:List Int) (r2:Int) (w:World) (hr0:jX (jb .i64) w A0 l0.length l0) (hc0:l0.length≤c0) (hr1:jX (jb .i64) w A1 l1.length l1) (hc1:l1.length≤c1) (hr2:jX (jb .i64) w A2 l2.length l2) (hc2:l2.length≤c2) (h:churnref12_Draws.f k l0 l1 l2=some (r1,r2)) :
  Calls Try.prog 27 #[.slice A0 l0.length c0,.slice A1 l1.length c1,.slice A2 l2.length c2] w fun e w'=>∃ v0_:Value,e = .returned (.tuple #[v0_,.int .i64 r2])∧jt (jb .i64) 3 w' w.heap.size (fun _=>True) v0_ r1∧Below w.heap.size w w':=by
 have HR0:=am_ hr0
 have HC0:=am_ hc0
 clear hr0 hc0
 have HR1:=am_ hr1
 have HC1:=am_ hc1
 clear hr1 hc1
 have HR2:=am_ hr2
 have HC2:=am_ hc2
 clear hr2 hc2
 have HB:=am_ (Below.refl w.heap.size w)
 have H:((churnref12_total.f k l0).bind fun t803=>(if t803<0 then(churnref12_Draws.j0 k l0 l1 l2 t803 true) else(if(l1.length:Int)=t803 then(churnref12_Draws.j0 k l0 l1 l2 t803 ((l2.length:Int) != t803)) else(churnref12_Draws.j0 k l0 l1 l2 t803 true))))=some (r1,r2):=h
 clear h
 replace H:=Option.bind_eq_some_iff.mp H
 obtain⟨t803,A40,H⟩:=H
 try dsimp only at H
 have A4:=am_ A40
 clear A40
 have HC5:=am_ H
 clear H
 go_enter Try.func27,Try.ntmps27
 go_upto_region 2 with(first|(refine gc_ 51 ?_;refine gl_ (some 20) Try.func51 #[.slice A0 l0.length c0] ?_;(with_reducible refine(churnref12_total.calls k _ _ l0 t803 _ ?side1 ?side2 A4.out).mono ?_);(case side1=>exact cu_ HR0.out);(case side2=>exact HC0.out);rintro e w' ⟨rfl,⟨nd,rfl⟩⟩;refine⟨_,rfl,?_⟩))
 (try simp only[Act.put,List.setIfInBounds_toArray,List.set_cons_zero,List.set_cons_succ])
 go_cut [34] (fun v34 wc=>∃ (kq:Nat) (x34_4:Bool),v34 = .bool x34_4∧Aside0 (churnref12_Draws.j0 kq l0 l1 l2 t803 x34_4=some (r1,r2))∧Aside0 (kq≤k)∧Aside0 (Below w.heap.size w wc))
 case first =>
  have H:=HC5.out
  clear HC5
  by_cases c6:t803<0
  ·rw[if_pos c6] at H
   have c6b0:=decide_eq_true c6
   clear c6
   (first|rw[c6b0]|(simp only[jF,jG];rw[c6b0])|skip)
   have H':=am_ H
   clear H
   go_wp2
   go_meet
   case rel=>exact⟨_,(true),T10_,H',⟨T8_⟩,⟨T19_⟩⟩
  rw[if_neg c6] at H
  have c6b0:=decide_eq_false c6
  clear c6
  (first|rw[c6b0]|(simp only[jF,jG];rw[c6b0])|skip)
  by_cases c7:(l1.length:Int)=t803
  rotate_left
  ·rw[if_neg c7] at H
   obtain⟨c7b0,c7b1⟩:=en_ c7
   have H':=am_ H
   clear H
   go_wp2
   go_meet
   case rel=>exact⟨_,(true),T10_,H',⟨T8_⟩,⟨T19_⟩⟩
  rw[if_pos c7] at H
  obtain⟨c7b0,c7b1⟩:=ep_ c7
  clear c7
  have H':=am_ H
  clear H
  go_wp2
  go_meet
  case rel=>exact⟨_,(((l2.length:Int) != t803)),T10_,H',⟨T8_⟩,⟨T19_⟩⟩
 clear HC5
 obtain⟨kq,x34_4,rfl,HA,HJ4,HB⟩:=hcut
 cases kq with
 | zero=>exact absurd HA.out (by simp[churnref12_Draws.j0])
 | succ kj4 =>
  have H:=HA.out
  clear HA
  simp only[churnref12_Draws.j0] at H
  by_cases c8:x34_4=true
  ·subst c8
   have H1:(some (([]:List Int),2))=some (r1,r2):=by rw[if_pos rfl] at H;exact H
   clear H
   have H:=H1
   clear H1
   obtain⟨rfl,rfl⟩:=sj2_ H
   go_wp2
   go_ret2
   exact⟨_,T17_,T21_,T19_⟩
  replace c8:=Bool.eq_false_iff.mpr c8
  subst c8
  have H1:(churnref12_Draws.l0 kj4 l0 l1 l2 t803 ([]:List Int) ([]:List Int) 0 0)=some (r1,r2):=by rw[if_neg (show ¬ (false=true) by decide)] at H;exact H
  clear H
  have H:=H1
  clear H1
  have H':=am_ H
  clear H
  go_wp2
  go_loopg [9,10,11,12] kj4 (fun kq v9 v10 v11 v12 w'=>∃ (x9_2:List Int) (x10_2:List Int) (x11_2:Int) (x12_2:Int),v11 = .int .i64 x11_2∧v12 = .int .i64 x12_2∧Aside0 (churnref12_Draws.l0 kq l0 l1 l2 t803 x9_2 x10_2 x11_2 x12_2=some (r1,r2))∧Aside0 (kq≤kj4)∧Aside0 (jt (jb .i64) 3 w' w.heap.size (fun k_=>ne_ k_ v10) v9 x9_2)∧Aside0 (jt (jb .i64) 3 w' w.heap.size (fun k_=>ne_ k_ v9) v10 x10_2)∧Aside0 (Below w.heap.size w w'))
  case atStart=>exact⟨(([]:List Int)),(([]:List Int)),(0),(0),T10_,T10_,H',⟨Nat.le_refl _⟩,⟨T21_⟩,⟨T21_⟩,⟨T19_⟩⟩
  clear H'
  (try clear c8)
  obtain⟨x9_2,x10_2,x11_2,x12_2,rfl,rfl,HA,HK2,HO_9,HO_10,HB⟩:=hrel
  cases gk with
  | zero=>exact absurd HA.out (by simp[churnref12_Draws.l0])
  | succ k2 =>
   have H:=HA.out
   clear HA
   simp only[churnref12_Draws.l0] at H
   by_cases c9:x12_2<(l0.length:Int)
   ·rw[if_pos c9] at H
    have c9b0:=decide_eq_true c9
    clear c9
    replace H:=ifn_ H;obtain⟨c10,H⟩:=H
    have c10b0:=decide_eq_true c10
    clear c10
    replace H:=ifa_ H;obtain⟨LMc11,H⟩:=H
    obtain⟨y805,hy_⟩:∃ y_:List Int,y_=(x9_2 ++ [rd l0 x12_2]):=⟨_,rfl⟩
    replace H:(if x10_2.length<17592186044416 then(churnref12_Draws.l0 k2 l0 l1 l2 t803 y805 (x10_2 ++ [x11_2]) (wrap64 (x11_2+(rd l0 x12_2))) (wrap64 (x12_2+1))) else(none))=some (r1,r2):=hyw_
    have Ny805:=am_ hy_
    clear hy_
    replace H:=ifa_ H;obtain⟨LMc12,H⟩:=H
    obtain⟨y808,hy_⟩:∃ y_:List Int,y_=(x10_2 ++ [x11_2]):=⟨_,rfl⟩
    replace H:(churnref12_Draws.l0 k2 l0 l1 l2 t803 y805 y808 (wrap64 (x11_2+(rd l0 x12_2))) (wrap64 (x12_2+1)))=some (r1,r2):=hyw_
    have Ny808:=am_ hy_
    clear hy_
    have H':=am_ H
    clear H
    have p804:0≤(x12_2:Int):=od_
    have q804:x12_2<(l0.length:Int):=od_
    obtain⟨ad804,e804,hx804_0⟩:=jy HR0.out x12_2 p804 q804
    cases e804
    (try(replace hx804_0:=(HB.out.cell (World.block_lt_of_cell? w _ hx804_0)).trans hx804_0))
    replace p804:=eq_true p804
    replace q804:=eq_true q804
    go_wp2_with(first|(refine gb_ .append #[.tmp 41,.tmp 46] ?_;(try(refine jI T0_ ?_;dsimp only));at_builtin;refine Jd (jb .i64) (w0:=w) w.heap.size rfl (.tmp 41) (.tmp 46) 24 3 (.int .i64 0) 8 rfl Try.underlying24 info3 rfl T3_ T2_ u9 x9_2 (rd l0 x12_2) [.int .i64 (rd l0 x12_2)] (fun k_=>ne_ k_ u10) (fun _=>False) rfl rfl ?aP (fun _ hk=>hk.elim) ?aF ?aO ?aB ?aS ?aL ?_;(case aP=>exact rfl);(case aB=>exact T19_);(case aF=>exact(fun k_ hk=>jA (jh (ru_ HO_10.out)) k_ hk));(case aO=>exact(ru_ HO_9.out));(case aS=>exact(jc T19_));(case aL=>have:=LMc11.out;omega);intro v806 w13 ho hb hg hat;rw[←Ny805.out] at ho;have n_:=P3_ (jv (ok:=(fun _=>True)) (ru_ (ja HO_10.out (fun _ hk=>⟨trivial,hk⟩))) hg hat) (hb) (ho);clear HO_10 HB HO_9;obtain⟨HO_10,HB,HO807⟩:=n_;clear ho hb hg hat)|(refine gb_ .append #[.tmp 48,.tmp 50] ?_;(try(refine jI T0_ ?_;dsimp only));at_builtin;refine Jd (jb .i64) (w0:=w) w.heap.size rfl (.tmp 48) (.tmp 50) 24 3 (.int .i64 0) 8 rfl Try.underlying24 info3 rfl T3_ T2_ u10 x10_2 x11_2 [.int .i64 x11_2] (fun k_=>ne_ k_ v806) (fun _=>False) rfl rfl ?aP (fun _ hk=>hk.elim) ?aF ?aO ?aB ?aS ?aL ?_;(case aP=>exact rfl);(case aB=>exact T19_);(case aF=>exact(fun k_ hk=>jA (jh (ru_ HO807.out)) k_ hk));(case aO=>exact(ru_ (ja HO_10.out (fun _ hk=>hk.2))));(case aS=>exact(jc T19_));(case aL=>have:=LMc12.out;omega);intro v809 w14 ho hb hg hat;rw[←Ny808.out] at ho;have n_:=P3_ (jv (ok:=(fun _=>True)) (ru_ (ja HO807.out (fun _ hk=>⟨trivial,hk⟩))) hg hat) (hb) (ho);clear HO807 HB HO_10;obtain⟨HO807,HB,HO810⟩:=n_;clear ho hb hg hat;have p811:0≤(x12_2:Int):=od_;have q811:x12_2<(l0.length:Int):=od_;obtain⟨ad811,e811,hx811_0⟩:=jy HR0.out x12_2 p811 q811;obtain rfl:ad804=ad811:=(by injection e811);replace hx811_0:=(HB.out.cell (World.block_lt_of_cell? w _ hx811_0)).trans hx811_0;replace p811:=eq_true p811;replace q811:=eq_true q811))
    go_roundg k2
    case measure=>have:=HJ4.out;have:=HK2.out;omega
    case rel=>exact⟨(y805),(y808),(wrap64 (x11_2+(rd l0 x12_2))),(wrap64 (x12_2+1)),T10_,T10_,H',⟨(by have:=HJ4.out;have:=HK2.out;omega)⟩,⟨ru_ (ja HO807.out (fun _ hk=>hk.2))⟩,⟨ru_ HO810.out⟩,⟨T19_⟩⟩
   rw[if_neg c9] at H
   have c9b0:=decide_eq_false c9
   clear c9
   have H':=am_ H
   clear H
   go_wp2
   go_loopg [13,14] k2 (fun kq v13 v14 w'=>∃ (x9_3:List Int) (x10_3:List Int) (x13_3:List Int) (x14_3:Int),v14 = .int .i64 x14_3∧Aside0 (churnref12_Draws.l1 kq l0 l1 l2 t803 x9_3 x10_3 x13_3 x14_3=some (r1,r2))∧Aside0 (kq≤k2)∧Aside0 (jt (jb .i64) 3 w' w.heap.size (fun k_=>ne_ k_ u10∧ne_ k_ v13) u9 x9_3)∧Aside0 (jt (jb .i64) 3 w' w.heap.size (fun k_=>ne_ k_ u9∧ne_ k_ v13) u10 x10_3)∧Aside0 (jt (jb .i64) 3 w' w.heap.size (fun k_=>ne_ k_ u9∧ne_ k_ u10) v13 x13_3)∧Aside0 (Below w.heap.size w w'))
   case atStart=>exact⟨(x9_2),(x10_2),(([]:List Int)),(0),T10_,H',⟨Nat.le_refl _⟩,⟨ru_ (ja HO_9.out (fun _ hk=>⟨hk,T6_⟩))⟩,⟨ru_ (ja HO_10.out (fun _ hk=>⟨hk,T6_⟩))⟩,⟨T21_⟩,⟨T19_⟩⟩
   clear H'
   (try clear c8);(try clear c9);(try clear c9b0)
   obtain⟨x9_3,x10_3,x13_3,x14_3,rfl,HA,HK3,HO_9,HO_10,HO_13,HB⟩:=hrel
   cases gk with
   | zero=>exact absurd HA.out (by simp[churnref12_Draws.l1])
   | succ k3 =>
    have H:=HA.out
    clear HA
    simp only[churnref12_Draws.l1] at H
    by_cases c15:x14_3<t803
    rotate_left
    ·rw[if_neg c15] at H
     have c15b0:=decide_eq_false c15
     clear c15
     obtain⟨rfl,rfl⟩:=sj2_ H
     go_wp2
     go_ret2
     exact⟨_,T17_,ru_ (ja HO_13.out (fun _ hk=>trivial)),T19_⟩
    rw[if_pos c15] at H
    have c15b0:=decide_eq_true c15
    clear c15
    replace H:=ifn_ H;obtain⟨c16,H⟩:=H
    have c16b0:=decide_eq_true c16
    clear c16
    replace H:=ifn_ H;obtain⟨c17,H⟩:=H
    have c17b0:=decide_eq_true c17
    clear c17
    have HC18:=am_ H
    clear H
    have p812:0≤(x14_3:Int):=od_
    have q812:x14_3<(l1.length:Int):=od_
    obtain⟨ad812,e812,hx812_0⟩:=jy HR1.out x14_3 p812 q812
    cases e812
    (try(replace hx812_0:=(HB.out.cell (World.block_lt_of_cell? w _ hx812_0)).trans hx812_0))
    replace p812:=eq_true p812
    replace q812:=eq_true q812
    go_upto_region 17 with(fail)
    go_cut [81] (fun v81 wc=>∃ (kq:Nat) (x81_17:Bool),v81 = .bool x81_17∧Aside0 (churnref12_Draws.j3 kq l0 l1 l2 t803 x9_3 x10_3 x13_3 x14_3 (rd l1 x14_3) x81_17=some (r1,r2))∧Aside0 (kq≤k3)∧Aside0 (jt (jb .i64) 3 wc w.heap.size (fun k_=>ne_ k_ u10∧ne_ k_ u13) u9 x9_3)∧Aside0 (jt (jb .i64) 3 wc w.heap.size (fun k_=>ne_ k_ u9∧ne_ k_ u13) u10 x10_3)∧Aside0 (jt (jb .i64) 3 wc w.heap.size (fun k_=>ne_ k_ u9∧ne_ k_ u10) u13 x13_3)∧Aside0 (Below w.heap.size w wc))
    case first =>
     have H:=HC18.out
     clear HC18
     by_cases c19:(rd l1 x14_3)<0
     ·rw[if_pos c19] at H
      have c19b0:=decide_eq_true c19
      clear c19
      (first|rw[c19b0]|(simp only[jF,jG];rw[c19b0])|skip)
      have H':=am_ H
      clear H
      go_wp2
      go_meet
      case rel=>exact⟨_,(true),T10_,H',⟨T16_⟩,⟨ru_ HO_9.out⟩,⟨ru_ HO_10.out⟩,⟨ru_ HO_13.out⟩,⟨T19_⟩⟩
     rw[if_neg c19] at H
     have c19b0:=decide_eq_false c19
     clear c19
     (first|rw[c19b0]|(simp only[jF,jG];rw[c19b0])|skip)
     by_cases c20:(rd l1 x14_3) ≥ (l0.length:Int)
     ·rw[if_pos c20] at H
      have c20b0:=decide_eq_true c20
      clear c20
      have H':=am_ H
      clear H
      go_wp2
      go_meet
      case rel=>exact⟨_,(true),T10_,H',⟨T16_⟩,⟨ru_ HO_9.out⟩,⟨ru_ HO_10.out⟩,⟨ru_ HO_13.out⟩,⟨T19_⟩⟩
     rw[if_neg c20] at H
     have c20b0:=decide_eq_false c20
     clear c20
     replace H:=ifn_ H;obtain⟨c21,H⟩:=H
     have c21b0:=decide_eq_true c21
     clear c21
     replace H:=ifn_ H;obtain⟨c22,H⟩:=H
     have c22b0:=decide_eq_true c22
     clear c22
     have H':=am_ H
     clear H
     obtain⟨Ao23,co23,eo23⟩:=jp HO_9.out
     subst eo23
     obtain⟨ad813,e813,hx813_0,p813,q813⟩:=ai_ (ji HO_9.out).2.2 (rd l1 x14_3)
     cases e813
     go_wp2
     go_meet
     case rel=>exact⟨_,(((rd x9_3 (rd l1 x14_3)) == 0)),T10_,H',⟨T16_⟩,⟨ru_ HO_9.out⟩,⟨ru_ HO_10.out⟩,⟨ru_ HO_13.out⟩,⟨T19_⟩⟩
    clear HC18
    (try clear c8);(try clear c9);(try clear c9b0);(try clear c15);(try clear c15b0);(try clear c16);(try clear c16b0);(try clear c17);(try clear c17b0);(try clear hx812_0);(try clear p812 q812)
    obtain⟨kq,x81_17,rfl,HA,HJ17,HO_9,HO_10,HO_13,HB⟩:=hcut
    cases kq with
    | zero=>exact absurd HA.out (by simp[churnref12_Draws.j3])
    | succ kj17 =>
     have H:=HA.out
     clear HA
     simp only[churnref12_Draws.j3] at H
     by_cases c24:x81_17=true
     ·subst c24
      have H1:(some (([]:List Int),2))=some (r1,r2):=by rw[if_pos rfl] at H;exact H
      clear H
      have H:=H1
      clear H1
      obtain⟨rfl,rfl⟩:=sj2_ H
      go_wp2
      go_ret2
      exact⟨_,T17_,T21_,T19_⟩
     replace c24:=Bool.eq_false_iff.mpr c24
     subst c24
     have H1:(if 0≤(rd l1 x14_3) then(if(rd l1 x14_3)<(x10_3.length:Int) then(if 0≤(rd x10_3 (rd l1 x14_3)) then(if(rd x10_3 (rd l1 x14_3))<(l2.length:Int) then(if(rd l2 (rd x10_3 (rd l1 x14_3)))<0 then(churnref12_Draws.j4 kj17 l0 l1 l2 t803 x9_3 x10_3 x13_3 x14_3 (rd l1 x14_3) (rd l2 (rd x10_3 (rd l1 x14_3))) true) else(if(rd l1 x14_3)<(x9_3.length:Int) then(churnref12_Draws.j4 kj17 l0 l1 l2 t803 x9_3 x10_3 x13_3 x14_3 (rd l1 x14_3) (rd l2 (rd x10_3 (rd l1 x14_3))) (decide ((rd l2 (rd x10_3 (rd l1 x14_3))) ≥ (rd x9_3 (rd l1 x14_3))))) else(none))) else(none)) else(none)) else(none)) else(none))=some (r1,r2):=by rw[if_neg (show ¬ (false=true) by decide)] at H;exact H
     clear H
     have H:=H1
     clear H1
     replace H:=ifn_ H;obtain⟨c25,H⟩:=H
     have c25b0:=decide_eq_true c25
     clear c25
     replace H:=ifn_ H;obtain⟨c26,H⟩:=H
     have c26b0:=decide_eq_true c26
     clear c26
     replace H:=ifn_ H;obtain⟨c27,H⟩:=H
     have c27b0:=decide_eq_true c27
     clear c27
     replace H:=ifn_ H;obtain⟨c28,H⟩:=H
     have c28b0:=decide_eq_true c28
     clear c28
     have HC29:=am_ H
     clear H
     obtain⟨Ao30,co30,eo30⟩:=jp HO_10.out
     subst eo30
     obtain⟨ad814,e814,hx814_0,p814,q814⟩:=ai_ (ji HO_10.out).2.2 (rd l1 x14_3)
     cases e814
     have p815:0≤((rd x10_3 (rd l1 x14_3)):Int):=od_
     have q815:(rd x10_3 (rd l1 x14_3))<(l2.length:Int):=od_
     obtain⟨ad815,e815,hx815_0⟩:=jy HR2.out (rd x10_3 (rd l1 x14_3)) p815 q815
     cases e815
     (try(replace hx815_0:=(HB.out.cell (World.block_lt_of_cell? w _ hx815_0)).trans hx815_0))
     replace p815:=eq_true p815
     replace q815:=eq_true q815
     go_upto_region 20 with(fail)
     go_cut [98] (fun v98 wc=>∃ (kq:Nat) (x98_28:Bool),v98 = .bool x98_28∧Aside0 (churnref12_Draws.j4 kq l0 l1 l2 t803 x9_3 x10_3 x13_3 x14_3 (rd l1 x14_3) (rd l2 (rd x10_3 (rd l1 x14_3))) x98_28=some (r1,r2))∧Aside0 (kq≤kj17)∧Aside0 (jt (jb .i64) 3 wc w.heap.size (fun k_=>ne_ k_ (.slice (some ad814) x10_3.length co30)∧ne_ k_ u13) u9 x9_3)∧Aside0 (jt (jb .i64) 3 wc w.heap.size (fun k_=>ne_ k_ u9∧ne_ k_ u13) (.slice (some ad814) x10_3.length co30) x10_3)∧Aside0 (jt (jb .i64) 3 wc w.heap.size (fun k_=>ne_ k_ u9∧ne_ k_ (.slice (some ad814) x10_3.length co30)) u13 x13_3)∧Aside0 (Below w.heap.size w wc))
     case first =>
      have H:=HC29.out
      clear HC29
      by_cases c31:(rd l2 (rd x10_3 (rd l1 x14_3)))<0
      ·rw[if_pos c31] at H
       have c31b0:=decide_eq_true c31
       clear c31
       (first|rw[c31b0]|(simp only[jF,jG];rw[c31b0])|skip)
       have H':=am_ H
       clear H
       go_wp2
       go_meet
       case rel=>exact⟨_,(true),T10_,H',⟨(by have:=HJ4.out;have:=HK2.out;have:=HK3.out;have:=HJ17.out;first|omega|exact Nat.le_refl _)⟩,⟨ru_ HO_9.out⟩,⟨ru_ HO_10.out⟩,⟨ru_ HO_13.out⟩,⟨T19_⟩⟩
      rw[if_neg c31] at H
      have c31b0:=decide_eq_false c31
      clear c31
      (first|rw[c31b0]|(simp only[jF,jG];rw[c31b0])|skip)
      replace H:=ifn_ H;obtain⟨c32,H⟩:=H
      have c32b0:=decide_eq_true c32
      clear c32
      have H':=am_ H
      clear H
      obtain⟨Ao33,co33,eo33⟩:=jp HO_9.out
      subst eo33
      obtain⟨ad816,e816,hx816_0,p816,q816⟩:=ai_ (ji HO_9.out).2.2 (rd l1 x14_3)
      cases e816
      go_wp2
      go_meet
      case rel=>exact⟨_,(decide ((rd l2 (rd x10_3 (rd l1 x14_3))) ≥ (rd x9_3 (rd l1 x14_3)))),T10_,H',⟨(by have:=HJ4.out;have:=HK2.out;have:=HK3.out;have:=HJ17.out;first|omega|exact Nat.le_refl _)⟩,⟨ru_ HO_9.out⟩,⟨ru_ HO_10.out⟩,⟨ru_ HO_13.out⟩,⟨T19_⟩⟩
     clear HC29
     (try clear c8);(try clear c9);(try clear c9b0);(try clear c15);(try clear c15b0);(try clear c16);(try clear c16b0);(try clear c17);(try clear c17b0);(try clear c24);(try clear c25);(try clear c25b0);(try clear c26);(try clear c26b0);(try clear c27);(try clear c27b0);(try clear c28);(try clear c28b0);(try clear hx812_0);(try clear hx814_0);(try clear hx815_0);(try clear p812 q812);(try clear p814 q814);(try clear p815 q815)
     obtain⟨kq,x98_28,rfl,HA,HJ28,HO_9,HO_10,HO_13,HB⟩:=hcut
     cases kq with
     | zero=>exact absurd HA.out (by simp[churnref12_Draws.j4])
     | succ kj28 =>
      have H:=HA.out
      clear HA
      simp only[churnref12_Draws.j4] at H
      by_cases c34:x98_28=true
      ·subst c34
       have H1:(some (([]:List Int),2))=some (r1,r2):=by rw[if_pos rfl] at H;exact H
       clear H
       have H:=H1
       clear H1
       obtain⟨rfl,rfl⟩:=sj2_ H
       go_wp2
       go_ret2
       exact⟨_,T17_,T21_,T19_⟩
      replace c34:=Bool.eq_false_iff.mpr c34
      subst c34
      have H1:(churnref12_Draws.l2 kj28 l0 l1 l2 t803 x9_3 x10_3 x13_3 x14_3 (rd l1 x14_3) (rd l2 (rd x10_3 (rd l1 x14_3))) 0)=some (r1,r2):=by rw[if_neg (show ¬ (false=true) by decide)] at H;exact H
      clear H
      have H:=H1
      clear H1
      have H':=am_ H
      clear H
      go_wp2
      go_loopg [17,18] kj28 (fun kq v17 v18 w'=>∃ (x17_6:Int) (x18_6:Int),v17 = .int .i64 x17_6∧v18 = .int .i64 x18_6∧Aside0 (churnref12_Draws.l2 kq l0 l1 l2 t803 x9_3 x10_3 x13_3 x14_3 (rd l1 x14_3) x17_6 x18_6=some (r1,r2))∧Aside0 (kq≤kj28)∧Aside0 (jt (jb .i64) 3 w' w.heap.size (fun k_=>ne_ k_ (.slice (some ad814) x10_3.length co30)∧ne_ k_ u13) u9 x9_3)∧Aside0 (jt (jb .i64) 3 w' w.heap.size (fun k_=>ne_ k_ u9∧ne_ k_ u13) (.slice (some ad814) x10_3.length co30) x10_3)∧Aside0 (jt (jb .i64) 3 w' w.heap.size (fun k_=>ne_ k_ u9∧ne_ k_ (.slice (some ad814) x10_3.length co30)) u13 x13_3)∧Aside0 (Below w.heap.size w w'))
      case atStart=>exact⟨((rd l2 (rd x10_3 (rd l1 x14_3)))),(0),T10_,T10_,H',⟨Nat.le_refl _⟩,⟨ru_ HO_9.out⟩,⟨ru_ HO_10.out⟩,⟨ru_ HO_13.out⟩,⟨T19_⟩⟩
      clear H'
      (try clear c8);(try clear c9);(try clear c9b0);(try clear c15);(try clear c15b0);(try clear c16);(try clear c16b0);(try clear c17);(try clear c17b0);(try clear c24);(try clear c25);(try clear c25b0);(try clear c26);(try clear c26b0);(try clear c27);(try clear c27b0);(try clear c28);(try clear c28b0);(try clear c34);(try clear hx812_0);(try clear hx814_0);(try clear hx815_0);(try clear p812 q812);(try clear p814 q814);(try clear p815 q815)
      obtain⟨x17_6,x18_6,rfl,rfl,HA,HK6,HO_9,HO_10,HO_13,HB⟩:=hrel
      cases gk with
      | zero=>exact absurd HA.out (by simp[churnref12_Draws.l2])
      | succ k6 =>
       have H:=HA.out
       clear HA
       simp only[churnref12_Draws.l2] at H
       by_cases c35:x18_6<(rd l1 x14_3)
       ·rw[if_pos c35] at H
        have c35b0:=decide_eq_true c35
        clear c35
        replace H:=ifn_ H;obtain⟨c36,H⟩:=H
        have c36b0:=decide_eq_true c36
        clear c36
        replace H:=ifn_ H;obtain⟨c37,H⟩:=H
        have c37b0:=decide_eq_true c37
        clear c37
        have H':=am_ H
        clear H
        obtain⟨Ao38,co38,eo38⟩:=jp HO_9.out
        subst eo38
        obtain⟨ad817,e817,hx817_0,p817,q817⟩:=ai_ (ji HO_9.out).2.2 x18_6
        cases e817
        go_wp2
        go_roundg k6
        case measure=>have:=HJ4.out;have:=HK2.out;have:=HK3.out;have:=HJ17.out;have:=HJ28.out;have:=HK6.out;omega
        case rel=>exact⟨(wrap64 (x17_6+(rd x9_3 x18_6))),(wrap64 (x18_6+1)),T10_,T10_,H',⟨(by have:=HJ4.out;have:=HK2.out;have:=HK3.out;have:=HJ17.out;have:=HJ28.out;have:=HK6.out;omega)⟩,⟨ru_ HO_9.out⟩,⟨ru_ HO_10.out⟩,⟨ru_ HO_13.out⟩,⟨T19_⟩⟩
       rw[if_neg c35] at H
       have c35b0:=decide_eq_false c35
       clear c35
       replace H:=ifa_ H;obtain⟨LMc39,H⟩:=H
       obtain⟨y818,hy_⟩:∃ y_:List Int,y_=(x13_3 ++ [x17_6]):=⟨_,rfl⟩
       replace H:(if 0≤(rd l1 x14_3) then(if(rd l1 x14_3)<(x9_3.length:Int) then(if(rd l1 x14_3)<(x10_3.length:Int) then(churnref12_Draws.l1 k6 l0 l1 l2 t803 (x9_3.set ((rd l1 x14_3):Int).toNat (wrap64 ((rd x9_3 (rd l1 x14_3))-1))) (x10_3.set ((rd l1 x14_3):Int).toNat (wrap64 ((rd x10_3 (rd l1 x14_3))+1))) y818 (wrap64 (x14_3+1))) else(none)) else(none)) else(none))=some (r1,r2):=hyw_
       have Ny818:=am_ hy_
       clear hy_
       replace H:=ifn_ H;obtain⟨c40,H⟩:=H
       have c40b0:=decide_eq_true c40
       clear c40
       replace H:=ifn_ H;obtain⟨c41,H⟩:=H
       have c41b0:=decide_eq_true c41
       clear c41
       obtain⟨y822,hy_⟩:∃ y_:List Int,y_=(x9_3.set ((rd l1 x14_3):Int).toNat (wrap64 ((rd x9_3 (rd l1 x14_3))-1))):=⟨_,rfl⟩
       replace H:(if(rd l1 x14_3)<(x10_3.length:Int) then(churnref12_Draws.l1 k6 l0 l1 l2 t803 y822 (x10_3.set ((rd l1 x14_3):Int).toNat (wrap64 ((rd x10_3 (rd l1 x14_3))+1))) y818 (wrap64 (x14_3+1))) else(none))=some (r1,r2):=hyw_
       have Ny822:=am_ hy_
       clear hy_
       replace H:=ifn_ H;obtain⟨c43,H⟩:=H
       have c43b0:=decide_eq_true c43
       clear c43
       obtain⟨y824,hy_⟩:∃ y_:List Int,y_=(x10_3.set ((rd l1 x14_3):Int).toNat (wrap64 ((rd x10_3 (rd l1 x14_3))+1))):=⟨_,rfl⟩
       replace H:(churnref12_Draws.l1 k6 l0 l1 l2 t803 y822 y824 y818 (wrap64 (x14_3+1)))=some (r1,r2):=hyw_
       have Ny824:=am_ hy_
       clear hy_
       have H':=am_ H
       clear H
       go_wp2_with(first|(refine gb_ .append #[.tmp 111,.tmp 113] ?_;(try(refine jI T0_ ?_;dsimp only));at_builtin;refine Jd (jb .i64) (w0:=w) w.heap.size rfl (.tmp 111) (.tmp 113) 24 3 (.int .i64 0) 8 rfl Try.underlying24 info3 rfl T3_ T2_ u13 x13_3 x17_6 [.int .i64 x17_6] (fun k_=>ne_ k_ u9∧ne_ k_ (.slice (some ad814) x10_3.length co30)) (fun _=>False) rfl rfl ?aP (fun _ hk=>hk.elim) ?aF ?aO ?aB ?aS ?aL ?_;(case aP=>exact rfl);(case aB=>exact T19_);(case aF=>exact(fun k_ hk=>⟨jA (jh (ru_ HO_9.out)) k_ hk,jA (jh (ru_ HO_10.out)) k_ hk⟩));(case aO=>exact(ru_ HO_13.out));(case aS=>exact(jc T19_));(case aL=>have:=LMc39.out;omega);intro v819 w45 ho hb hg hat;rw[←Ny818.out] at ho;have n_:=P4_ (jv (ok:=(fun k_=>ne_ k_ (.slice (some ad814) x10_3.length co30))) (ru_ HO_9.out) hg hat) (jv (ok:=(fun k_=>ne_ k_ u9)) (ru_ HO_10.out) hg hat) (hb) (ho);clear HO_9 HO_10 HB HO_13;obtain⟨HO_9,HO_10,HB,HO820⟩:=n_;clear ho hb hg hat;obtain⟨Ao46,co46,eo46⟩:=jp HO_9.out;subst eo46;have p821:0≤((rd l1 x14_3):Int):=od_;have q821:(rd l1 x14_3)<(x9_3.length:Int):=od_;obtain⟨ad821,e821,hx821_0⟩:=jy (ji HO_9.out).2.2 (rd l1 x14_3) p821 q821;cases e821;replace p821:=eq_true p821;replace q821:=eq_true q821;have p42:0≤((rd l1 x14_3):Int):=od_;have q42:((rd l1 x14_3):Int)<((x9_3.length:Int):Int):=od_;obtain⟨go42,co42,eo42,gb42,gl42,cl42,HG42⟩:=Kd.R_form HO_9.out T2_;(first|cases eo42|(injection eo42 with ea_ en_ ec_;(first|subst ea_|(injection ea_ with ea_;subst ea_));subst ec_;clear en_));have GB42:=am_ gb42;have GG42:=am_ HG42;clear gb42 gl42 HG42;(first|simp only[jW] at hx821_0|skip);obtain⟨hx42_0,hf42_0⟩:=jH 0 HO_9.out ((rd l1 x14_3):Int) p42 q42;replace p42:=eq_true p42;replace q42:=eq_true q42;obtain⟨hy47_,hz47_⟩:=jH 0 HO_9.out ((rd l1 x14_3):Int) (od_) (od_);have HP47:=Kd.R_putg HO_9.out ((rd l1 x14_3):Int) (wrap64 ((rd x9_3 (rd l1 x14_3))-1)))|(refine gs_ 3 120 ?_;refine store_event (t:=3) (p:=120) (v:=?vo_w48) (w1:=(w45.setCell ⟨go42,((rd l1 x14_3):Int).toNat,none⟩ (.int .i64 (wrap64 ((rd x9_3 (rd l1 x14_3))-1))))) ?hg ?ho ?hn ?hr ?_;(case ho=>rfl);(case hg=>rfl);(case hn=>rfl);(case hr=>first|(go_simp;done)|(go_simp;rfl));intro w48 hw;have hg:w45.grownBy w48 (some go42):=(by rw[hw];exact HP47.2);have hp_:jt (jb .i64) 3 w48 w.heap.size (fun k_=>ne_ k_ (.slice (some ad814) x10_3.length co30)∧ne_ k_ v819) (.slice (some ⟨go42,0,none⟩) x9_3.length co46) y822:=(by rw[hw,Ny822.out];exact HP47.1);clear HP47;have n_:=P4_ (hp_) (jv (v:=(.slice (some ⟨go42,0,none⟩) x9_3.length co46)) (v1:=(.slice (some ⟨go42,0,none⟩) x9_3.length co46)) (ok:=(fun k_=>ne_ k_ v819)) (ru_ (ja HO_10.out (fun _ hk=>⟨hk.2,hk.1⟩))) hg (.inl rfl)) (jv (v:=(.slice (some ⟨go42,0,none⟩) x9_3.length co46)) (v1:=(.slice (some ⟨go42,0,none⟩) x9_3.length co46)) (ok:=(fun k_=>ne_ k_ (.slice (some ad814) x10_3.length co30))) (ru_ (ja HO820.out (fun _ hk=>⟨hk.2,hk.1⟩))) hg (.inl rfl)) ((by rw[hw];exact jO (HB.out) GB42.out:Below w.heap.size w w48));clear HO_9 HO_10 HO820 HB;obtain⟨HO_9,HO_10,HO820,HB⟩:=n_;clear hg hw hp_;have p823:0≤((rd l1 x14_3):Int):=od_;have q823:(rd l1 x14_3)<(x10_3.length:Int):=od_;obtain⟨ad823,e823,hx823_0⟩:=jy (ji HO_10.out).2.2 (rd l1 x14_3) p823 q823;obtain rfl:ad814=ad823:=(by injection e823);replace p823:=eq_true p823;replace q823:=eq_true q823;have p44:0≤((rd l1 x14_3):Int):=od_;have q44:((rd l1 x14_3):Int)<((x10_3.length:Int):Int):=od_;obtain⟨go44,co44,eo44,gb44,gl44,cl44,HG44⟩:=Kd.R_form HO_10.out T2_;(first|cases eo44|(injection eo44 with ea_ en_ ec_;(first|subst ea_|(injection ea_ with ea_;subst ea_));subst ec_;clear en_));have GB44:=am_ gb44;have GG44:=am_ HG44;clear gb44 gl44 HG44;(first|simp only[jW] at hx814_0|skip);(first|simp only[jW] at hx823_0|skip);obtain⟨hx44_0,hf44_0⟩:=jH 0 HO_10.out ((rd l1 x14_3):Int) p44 q44;replace p44:=eq_true p44;replace q44:=eq_true q44;obtain⟨hy49_,hz49_⟩:=jH 0 HO_10.out ((rd l1 x14_3):Int) (od_) (od_);have HP49:=Kd.R_putg HO_10.out ((rd l1 x14_3):Int) (wrap64 ((rd x10_3 (rd l1 x14_3))+1)))|(refine gs_ 3 126 ?_;refine store_event (t:=3) (p:=126) (v:=?vo_w50) (w1:=(w48.setCell ⟨go44,((rd l1 x14_3):Int).toNat,none⟩ (.int .i64 (wrap64 ((rd x10_3 (rd l1 x14_3))+1))))) ?hg ?ho ?hn ?hr ?_;(case ho=>rfl);(case hg=>rfl);(case hn=>rfl);(case hr=>first|(go_simp;done)|(go_simp;rfl));intro w50 hw;have hg:w48.grownBy w50 (some go44):=(by rw[hw];exact HP49.2);have hp_:jt (jb .i64) 3 w50 w.heap.size (fun k_=>ne_ k_ v819∧ne_ k_ (.slice (some ⟨go42,0,none⟩) x9_3.length co46)) (.slice (some ⟨go44,0,none⟩) x10_3.length co30) y824:=(by rw[hw,Ny824.out];exact HP49.1);clear HP49;have n_:=P4_ (jv (v:=(.slice (some ⟨go44,0,none⟩) x10_3.length co30)) (v1:=(.slice (some ⟨go44,0,none⟩) x10_3.length co30)) (ok:=(fun k_=>ne_ k_ v819)) (ru_ (ja HO_9.out (fun _ hk=>⟨hk.2,hk.1⟩))) hg (.inl rfl)) (hp_) (jv (v:=(.slice (some ⟨go44,0,none⟩) x10_3.length co30)) (v1:=(.slice (some ⟨go44,0,none⟩) x10_3.length co30)) (ok:=(fun k_=>ne_ k_ (.slice (some ⟨go42,0,none⟩) x9_3.length co46))) (ru_ (ja HO820.out (fun _ hk=>⟨hk.2,hk.1⟩))) hg (.inl rfl)) ((by rw[hw];exact jO (HB.out) GB44.out:Below w.heap.size w w50));clear HO_9 HO_10 HO820 HB;obtain⟨HO_9,HO_10,HO820,HB⟩:=n_;clear hg hw hp_))
       go_roundg k6
       case measure=>have:=HJ4.out;have:=HK2.out;have:=HK3.out;have:=HJ17.out;have:=HJ28.out;have:=HK6.out;omega
       case rel=>exact⟨(y822),(y824),(y818),(wrap64 (x14_3+1)),T10_,H',⟨(by have:=HJ4.out;have:=HK2.out;have:=HK3.out;have:=HJ17.out;have:=HJ28.out;have:=HK6.out;omega)⟩,⟨ru_ (ja HO_9.out (fun _ hk=>⟨hk.2,hk.1⟩))⟩,⟨ru_ (ja HO_10.out (fun _ hk=>⟨hk.2,hk.1⟩))⟩,⟨ru_ HO820.out⟩,⟨T19_⟩⟩
mutual
def churnref10_Turn.j0:Nat→List Int→List Int→List Int→Bool→Option (List Int×Int)
 | 0,_,_,_,_=>none
 | k+1,x0,x1,x2,x23=>if x23=true then(some (([]:List Int),2)) else(churnref10_Turn.l0 k x0 x1 x2 0)
def churnref10_Turn.l0:Nat→List Int→List Int→List Int→Int→Option (List Int×Int)
 | 0,_,_,_,_=>none
 | k+1,x0,x1,x2,x8=>if x8<(x2.length:Int) then(if 0≤x8 then(if(rd x2 x8)<0 then(some (([]:List Int),2)) else(if x8<(x1.length:Int) then(if(rd x2 x8) ≥ (rd x1 x8) then(some (([]:List Int),2)) else(churnref10_Turn.l0 k x0 x1 x2 (wrap64 (x8+1)))) else(none))) else(none)) else(if 0≤(x0.length:Int) then(if((x0.length:Int):Int).toNat≤281474976710656 then((some (([]:List Int):List Int)).bind fun y829=>(if y829.length+x0.length<140737488355328 then(churnref10_Turn.l1 k x0 x1 x2 (y829 ++ x0) 0 0) else(none))) else(none)) else(none))
def churnref10_Turn.l1:Nat→List Int→List Int→List Int→List Int→Int→Int→Option (List Int×Int)
 | 0,_,_,_,_,_,_=>none
 | k+1,x0,x1,x2,x9,x10,x11=>if x11<(x1.length:Int) then(if 0≤x11 then((churnref10_Below.f k x0 x10 (rd x1 x11)).bind fun bt836=>(if bt836.2.2=0 then(if bt836.2.1 > x10 then(if 0≤(wrap64 (bt836.2.1-1)) then(if(wrap64 (bt836.2.1-1))<(x0.length:Int) then(if x11<(x2.length:Int) then(if(wrap64 (bt836.2.1-1))<(x9.length:Int) then(churnref10_Turn.l1 k x0 x1 x2 (x9.set ((wrap64 (bt836.2.1-1)):Int).toNat ((wrap64 ((wrap64 ((wrap64 (rd x0 (wrap64 (bt836.2.1-1))))-bt836.1))+(rd x2 x11))) % 256)) bt836.2.1 (wrap64 (x11+1))) else(none)) else(none)) else(none)) else(none)) else(churnref10_Turn.l1 k x0 x1 x2 x9 bt836.2.1 (wrap64 (x11+1)))) else(some (([]:List Int),bt836.2.2)))) else(none)) else(some (x9,0))
end
def churnref10_Turn.f (k:Nat) (l0:List Int) (l1:List Int) (l2:List Int):Option (List Int×Int):=(churnref10_wrong.f k l1).bind fun t825=>(if t825=true then(churnref10_Turn.j0 k l0 l1 l2 true) else(churnref10_Turn.j0 k l0 l1 l2 ((l2.length:Int) != (l1.length:Int))))
def churnref10_Turn.T6:Bool×List (List Nat×List Nat):=(true,[([],[]),([],[]),([0,1],[0,1]),([2],[2]),([3],[3]),([4],[4]),([5],[5]),([5],[5]),([6,7,5],[5,6,7]),([8,5],[5,8]),([5],[5]),([5],[5]),([10,11,5],[5,10,11]),([12,5],[5,12]),([9,13,5],[5,9,13]),([5,14],[5,14])])
def churnref10_Turn.B6:List Nat:=[0,0,3,7,15,31,63,63,255,511,63,63,3135,7231,16383,32767]
theorem churnref10_Turn.tab6:rtab .any (opsOf Try.f28 6)=churnref10_Turn.T6:=by kernel_rfl
theorem churnref10_Turn.bits6:waitsOk churnref10_Turn.T6.2 churnref10_Turn.B6=true:=by kernel_rfl
def churnref10_Turn.T18:Bool×List (List Nat×List Nat):=(true,[([],[]),([],[]),([1],[1]),([],[]),([],[]),([4],[4]),([3,5],[3,5]),([6],[6]),([7],[7]),([],[]),([8,9],[8,9]),([],[]),([],[]),([11,12],[11,12]),([13],[13]),([10,14],[10,14]),([15],[15]),([0,2,0,1,2,3,4,5,6,7,8,9,10,11,12,13,14,15,16],[0,2]),([17,16,0,1,2,3,4,5,6,7,8,9,10,11,12,13,14,15,16],[16,17])])
def churnref10_Turn.B18:List Nat:=[0,0,2,0,0,16,56,120,248,0,1016,0,0,6144,14336,32760,65528,131071,262143]
theorem churnref10_Turn.tab18:rtab .any (opsOf Try.f28 18)=churnref10_Turn.T18:=by kernel_rfl
theorem churnref10_Turn.bits18:waitsOk churnref10_Turn.T18.2 churnref10_Turn.B18=true:=by kernel_rfl
set_option maxHeartbeats 8000000 in
set_option maxRecDepth 100000 in
theorem churnref10_Turn.calls (k:Nat) (A0:Option Addr) (c0:Nat) (l0:List Int) (A1:Option Addr) (c1:Nat) (l1:List Int) (A2:Option Addr) (c2:Nat) (l2:List Int) (r1:List Int) (r2:Int) (w:World) (hr0:jX (jb .u8) w A0 l0.length l0) (hc0:l0.length≤c0) (hr1:jX (jb .i64) w A1 l1.length l1) (hc1:l1.length≤c1) (hr2:jX (jb .i64) w A2 l2.length l2) (hc2:l2.length≤c2) (h:churnref10_Turn.f k l0 l1 l2=some (r1,r2)) :
  Calls Try.prog 28 #[.slice A0 l0.length c0,.slice A1 l1.length c1,.slice A2 l2.length c2] w fun e w'=>∃ v0_:Value,e = .returned (.tuple #[v0_,.int .i64 r2])∧jt (jb .u8) 5 w' w.heap.size (fun _=>True) v0_ r1∧Below w.heap.size w w':=by
 have HR0:=am_ hr0
 have HC0:=am_ hc0
 clear hr0 hc0
 have HR1:=am_ hr1
 have HC1:=am_ hc1
 clear hr1 hc1
 have HR2:=am_ hr2
 have HC2:=am_ hc2
 clear hr2 hc2
 have HB:=am_ (Below.refl w.heap.size w)
 have H:((churnref10_wrong.f k l1).bind fun t825=>(if t825=true then(churnref10_Turn.j0 k l0 l1 l2 true) else(churnref10_Turn.j0 k l0 l1 l2 ((l2.length:Int) != (l1.length:Int)))))=some (r1,r2):=h
 clear h
 have HC4:=am_ H
 clear H
 go_enter Try.func28,Try.ntmps28
 go_upto_region 1 with(fail)
 go_cut [23] (fun v23 wc=>∃ (kq:Nat) (x23_3:Bool),v23 = .bool x23_3∧Aside0 (churnref10_Turn.j0 kq l0 l1 l2 x23_3=some (r1,r2))∧Aside0 (kq≤k)∧Aside0 (Below w.heap.size w wc))
 case first =>
  have H:=HC4.out
  clear HC4
  replace H:=Option.bind_eq_some_iff.mp H
  obtain⟨t825,A50,H⟩:=H
  try dsimp only at H
  have A5:=am_ A50
  clear A50
  by_cases c6:t825=true
  ·subst c6
   have H1:(churnref10_Turn.j0 k l0 l1 l2 true)=some (r1,r2):=by rw[if_pos rfl] at H;exact H
   clear H
   have H:=H1
   clear H1
   have H':=am_ H
   clear H
   go_wp2_with(first|(refine gc_ 52 ?_;refine gl_ (some 16) Try.func52 #[.slice A1 l1.length c1] ?_;(with_reducible refine(churnref10_wrong.calls k _ _ l1 true _ ?side1 ?side2 A5.out).mono ?_);(case side1=>exact cu_ (jw HR1.out HB.out));(case side2=>exact HC1.out);rintro e w' ⟨rfl,⟨nd,rfl⟩⟩;refine⟨_,rfl,?_⟩))
   go_meet
   case rel=>exact⟨_,(true),T10_,H',⟨T8_⟩,⟨T19_⟩⟩
  replace c6:=Bool.eq_false_iff.mpr c6
  subst c6
  have H1:(churnref10_Turn.j0 k l0 l1 l2 ((l2.length:Int) != (l1.length:Int)))=some (r1,r2):=by rw[if_neg (show ¬ (false=true) by decide)] at H;exact H
  clear H
  have H:=H1
  clear H1
  have H':=am_ H
  clear H
  go_wp2_with(first|(refine gc_ 52 ?_;refine gl_ (some 16) Try.func52 #[.slice A1 l1.length c1] ?_;(with_reducible refine(churnref10_wrong.calls k _ _ l1 false _ ?side1 ?side2 A5.out).mono ?_);(case side1=>exact cu_ (jw HR1.out HB.out));(case side2=>exact HC1.out);rintro e w' ⟨rfl,⟨nd,rfl⟩⟩;refine⟨_,rfl,?_⟩))
  go_meet
  case rel=>exact⟨_,(((l2.length:Int) != (l1.length:Int))),T10_,H',⟨T8_⟩,⟨T19_⟩⟩
 clear HC4
 obtain⟨kq,x23_3,rfl,HA,HJ3,HB⟩:=hcut
 cases kq with
 | zero=>exact absurd HA.out (by simp[churnref10_Turn.j0])
 | succ kj3 =>
  have H:=HA.out
  clear HA
  simp only[churnref10_Turn.j0] at H
  by_cases c7:x23_3=true
  ·subst c7
   have H1:(some (([]:List Int),2))=some (r1,r2):=by rw[if_pos rfl] at H;exact H
   clear H
   have H:=H1
   clear H1
   obtain⟨rfl,rfl⟩:=sj2_ H
   go_wp2
   go_ret2
   exact⟨_,T17_,T21_,T19_⟩
  replace c7:=Bool.eq_false_iff.mpr c7
  subst c7
  have H1:(churnref10_Turn.l0 kj3 l0 l1 l2 0)=some (r1,r2):=by rw[if_neg (show ¬ (false=true) by decide)] at H;exact H
  clear H
  have H:=H1
  clear H1
  have H':=am_ H
  clear H
  go_wp2
  go_loopg [8] kj3 (fun kq v8 w'=>∃ (x8_2:Int),v8 = .int .i64 x8_2∧Aside0 (churnref10_Turn.l0 kq l0 l1 l2 x8_2=some (r1,r2))∧Aside0 (kq≤kj3)∧Aside0 (Below w.heap.size w w'))
  case atStart=>exact⟨(0),T10_,H',⟨Nat.le_refl _⟩,⟨T19_⟩⟩
  clear H'
  (try clear c7)
  obtain⟨x8_2,rfl,HA,HK2,HB⟩:=hrel
  cases gk with
  | zero=>exact absurd HA.out (by simp[churnref10_Turn.l0])
  | succ k2 =>
   have H:=HA.out
   clear HA
   simp only[churnref10_Turn.l0] at H
   by_cases c8:x8_2<(l2.length:Int)
   rotate_left
   ·rw[if_neg c8] at H
    have c8b0:=decide_eq_false c8
    clear c8
    replace H:=ifn_ H;obtain⟨c16,H⟩:=H
    have c16b0:=eq_true c16
    have c16b1:decide (0≤(l0.length:Int))=true:=decide_eq_true c16
    clear c16
    replace H:=ifn_ H;obtain⟨c17,H⟩:=H
    have c17b0:=eq_true c17
    have c17b1:decide (((l0.length:Int):Int).toNat≤281474976710656)=true:=decide_eq_true c17
    clear c17
    obtain⟨y829,hy_⟩:∃ y_:List Int,y_=(([]:List Int)):=⟨_,rfl⟩
    replace H:(if y829.length+l0.length<140737488355328 then(churnref10_Turn.l1 k2 l0 l1 l2 (y829 ++ l0) 0 0) else(none))=some (r1,r2):=hyw_
    have Ny829:=am_ hy_
    clear hy_
    replace H:=ifa_ H;obtain⟨LMc18,H⟩:=H
    obtain⟨y832,hy_⟩:∃ y_:List Int,y_=(y829 ++ l0):=⟨_,rfl⟩
    replace H:(churnref10_Turn.l1 k2 l0 l1 l2 y832 0 0)=some (r1,r2):=hyw_
    have Ny832:=am_ hy_
    clear hy_
    have H':=am_ H
    clear H
    go_wp2_with(first|(refine gd_ 48 ?_;(try(refine jI T0_ ?_;dsimp only));refine Kd.R_make0 (jb .u8) _ 5 rfl (N:=48) rfl 23 _ _ rfl (l0.length:Int) rfl rfl Try.underlying23 (.int .u8 0) 1 info5 rfl T3_ T2_ 0 (ok:=fun _=>True) (okp:=fun _=>True) rfl (fun _ hk=>hk) trivial (od_) (Nat.le_trans (Nat.mul_le_mul_right _ (od_:(l0.length:Int).toNat≤281474976710656)) T2_) (Below.refl _ _) (Nat.le_refl _) ?_;intro v830 w19 ho20 hb hg_ hnew_;clear hg_ hnew_;(first|rw[←Ny829.out] at ho20|(simp only[Int.reduceToNat] at ho20;rw[←Ny829.out] at ho20));have n_:=P2_ (jq ho20 (jc T19_)) (jk T19_ hb);clear HB;obtain⟨HO831,HB⟩:=n_;clear hb ho20)|(refine gb_ .append #[.tmp 49,.tmp 50] ?_;(try(refine jI T0_ ?_;dsimp only));at_builtin;refine Kd.R_append_rows (jb .u8) (w0:=w) w.heap.size rfl (.tmp 49) (.tmp 50) 23 5 (.int .u8 0) 1 rfl Try.underlying23 info5 rfl T3_ T2_ v830 y829 l0 _ _ _ (fun _=>True) (fun _=>False) rfl rfl ?aO ?aR (fun _ _ h=>h) (fun _ h=>h.elim) ?aF ?aB ?aS ?aL ?_;(case aR=>exact cu_ (jw HR0.out HB.out));(case aB=>exact T19_);(case aF=>exact(fun _ _=>trivial));(case aO=>exact(ru_ HO831.out));(case aS=>exact(jc T19_));(case aL=>have:=LMc18.out;omega);intro v833 w21 ho hb hg hat;rw[←Ny832.out] at ho;have n_:=P2_ (hb) (ho);clear HB HO831;obtain⟨HB,HO834⟩:=n_;clear ho hb hg hat))
    go_loopg [10,11] k2 (fun kq v10 v11 w'=>∃ (x9_3:List Int) (x10_3:Int) (x11_3:Int),v10 = .int .i64 x10_3∧v11 = .int .i64 x11_3∧Aside0 (churnref10_Turn.l1 kq l0 l1 l2 x9_3 x10_3 x11_3=some (r1,r2))∧Aside0 (kq≤k2)∧Aside0 (jt (jb .u8) 5 w' w.heap.size (fun _=>True) v833 x9_3)∧Aside0 (Below w.heap.size w w'))
    case atStart=>exact⟨(y832),(0),(0),T10_,T10_,H',⟨Nat.le_refl _⟩,⟨ru_ HO834.out⟩,⟨T19_⟩⟩
    clear H'
    (try clear c7);(try clear c8);(try clear c8b0);(try clear c16);(try clear c16b0 c16b1);(try clear c17);(try clear c17b0 c17b1)
    obtain⟨x9_3,x10_3,x11_3,rfl,rfl,HA,HK3,HO_9,HB⟩:=hrel
    cases gk with
    | zero=>exact absurd HA.out (by simp[churnref10_Turn.l1])
    | succ k3 =>
     have H:=HA.out
     clear HA
     simp only[churnref10_Turn.l1] at H
     by_cases c22:x11_3<(l1.length:Int)
     rotate_left
     ·rw[if_neg c22] at H
      have c22b0:=decide_eq_false c22
      clear c22
      obtain⟨rfl,rfl⟩:=sj2_ H
      go_wp2
      go_ret2
      exact⟨_,T17_,ru_ HO_9.out,T19_⟩
     rw[if_pos c22] at H
     have c22b0:=decide_eq_true c22
     clear c22
     replace H:=ifn_ H;obtain⟨c23,H⟩:=H
     have c23b0:=decide_eq_true c23
     clear c23
     replace H:=Option.bind_eq_some_iff.mp H
     obtain⟨⟨t836,t837,t838⟩,A240,H⟩:=H
     try dsimp only at H
     have A24:=am_ A240
     clear A240
     by_cases c25:t838=0
     rotate_left
     ·rw[if_neg c25] at H
      obtain⟨c25b0,c25b1⟩:=en_ c25
      obtain⟨rfl,rfl⟩:=sj2_ H
      have p835:0≤(x11_3:Int):=od_
      have q835:x11_3<(l1.length:Int):=od_
      obtain⟨ad835,e835,hx835_0⟩:=jy HR1.out x11_3 p835 q835
      cases e835
      (try(replace hx835_0:=(HB.out.cell (World.block_lt_of_cell? w _ hx835_0)).trans hx835_0))
      replace p835:=eq_true p835
      replace q835:=eq_true q835
      go_wp2_with(first|(refine gc_ 53 ?_;refine gl_ (some 65) Try.func53 #[.slice A0 l0.length c0,.int .i64 x10_3,.int .i64 (rd l1 x11_3)] ?_;(with_reducible refine(churnref10_Below.calls k3 _ _ l0 x10_3 (rd l1 x11_3) t836 t837 t838 _ ?side1 ?side2 A24.out).mono ?_);(case side1=>exact cu_ (jw HR0.out HB.out));(case side2=>exact HC0.out);rintro e w' ⟨rfl,⟨nd,rfl⟩⟩;refine⟨_,rfl,?_⟩))
      go_ret2
      exact⟨_,T17_,T21_,T19_⟩
     rw[if_pos c25] at H
     obtain⟨c25b0,c25b1⟩:=ep_ c25
     clear c25
     by_cases c26:t837 > x10_3
     rotate_left
     ·rw[if_neg c26] at H
      have c26b0:=decide_eq_false c26
      clear c26
      have H':=am_ H
      clear H
      have p835:0≤(x11_3:Int):=od_
      have q835:x11_3<(l1.length:Int):=od_
      obtain⟨ad835,e835,hx835_0⟩:=jy HR1.out x11_3 p835 q835
      cases e835
      (try(replace hx835_0:=(HB.out.cell (World.block_lt_of_cell? w _ hx835_0)).trans hx835_0))
      replace p835:=eq_true p835
      replace q835:=eq_true q835
      go_wp2_with(first|(refine gc_ 53 ?_;refine gl_ (some 65) Try.func53 #[.slice A0 l0.length c0,.int .i64 x10_3,.int .i64 (rd l1 x11_3)] ?_;(with_reducible refine(churnref10_Below.calls k3 _ _ l0 x10_3 (rd l1 x11_3) t836 t837 t838 _ ?side1 ?side2 A24.out).mono ?_);(case side1=>exact cu_ (jw HR0.out HB.out));(case side2=>exact HC0.out);rintro e w' ⟨rfl,⟨nd,rfl⟩⟩;refine⟨_,rfl,?_⟩))
      go_roundg k3
      case measure=>have:=HJ3.out;have:=HK2.out;have:=HK3.out;omega
      case rel=>exact⟨(x9_3),(t837),(wrap64 (x11_3+1)),T10_,T10_,H',⟨T12_⟩,⟨ru_ HO_9.out⟩,⟨T19_⟩⟩
     rw[if_pos c26] at H
     have c26b0:=decide_eq_true c26
     clear c26
     obtain⟨ji27,hji27⟩:∃ j_:Int,(wrap64 (t837-1))=j_:=⟨_,rfl⟩
     replace H:(if 0≤(ji27) then(if(ji27)<(l0.length:Int) then(if x11_3<(l2.length:Int) then(if(ji27)<(x9_3.length:Int) then(churnref10_Turn.l1 k3 l0 l1 l2 (x9_3.set ((ji27):Int).toNat ((wrap64 ((wrap64 ((wrap64 (rd l0 (ji27)))-t836))+(rd l2 x11_3))) % 256)) t837 (wrap64 (x11_3+1))) else(none)) else(none)) else(none)) else(none))=some (r1,r2):=by first|(rw[hji27] at H;exact H)|(simp only[hji27] at H ⊢;exact H)
     (try rw[hji27] at A24)
     have hji27w:(IntKind.i64.wrap (t837-1))=ji27:=(jF _).trans hji27
     replace H:=ifn_ H;obtain⟨c28,H⟩:=H
     have c28b0:=decide_eq_true c28
     clear c28
     replace H:=ifn_ H;obtain⟨c29,H⟩:=H
     have c29b0:=decide_eq_true c29
     clear c29
     replace H:=ifn_ H;obtain⟨c30,H⟩:=H
     have c30b0:=decide_eq_true c30
     clear c30
     replace H:=ifn_ H;obtain⟨c31,H⟩:=H
     have c31b0:=decide_eq_true c31
     clear c31
     obtain⟨y841,hy_⟩:∃ y_:List Int,y_=(x9_3.set ((ji27):Int).toNat ((wrap64 ((wrap64 ((wrap64 (rd l0 (ji27)))-t836))+(rd l2 x11_3))) % 256)):=⟨_,rfl⟩
     replace H:(churnref10_Turn.l1 k3 l0 l1 l2 y841 t837 (wrap64 (x11_3+1)))=some (r1,r2):=hyw_
     have Ny841:=am_ hy_
     clear hy_
     have H':=am_ H
     clear H
     have p835:0≤(x11_3:Int):=od_
     have q835:x11_3<(l1.length:Int):=od_
     obtain⟨ad835,e835,hx835_0⟩:=jy HR1.out x11_3 p835 q835
     cases e835
     (try(replace hx835_0:=(HB.out.cell (World.block_lt_of_cell? w _ hx835_0)).trans hx835_0))
     replace p835:=eq_true p835
     replace q835:=eq_true q835
     try go_wp2_with(first|(refine gc_ 53 ?_;refine gl_ (some 65) Try.func53 #[.slice A0 l0.length c0,.int .i64 x10_3,.int .i64 (rd l1 x11_3)] ?_;(with_reducible refine(churnref10_Below.calls k3 _ _ l0 x10_3 (rd l1 x11_3) t836 t837 t838 _ ?side1 ?side2 A24.out).mono ?_);(case side1=>exact cu_ (jw HR0.out HB.out));(case side2=>exact HC0.out);rintro e w' ⟨rfl,⟨nd,rfl⟩⟩;refine⟨_,rfl,?_⟩;(try(rw[drewN_self wr];generalize hq_:World.drewN wr _=wr;have n0_:Aside0 (jt (jb .u8) 5 wr w.heap.size (fun _=>True) v833 x9_3):=⟨(by rw[←hq_];exact(ru_ HO_9.out))⟩;have n1_:Aside0 (Below w.heap.size w wr):=⟨(by rw[←hq_];exact T19_)⟩;clear HO_9 HB hq_;have HO_9:=n0_;have HB:=n1_;clear n0_ n1_))))
     have n_:=P2_ (js HO_9.out) (jJ HB.out)
     clear HO_9 HB
     obtain⟨HO_9,HB⟩:=n_
     have p839:0≤((ji27):Int):=od_
     have q839:(ji27)<(l0.length:Int):=od_
     obtain⟨ad839,e839,hx839_0⟩:=jy HR0.out (ji27) p839 q839
     have hw839_0:=hx839_0
     cases e839
     (try(replace hx839_0:=(HB.out.cell (World.block_lt_of_cell? w _ hx839_0)).trans hx839_0))
     replace p839:=eq_true p839
     replace q839:=eq_true q839
     have p840:0≤(x11_3:Int):=od_
     have q840:x11_3<(l2.length:Int):=od_
     obtain⟨ad840,e840,hx840_0⟩:=jy HR2.out x11_3 p840 q840
     have hw840_0:=hx840_0
     cases e840
     (try(replace hx840_0:=(HB.out.cell (World.block_lt_of_cell? w _ hx840_0)).trans hx840_0))
     replace p840:=eq_true p840
     replace q840:=eq_true q840
     have p32:0≤((ji27):Int):=od_
     have q32:((ji27):Int)<((x9_3.length:Int):Int):=od_
     obtain⟨go32,co32,eo32,gb32,gl32,cl32,HG32⟩:=Kd.R_form HO_9.out T2_
     (first|cases eo32|(injection eo32 with ea_ en_ ec_;(first|subst ea_|(injection ea_ with ea_;subst ea_));subst ec_;clear en_))
     have GB32:=am_ gb32
     have GG32:=am_ HG32
     clear gb32 gl32 HG32
     obtain⟨hx32_0,hf32_0⟩:=jH 0 HO_9.out ((ji27):Int) p32 q32
     replace p32:=eq_true p32
     replace q32:=eq_true q32
     have HP34:=Kd.R_putn HO_9.out ((ji27):Int) ((wrap64 ((wrap64 ((wrap64 (rd l0 (ji27)))-t836))+(rd l2 x11_3))) % 256)
     rw[←Ny841.out] at HP34
     have HQ34:=am_ HP34
     clear HP34
     refine start_ (n:=19) (S:=fun w'=>w'.cell? (ad839.add ((ji27)).toNat)=some (.int .u8 (rd l0 (ji27)))∧w'.cell? (ad840.add (x11_3).toNat)=some (.int .i64 (rd l2 x11_3))) (ds:=[18]) #[false,false,false,false,false,false,false,false,false,false,false,false,false,false,false,false,false,false,false] T4_ rfl rfl ⟨((HB.out.cell (World.block_lt_of_cell? w _ hw839_0)).trans hw839_0),((HB.out.cell (World.block_lt_of_cell? w _ hw840_0)).trans hw840_0)⟩ (fun hHeld=>?_);refine Jf churnref10_Turn.tab18 churnref10_Turn.bits18 (fun HT_ HW_=>?_)
     generalize wr.drew=w33 at HO_9 HB GG32 HQ34 hf32_0 hx32_0 hx839_0 hx840_0 hHeld ⊢
     refine pz_ 0 (some 75) ?_
     refine pz_ 1 (some 76) ?_
     refine pz_ 2 (some 77) ?_
     refine pz_ 3 (some 78) ?_
     refine pz_ 4 (some 79) ?_
     refine pz_ 5 (some 80) ?_
     refine pz_ 6 (some 81) ?_
     refine pz_ 9 (some 84) ?_
     refine pz_ 11 (some 86) ?_
     refine pz_ 12 (some 87) ?_
     refine pz_ 13 (some 88) ?_
     refine tz2_ 7 (some 82) hHeld ?_
     refine pz_ 8 (some 83) ?_
     refine pz_ 10 (some 85) ?_
     refine tz2_ 14 (some 89) hHeld ?_
     refine pz_ 15 (some 90) ?_
     refine pz_ 16 (some 91) ?_
     refine pz_ 17 (some 92) ?_
     refine last_ (i:=18) (N:=none) #[true,true,true,true,true,true,true,true,true,true,true,true,true,true,true,true,true,true,true] rfl rfl (one_of HT_.out T4_) T3_ (fun K hK=>?_)
     refine skip_ (w1:=?_) T0_ rfl ?_ ?_
     rotate_left
     ·go_simp
      rfl
     refine hK.out _ _ ?_
     clear hK K
     refine done_ (done_of HT_.out T4_) ?_
     try go_wp2
     go_roundg k3
     case measure=>have:=HJ3.out;have:=HK2.out;have:=HK3.out;omega
     case rel=>exact⟨(y841),(t837),(wrap64 (x11_3+1)),T10_,T10_,H',⟨T12_⟩,⟨(by(with_reducible repeat(first|apply Kd.R_alloc|apply Kd.R_drewN|apply js));exact HQ34.out)⟩,⟨(by repeat(first|(with_reducible first|exact HB.out|apply below_alloc|apply Je|apply jJ|refine jO ?_ GB32.out)|exact HB.out))⟩⟩
   rw[if_pos c8] at H
   have c8b0:=decide_eq_true c8
   clear c8
   replace H:=ifn_ H;obtain⟨c9,H⟩:=H
   have c9b0:=decide_eq_true c9
   clear c9
   by_cases c10:(rd l2 x8_2)<0
   ·rw[if_pos c10] at H
    have c10b0:=decide_eq_true c10
    clear c10
    obtain⟨rfl,rfl⟩:=sj2_ H
    try go_wp2
    have n0_:=am_ (jJ HB.out)
    clear HB
    have HB:=n0_
    clear n0_
    have p826:0≤(x8_2:Int):=od_
    have q826:x8_2<(l2.length:Int):=od_
    obtain⟨ad826,e826,hx826_0⟩:=jy HR2.out x8_2 p826 q826
    have hw826_0:=hx826_0
    cases e826
    (try(replace hx826_0:=(HB.out.cell (World.block_lt_of_cell? w _ hx826_0)).trans hx826_0))
    replace p826:=eq_true p826
    replace q826:=eq_true q826
    refine start_ (n:=16) (S:=fun w'=>w'.cell? (ad826.add (x8_2).toNat)=some (.int .i64 (rd l2 x8_2))) (ds:=[]) #[false,false,false,false,false,false,false,false,false,false,false,false,false,false,false,false] T4_ rfl rfl (((HB.out.cell (World.block_lt_of_cell? w _ hw826_0)).trans hw826_0)) (fun hHeld=>?_);refine Jf churnref10_Turn.tab6 churnref10_Turn.bits6 (fun HT_ HW_=>?_)
    generalize wr.drew=w11 at HB hx826_0 hHeld ⊢
    refine pz_ 0 (some 30) ?_
    refine pz_ 1 (some 31) ?_
    refine pz_ 2 (some 32) ?_
    refine take_ (i:=3) (N:=some 33) (v:=?_) (a':=?_) #[true,true,true,true,false,false,false,false,false,false,false,false,false,false,false,false] rfl rfl (take_ofW HT_.out HW_.out T4_) (fun _ _ _ h=>h) (Or.inl ⟨T0_,?_⟩) hHeld ?_ ?_
    rotate_left
    ·intro w' s0
     go_simp
     with_reducible rfl
    rotate_left
    ·simp only[Act.put,List.setIfInBounds_toArray,List.set_cons_zero,List.set_cons_succ,jF,jG]
     rfl
    refine pz_ 4 (some 34) ?_
    refine pz_ 5 (some 35) ?_
    refine pure_ (i:=6) (N:=some 36) (v:=undef) (a':=?_) #[true,true,true,true,true,true,true,false,false,false,false,false,false,false,false,false] rfl rfl (any_of HT_.out T4_) (fun _ _ _ h=>h) (Or.inr ⟨T0_,rfl⟩) ?_ ?_
    rotate_left
    ·simp only[Act.put,List.setIfInBounds_toArray,List.set_cons_zero,List.set_cons_succ,jF,jG]
     rfl
    refine pure_ (i:=7) (N:=some 37) (v:=undef) (a':=?_) #[true,true,true,true,true,true,true,true,false,false,false,false,false,false,false,false] rfl rfl (any_of HT_.out T4_) (fun _ _ _ h=>h) (Or.inr ⟨T0_,rfl⟩) ?_ ?_
    rotate_left
    ·simp only[Act.put,List.setIfInBounds_toArray,List.set_cons_zero,List.set_cons_succ,jF,jG]
     rfl
    refine pure_ (i:=8) (N:=some 38) (v:=undef) (a':=?_) #[true,true,true,true,true,true,true,true,true,false,false,false,false,false,false,false] rfl rfl (any_of HT_.out T4_) (fun _ _ _ h=>h) (Or.inr ⟨T0_,rfl⟩) ?_ ?_
    rotate_left
    ·simp only[Act.put,List.setIfInBounds_toArray,List.set_cons_zero,List.set_cons_succ,jF,jG]
     rfl
    refine pure_ (i:=9) (N:=some 39) (v:=undef) (a':=?_) #[true,true,true,true,true,true,true,true,true,true,false,false,false,false,false,false] rfl rfl (any_of HT_.out T4_) (fun _ _ _ h=>h) (Or.inr ⟨T0_,rfl⟩) ?_ ?_
    rotate_left
    ·simp only[Act.put,List.setIfInBounds_toArray,List.set_cons_zero,List.set_cons_succ,jF,jG]
     rfl
    refine pure_ (i:=10) (N:=some 40) (v:=undef) (a':=?_) #[true,true,true,true,true,true,true,true,true,true,true,false,false,false,false,false] rfl rfl (any_of HT_.out T4_) (fun _ _ _ h=>h) (Or.inr ⟨T0_,rfl⟩) ?_ ?_
    rotate_left
    ·simp only[Act.put,List.setIfInBounds_toArray,List.set_cons_zero,List.set_cons_succ,jF,jG]
     rfl
    refine pure_ (i:=11) (N:=some 41) (v:=undef) (a':=?_) #[true,true,true,true,true,true,true,true,true,true,true,true,false,false,false,false] rfl rfl (any_of HT_.out T4_) (fun _ _ _ h=>h) (Or.inr ⟨T0_,rfl⟩) ?_ ?_
    rotate_left
    ·simp only[Act.put,List.setIfInBounds_toArray,List.set_cons_zero,List.set_cons_succ,jF,jG]
     rfl
    refine pure_ (i:=12) (N:=some 42) (v:=undef) (a':=?_) #[true,true,true,true,true,true,true,true,true,true,true,true,true,false,false,false] rfl rfl (any_of HT_.out T4_) (fun _ _ _ h=>h) (Or.inr ⟨T0_,rfl⟩) ?_ ?_
    rotate_left
    ·simp only[Act.put,List.setIfInBounds_toArray,List.set_cons_zero,List.set_cons_succ,jF,jG]
     rfl
    refine pure_ (i:=13) (N:=some 43) (v:=undef) (a':=?_) #[true,true,true,true,true,true,true,true,true,true,true,true,true,true,false,false] rfl rfl (any_of HT_.out T4_) (fun _ _ _ h=>h) (Or.inr ⟨T0_,rfl⟩) ?_ ?_
    rotate_left
    ·simp only[Act.put,List.setIfInBounds_toArray,List.set_cons_zero,List.set_cons_succ,jF,jG]
     rfl
    refine pure_ (i:=14) (N:=some 44) (v:=undef) (a':=?_) #[true,true,true,true,true,true,true,true,true,true,true,true,true,true,true,false] rfl rfl (any_of HT_.out T4_) (fun _ _ _ h=>h) (Or.inr ⟨T0_,rfl⟩) ?_ ?_
    rotate_left
    ·simp only[Act.put,List.setIfInBounds_toArray,List.set_cons_zero,List.set_cons_succ,jF,jG]
     rfl
    refine pz_ 15 (some 45) ?_
    refine done_ (done_of HT_.out T4_) ?_
    try go_wp2
    go_ret2
    exact⟨_,T17_,T21_,T19_⟩
   rw[if_neg c10] at H
   have c10b0:=decide_eq_false c10
   clear c10
   replace H:=ifn_ H;obtain⟨c12,H⟩:=H
   have c12b0:=decide_eq_true c12
   clear c12
   by_cases c13:(rd l2 x8_2) ≥ (rd l1 x8_2)
   ·rw[if_pos c13] at H
    have c13b0:=decide_eq_true c13
    clear c13
    obtain⟨rfl,rfl⟩:=sj2_ H
    try go_wp2
    have n0_:=am_ (jJ HB.out)
    clear HB
    have HB:=n0_
    clear n0_
    have p826:0≤(x8_2:Int):=od_
    have q826:x8_2<(l2.length:Int):=od_
    obtain⟨ad826,e826,hx826_0⟩:=jy HR2.out x8_2 p826 q826
    have hw826_0:=hx826_0
    cases e826
    (try(replace hx826_0:=(HB.out.cell (World.block_lt_of_cell? w _ hx826_0)).trans hx826_0))
    replace p826:=eq_true p826
    replace q826:=eq_true q826
    have p827:0≤(x8_2:Int):=od_
    have q827:x8_2<(l2.length:Int):=od_
    obtain⟨ad827,e827,hx827_0⟩:=jy HR2.out x8_2 p827 q827
    have hw827_0:=hx827_0
    obtain rfl:ad826=ad827:=(by injection e827)
    (try(replace hx827_0:=(HB.out.cell (World.block_lt_of_cell? w _ hx827_0)).trans hx827_0))
    replace p827:=eq_true p827
    replace q827:=eq_true q827
    have p828:0≤(x8_2:Int):=od_
    have q828:x8_2<(l1.length:Int):=od_
    obtain⟨ad828,e828,hx828_0⟩:=jy HR1.out x8_2 p828 q828
    have hw828_0:=hx828_0
    cases e828
    (try(replace hx828_0:=(HB.out.cell (World.block_lt_of_cell? w _ hx828_0)).trans hx828_0))
    replace p828:=eq_true p828
    replace q828:=eq_true q828
    refine start_ (n:=16) (S:=fun w'=>w'.cell? (ad826.add (x8_2).toNat)=some (.int .i64 (rd l2 x8_2))∧w'.cell? (ad826.add (x8_2).toNat)=some (.int .i64 (rd l2 x8_2))∧w'.cell? (ad828.add (x8_2).toNat)=some (.int .i64 (rd l1 x8_2))) (ds:=[]) #[false,false,false,false,false,false,false,false,false,false,false,false,false,false,false,false] T4_ rfl rfl ⟨((HB.out.cell (World.block_lt_of_cell? w _ hw826_0)).trans hw826_0),((HB.out.cell (World.block_lt_of_cell? w _ hw827_0)).trans hw827_0),((HB.out.cell (World.block_lt_of_cell? w _ hw828_0)).trans hw828_0)⟩ (fun hHeld=>?_);refine Jf churnref10_Turn.tab6 churnref10_Turn.bits6 (fun HT_ HW_=>?_)
    generalize wr.drew=w14 at HB hx826_0 hx827_0 hx828_0 hHeld ⊢
    refine pz_ 0 (some 30) ?_
    refine pz_ 1 (some 31) ?_
    refine pz_ 2 (some 32) ?_
    refine tz3_ 3 (some 33) hHeld ?_
    refine pz_ 4 (some 34) ?_
    refine pz_ 5 (some 35) ?_
    refine pz_ 6 (some 36) ?_
    refine pz_ 7 (some 37) ?_
    refine pz_ 8 (some 38) ?_
    refine pz_ 10 (some 40) ?_
    refine pz_ 11 (some 41) ?_
    refine pz_ 12 (some 42) ?_
    refine tz3_ 9 (some 39) hHeld ?_
    refine tz3_ 13 (some 43) hHeld ?_
    refine pz_ 14 (some 44) ?_
    refine pz_ 15 (some 45) ?_
    refine done_ (done_of HT_.out T4_) ?_
    try go_wp2
    go_ret2
    exact⟨_,T17_,T21_,T19_⟩
   rw[if_neg c13] at H
   have c13b0:=decide_eq_false c13
   clear c13
   have H':=am_ H
   clear H
   try go_wp2
   have n0_:=am_ (jJ HB.out)
   clear HB
   have HB:=n0_
   clear n0_
   have p826:0≤(x8_2:Int):=od_
   have q826:x8_2<(l2.length:Int):=od_
   obtain⟨ad826,e826,hx826_0⟩:=jy HR2.out x8_2 p826 q826
   have hw826_0:=hx826_0
   cases e826
   (try(replace hx826_0:=(HB.out.cell (World.block_lt_of_cell? w _ hx826_0)).trans hx826_0))
   replace p826:=eq_true p826
   replace q826:=eq_true q826
   have p827:0≤(x8_2:Int):=od_
   have q827:x8_2<(l2.length:Int):=od_
   obtain⟨ad827,e827,hx827_0⟩:=jy HR2.out x8_2 p827 q827
   have hw827_0:=hx827_0
   obtain rfl:ad826=ad827:=(by injection e827)
   (try(replace hx827_0:=(HB.out.cell (World.block_lt_of_cell? w _ hx827_0)).trans hx827_0))
   replace p827:=eq_true p827
   replace q827:=eq_true q827
   have p828:0≤(x8_2:Int):=od_
   have q828:x8_2<(l1.length:Int):=od_
   obtain⟨ad828,e828,hx828_0⟩:=jy HR1.out x8_2 p828 q828
   have hw828_0:=hx828_0
   cases e828
   (try(replace hx828_0:=(HB.out.cell (World.block_lt_of_cell? w _ hx828_0)).trans hx828_0))
   replace p828:=eq_true p828
   replace q828:=eq_true q828
   refine start_ (n:=16) (S:=fun w'=>w'.cell? (ad826.add (x8_2).toNat)=some (.int .i64 (rd l2 x8_2))∧w'.cell? (ad826.add (x8_2).toNat)=some (.int .i64 (rd l2 x8_2))∧w'.cell? (ad828.add (x8_2).toNat)=some (.int .i64 (rd l1 x8_2))) (ds:=[]) #[false,false,false,false,false,false,false,false,false,false,false,false,false,false,false,false] T4_ rfl rfl ⟨((HB.out.cell (World.block_lt_of_cell? w _ hw826_0)).trans hw826_0),((HB.out.cell (World.block_lt_of_cell? w _ hw827_0)).trans hw827_0),((HB.out.cell (World.block_lt_of_cell? w _ hw828_0)).trans hw828_0)⟩ (fun hHeld=>?_);refine Jf churnref10_Turn.tab6 churnref10_Turn.bits6 (fun HT_ HW_=>?_)
   generalize wr.drew=w15 at HB hx826_0 hx827_0 hx828_0 hHeld ⊢
   refine pz_ 0 (some 30) ?_
   refine pz_ 1 (some 31) ?_
   refine pz_ 2 (some 32) ?_
   refine tz3_ 3 (some 33) hHeld ?_
   refine pz_ 4 (some 34) ?_
   refine pz_ 5 (some 35) ?_
   refine pz_ 6 (some 36) ?_
   refine pz_ 7 (some 37) ?_
   refine pz_ 8 (some 38) ?_
   refine pz_ 10 (some 40) ?_
   refine pz_ 11 (some 41) ?_
   refine pz_ 12 (some 42) ?_
   refine tz3_ 9 (some 39) hHeld ?_
   refine tz3_ 13 (some 43) hHeld ?_
   refine pz_ 14 (some 44) ?_
   refine pz_ 15 (some 45) ?_
   refine done_ (done_of HT_.out T4_) ?_
   try go_wp2
   go_roundg k2
   case measure=>have:=HJ3.out;have:=HK2.out;omega
   case rel=>exact⟨(wrap64 (x8_2+1)),T10_,H',⟨(by have:=HJ3.out;have:=HK2.out;omega)⟩,⟨T19_⟩⟩
def churnref11_Draws.l0:Nat→List Int→List Int→List Int→List Int→Int→Option (List Int×Int)
 | 0,_,_,_,_,_=>none
 | k+1,x0,x4,x5,x6,x7=>if x7 > 0 then(if 0≤x7 then(if x7<(x0.length:Int) then(if 0≤(rd x0 x7) then(if(rd x0 x7)<(x5.length:Int) then(if x6.length<17592186044416 then(if x7<(x4.length:Int) then(if 0≤(rd x5 (rd x0 x7)) then(if(rd x5 (rd x0 x7))<(x4.length:Int) then(if 0≤(rd x4 x7) then(if(rd x4 x7)<(x5.length:Int) then(if 0≤(rd x4 (rd x5 (rd x0 x7))) then(if(rd x4 (rd x5 (rd x0 x7)))<(x5.length:Int) then(churnref11_Draws.l0 k x0 ((x4.set (x7:Int).toNat (rd x4 (rd x5 (rd x0 x7)))).set ((rd x5 (rd x0 x7)):Int).toNat (rd x4 x7)) ((x5.set ((rd x4 x7):Int).toNat (rd x5 (rd x0 x7))).set ((rd x4 (rd x5 (rd x0 x7))):Int).toNat x7) (x6 ++ [rd x5 (rd x0 x7)]) (wrap64 (x7-1))) else(none)) else(none)) else(none)) else(none)) else(none)) else(none)) else(none)) else(none)) else(none)) else(none)) else(none)) else(none)) else(some (x6,0))
def churnref11_Draws.f (k:Nat) (l0:List Int):Option (List Int×Int):=(churnref11_Check.f k l0).bind fun t842=>(if t842=0 then((churnref11_Identity.f k (l0.length:Int)).bind fun t843=>((churnref11_Identity.f k (l0.length:Int)).bind fun t846=>(churnref11_Draws.l0 k l0 t843 t846 ([]:List Int) (wrap64 ((l0.length:Int)-1))))) else(some (([]:List Int),110)))
set_option maxHeartbeats 8000000 in
set_option maxRecDepth 100000 in
theorem churnref11_Draws.calls (k:Nat) (A0:Option Addr) (c0:Nat) (l0:List Int) (r1:List Int) (r2:Int) (w:World) (hr0:jX (jb .i64) w A0 l0.length l0) (hc0:l0.length≤c0) (h:churnref11_Draws.f k l0=some (r1,r2)) :
  Calls Try.prog 30 #[.slice A0 l0.length c0] w fun e w'=>∃ v0_:Value,e = .returned (.tuple #[v0_,.int .i64 r2])∧jt (jb .i64) 3 w' w.heap.size (fun _=>True) v0_ r1∧Below w.heap.size w w':=by
 have HR0:=am_ hr0
 have HC0:=am_ hc0
 clear hr0 hc0
 have HB:=am_ (Below.refl w.heap.size w)
 have H:((churnref11_Check.f k l0).bind fun t842=>(if t842=0 then((churnref11_Identity.f k (l0.length:Int)).bind fun t843=>((churnref11_Identity.f k (l0.length:Int)).bind fun t846=>(churnref11_Draws.l0 k l0 t843 t846 ([]:List Int) (wrap64 ((l0.length:Int)-1))))) else(some (([]:List Int),110))))=some (r1,r2):=h
 clear h
 replace H:=Option.bind_eq_some_iff.mp H
 obtain⟨t842,A20,H⟩:=H
 try dsimp only at H
 have A2:=am_ A20
 clear A20
 by_cases c3:t842=0
 rotate_left
 ·rw[if_neg c3] at H
  obtain⟨c3b0,c3b1⟩:=en_ c3
  obtain⟨rfl,rfl⟩:=sj2_ H
  go_enter Try.func30,Try.ntmps30
  iterate 4 ((try go_quiet(fail));go_wp2_with(first|(go_at_call 25;(with_reducible refine(churnref11_Check.calls k _ _ l0 t842 _ ?side1 ?side2 A2.out).mono ?_);(try clear A2);(case side1=>exact cu_ HR0.out);(case side2=>exact HC0.out);rintro e w37 ⟨rfl,hb⟩;have n0_:=am_ (jk T19_ hb);clear HB;have HB:=n0_;clear n0_;clear hb)))
  go_ret2
  exact⟨_,T17_,T21_,T19_⟩
 rw[if_pos c3] at H
 obtain⟨c3b0,c3b1⟩:=ep_ c3
 clear c3
 replace H:=Option.bind_eq_some_iff.mp H
 obtain⟨t843,A40,H⟩:=H
 try dsimp only at H
 have A4:=am_ A40
 clear A40
 replace H:=Option.bind_eq_some_iff.mp H
 obtain⟨t846,A50,H⟩:=H
 try dsimp only at H
 have A5:=am_ A50
 clear A50
 have H':=am_ H
 clear H
 go_enter Try.func30,Try.ntmps30
 iterate 4 ((try go_quiet(fail));go_wp2_with(first|(go_at_call 25;(with_reducible refine(churnref11_Check.calls k _ _ l0 t842 _ ?side1 ?side2 A2.out).mono ?_);(try clear A2);(case side1=>exact cu_ HR0.out);(case side2=>exact HC0.out);rintro e w6 ⟨rfl,hb⟩;have n0_:=am_ (jk T19_ hb);clear HB;have HB:=n0_;clear n0_;clear hb)|(go_at_call 54;(with_reducible refine(churnref11_Identity.calls k (l0.length:Int) t843 _ A4.out).mono ?_);(try clear A4);rintro e w7 ⟨v844,rfl,ho0,hb⟩;have n_:=P2_ (jq ho0 (jc T19_)) (jk T19_ hb);clear HB;obtain⟨HO845,HB⟩:=n_;clear hb ho0)|(go_at_call 54;(with_reducible refine(churnref11_Identity.calls k (l0.length:Int) t846 _ A5.out).mono ?_);(try clear A5);rintro e w8 ⟨v847,rfl,ho0,hb⟩;have n_:=P3_ (jg (ru_ HO845.out) (jf ho0) hb) (jq (jj ho0 (jh (ru_ HO845.out))) (jc T19_)) (jk T19_ hb);clear HO845 HB;obtain⟨HO845,HO848,HB⟩:=n_;clear hb ho0)))
 go_loopg [6,7] k (fun kq v6 v7 w'=>∃ (x4_1:List Int) (x5_1:List Int) (x6_1:List Int) (x7_1:Int),v7 = .int .i64 x7_1∧Aside0 (churnref11_Draws.l0 kq l0 x4_1 x5_1 x6_1 x7_1=some (r1,r2))∧Aside0 (kq≤k)∧Aside0 (jt (jb .i64) 3 w' w.heap.size (fun k_=>ne_ k_ v847∧ne_ k_ v6) v844 x4_1)∧Aside0 (jt (jb .i64) 3 w' w.heap.size (fun k_=>ne_ k_ v844∧ne_ k_ v6) v847 x5_1)∧Aside0 (jt (jb .i64) 3 w' w.heap.size (fun k_=>ne_ k_ v844∧ne_ k_ v847) v6 x6_1)∧Aside0 (Below w.heap.size w w'))
 case atStart=>exact⟨(t843),(t846),(([]:List Int)),(wrap64 ((l0.length:Int)-1)),T10_,H',⟨Nat.le_refl _⟩,⟨ru_ (ja HO845.out (fun _ hk=>⟨hk.2,T6_⟩))⟩,⟨ru_ (ja HO848.out (fun _ hk=>⟨hk.2,T6_⟩))⟩,⟨T21_⟩,⟨T19_⟩⟩
 clear H'
 (try clear c3);(try clear c3b0 c3b1)
 obtain⟨x4_1,x5_1,x6_1,x7_1,rfl,HA,HK1,HO_4,HO_5,HO_6,HB⟩:=hrel
 cases gk with
 | zero=>exact absurd HA.out (by simp[churnref11_Draws.l0])
 | succ k1 =>
  have H:=HA.out
  clear HA
  simp only[churnref11_Draws.l0] at H
  by_cases c9:x7_1 > 0
  rotate_left
  ·rw[if_neg c9] at H
   have c9b0:=decide_eq_false c9
   clear c9
   obtain⟨rfl,rfl⟩:=sj2_ H
   go_wp2
   repeat(go_quiet(fail);try go_wp2)
   go_ret2
   exact⟨_,T17_,ru_ (ja HO_6.out (fun _ hk=>trivial)),T19_⟩
  rw[if_pos c9] at H
  have c9b0:=decide_eq_true c9
  clear c9
  replace H:=ifn_ H;obtain⟨c10,H⟩:=H
  have c10b0:=decide_eq_true c10
  clear c10
  replace H:=ifn_ H;obtain⟨c11,H⟩:=H
  have c11b0:=decide_eq_true c11
  clear c11
  replace H:=ifn_ H;obtain⟨c12,H⟩:=H
  have c12b0:=decide_eq_true c12
  clear c12
  replace H:=ifn_ H;obtain⟨c13,H⟩:=H
  have c13b0:=decide_eq_true c13
  clear c13
  replace H:=ifa_ H;obtain⟨LMc14,H⟩:=H
  obtain⟨y851,hy_⟩:∃ y_:List Int,y_=(x6_1 ++ [rd x5_1 (rd l0 x7_1)]):=⟨_,rfl⟩
  replace H:(if x7_1<(x4_1.length:Int) then(if 0≤(rd x5_1 (rd l0 x7_1)) then(if(rd x5_1 (rd l0 x7_1))<(x4_1.length:Int) then(if 0≤(rd x4_1 x7_1) then(if(rd x4_1 x7_1)<(x5_1.length:Int) then(if 0≤(rd x4_1 (rd x5_1 (rd l0 x7_1))) then(if(rd x4_1 (rd x5_1 (rd l0 x7_1)))<(x5_1.length:Int) then(churnref11_Draws.l0 k1 l0 ((x4_1.set (x7_1:Int).toNat (rd x4_1 (rd x5_1 (rd l0 x7_1)))).set ((rd x5_1 (rd l0 x7_1)):Int).toNat (rd x4_1 x7_1)) ((x5_1.set ((rd x4_1 x7_1):Int).toNat (rd x5_1 (rd l0 x7_1))).set ((rd x4_1 (rd x5_1 (rd l0 x7_1))):Int).toNat x7_1) y851 (wrap64 (x7_1-1))) else(none)) else(none)) else(none)) else(none)) else(none)) else(none)) else(none))=some (r1,r2):=hyw_
  have Ny851:=am_ hy_
  clear hy_
  replace H:=ifn_ H;obtain⟨c15,H⟩:=H
  have c15b0:=decide_eq_true c15
  clear c15
  replace H:=ifn_ H;obtain⟨c16,H⟩:=H
  have c16b0:=decide_eq_true c16
  clear c16
  replace H:=ifn_ H;obtain⟨c17,H⟩:=H
  have c17b0:=decide_eq_true c17
  clear c17
  obtain⟨y856,hy_⟩:∃ y_:List Int,y_=(x4_1.set (x7_1:Int).toNat (rd x4_1 (rd x5_1 (rd l0 x7_1)))):=⟨_,rfl⟩
  replace H:(if 0≤(rd x4_1 x7_1) then(if(rd x4_1 x7_1)<(x5_1.length:Int) then(if 0≤(rd x4_1 (rd x5_1 (rd l0 x7_1))) then(if(rd x4_1 (rd x5_1 (rd l0 x7_1)))<(x5_1.length:Int) then(churnref11_Draws.l0 k1 l0 (y856.set ((rd x5_1 (rd l0 x7_1)):Int).toNat (rd x4_1 x7_1)) ((x5_1.set ((rd x4_1 x7_1):Int).toNat (rd x5_1 (rd l0 x7_1))).set ((rd x4_1 (rd x5_1 (rd l0 x7_1))):Int).toNat x7_1) y851 (wrap64 (x7_1-1))) else(none)) else(none)) else(none)) else(none))=some (r1,r2):=hyw_
  have Ny856:=am_ hy_
  clear hy_
  obtain⟨y857,hy_⟩:∃ y_:List Int,y_=(y856.set ((rd x5_1 (rd l0 x7_1)):Int).toNat (rd x4_1 x7_1)):=⟨_,rfl⟩
  replace H:(if 0≤(rd x4_1 x7_1) then(if(rd x4_1 x7_1)<(x5_1.length:Int) then(if 0≤(rd x4_1 (rd x5_1 (rd l0 x7_1))) then(if(rd x4_1 (rd x5_1 (rd l0 x7_1)))<(x5_1.length:Int) then(churnref11_Draws.l0 k1 l0 y857 ((x5_1.set ((rd x4_1 x7_1):Int).toNat (rd x5_1 (rd l0 x7_1))).set ((rd x4_1 (rd x5_1 (rd l0 x7_1))):Int).toNat x7_1) y851 (wrap64 (x7_1-1))) else(none)) else(none)) else(none)) else(none))=some (r1,r2):=hyw_
  have Ny857:=am_ hy_
  clear hy_
  replace H:=ifn_ H;obtain⟨c20,H⟩:=H
  have c20b0:=decide_eq_true c20
  clear c20
  replace H:=ifn_ H;obtain⟨c21,H⟩:=H
  have c21b0:=decide_eq_true c21
  clear c21
  obtain⟨y858,hy_⟩:∃ y_:List Int,y_=(x5_1.set ((rd x4_1 x7_1):Int).toNat (rd x5_1 (rd l0 x7_1))):=⟨_,rfl⟩
  replace H:(if 0≤(rd x4_1 (rd x5_1 (rd l0 x7_1))) then(if(rd x4_1 (rd x5_1 (rd l0 x7_1)))<(x5_1.length:Int) then(churnref11_Draws.l0 k1 l0 y857 (y858.set ((rd x4_1 (rd x5_1 (rd l0 x7_1))):Int).toNat x7_1) y851 (wrap64 (x7_1-1))) else(none)) else(none))=some (r1,r2):=hyw_
  have Ny858:=am_ hy_
  clear hy_
  replace H:=ifn_ H;obtain⟨c23,H⟩:=H
  have c23b0:=decide_eq_true c23
  clear c23
  replace H:=ifn_ H;obtain⟨c24,H⟩:=H
  have c24b0:=decide_eq_true c24
  clear c24
  obtain⟨y859,hy_⟩:∃ y_:List Int,y_=(y858.set ((rd x4_1 (rd x5_1 (rd l0 x7_1))):Int).toNat x7_1):=⟨_,rfl⟩
  replace H:(churnref11_Draws.l0 k1 l0 y857 y859 y851 (wrap64 (x7_1-1)))=some (r1,r2):=hyw_
  have Ny859:=am_ hy_
  clear hy_
  have H':=am_ H
  clear H
  have p849:0≤(x7_1:Int):=od_
  have q849:x7_1<(l0.length:Int):=od_
  obtain⟨ad849,e849,hx849_0⟩:=jy HR0.out x7_1 p849 q849
  cases e849
  (try(replace hx849_0:=(HB.out.cell (World.block_lt_of_cell? w _ hx849_0)).trans hx849_0))
  replace p849:=eq_true p849
  replace q849:=eq_true q849
  obtain⟨Ao26,co26,eo26⟩:=jp HO_5.out
  subst eo26
  obtain⟨ad850,e850,hx850_0,p850,q850⟩:=ai_ (ji HO_5.out).2.2 (rd l0 x7_1)
  cases e850
  iterate 4 ((try go_quiet(fail));go_wp2_with(first|(refine gb_ .append #[.tmp 34,.tmp 36] ?_;at_builtin;refine Jd (jb .i64) (w0:=w) w.heap.size rfl (.tmp 34) (.tmp 36) 24 3 (.int .i64 0) 8 rfl Try.underlying24 info3 rfl T3_ T2_ u6 x6_1 (rd x5_1 (rd l0 x7_1)) [.int .i64 (rd x5_1 (rd l0 x7_1))] (fun k_=>ne_ k_ v844∧ne_ k_ (.slice (some ad850) x5_1.length co26)) (fun _=>False) rfl rfl ?aP (fun _ hk=>hk.elim) ?aF ?aO ?aB ?aS ?aL ?_;(case aP=>exact rfl);(case aB=>exact T19_);(case aF=>exact(fun k_ hk=>⟨jA (jh (ru_ HO_4.out)) k_ hk,jA (jh (ru_ HO_5.out)) k_ hk⟩));(case aO=>exact(ru_ HO_6.out));(case aS=>exact(jc T19_));(case aL=>have:=LMc14.out;omega);intro v852 w27 ho hb hg hat;rw[←Ny851.out] at ho;have n_:=P4_ (jv (ok:=(fun k_=>ne_ k_ (.slice (some ad850) x5_1.length co26))) (ru_ HO_4.out) hg hat) (jv (ok:=(fun k_=>ne_ k_ v844)) (ru_ HO_5.out) hg hat) (hb) (ho);clear HO_4 HO_5 HB HO_6;obtain⟨HO_4,HO_5,HB,HO853⟩:=n_;clear ho hb hg hat;obtain⟨Ao28,co28,eo28⟩:=jp HO_4.out;subst eo28;have p854:0≤(x7_1:Int):=od_;have q854:x7_1<(x4_1.length:Int):=od_;obtain⟨ad854,e854,hx854_0⟩:=jy (ji HO_4.out).2.2 x7_1 p854 q854;cases e854;replace p854:=eq_true p854;replace q854:=eq_true q854;have p855:0≤((rd x5_1 (rd l0 x7_1)):Int):=od_;have q855:(rd x5_1 (rd l0 x7_1))<(x4_1.length:Int):=od_;obtain⟨ad855,e855,hx855_0⟩:=jy (ji HO_4.out).2.2 (rd x5_1 (rd l0 x7_1)) p855 q855;obtain rfl:ad854=ad855:=(by injection e855);replace p855:=eq_true p855;replace q855:=eq_true q855;have p18:0≤(x7_1:Int):=od_;have q18:(x7_1:Int)<((x4_1.length:Int):Int):=od_;obtain⟨go18,co18,eo18,gb18,gl18,cl18,HG18⟩:=Kd.R_form HO_4.out T2_;(first|cases eo18|(injection eo18 with ea_ en_ ec_;(first|subst ea_|(injection ea_ with ea_;subst ea_));subst ec_;clear en_));have GB18:=am_ gb18;have GG18:=am_ HG18;clear gb18 gl18 HG18;(first|simp only[jW] at hx854_0|skip);(first|simp only[jW] at hx855_0|skip);obtain⟨hx18_0,hf18_0⟩:=jH 0 HO_4.out (x7_1:Int) p18 q18;replace p18:=eq_true p18;replace q18:=eq_true q18;obtain⟨hy29_,hz29_⟩:=jH 0 HO_4.out (x7_1:Int) (od_) (od_);have HP29:=Kd.R_putg HO_4.out (x7_1:Int) (rd x4_1 (rd x5_1 (rd l0 x7_1))))|(refine gs_ 3 52 ?_;(try(rw[drewN_self w27];generalize hq_:World.drewN w27 _=w27;have n_:=P4_ (Kd.R_at hq_ HO_4.out) (Kd.R_at hq_ HO_5.out) (Kd.R_at hq_ HO853.out) (below_at hq_ HB.out);obtain⟨HO_4,HO_5,HO853,HB⟩:=n_;(try(obtain⟨hy29_,hz29_⟩:=jH 0 HO_4.out (x7_1:Int) (od_) (od_)));(try(have HP29:=Kd.R_putg HO_4.out (x7_1:Int) (rd x4_1 (rd x5_1 (rd l0 x7_1)))))));refine sv_ 3 52 (w27.setCell ⟨go18,(x7_1:Int).toNat,none⟩ (.int .i64 (rd x4_1 (rd x5_1 (rd l0 x7_1))))) ?_;intro w30 hw;have hg:w27.grownBy w30 (some go18):=(by rw[hw];exact HP29.2);have hp_:jt (jb .i64) 3 w30 w.heap.size (fun k_=>ne_ k_ (.slice (some ad850) x5_1.length co26)∧ne_ k_ v852) (.slice (some ⟨go18,0,none⟩) x4_1.length co28) y856:=(by rw[hw,Ny856.out];exact HP29.1);clear HP29;have n_:=P4_ (hp_) (jv (v:=(.slice (some ⟨go18,0,none⟩) x4_1.length co28)) (v1:=(.slice (some ⟨go18,0,none⟩) x4_1.length co28)) (ok:=(fun k_=>ne_ k_ v852)) (ru_ (ja HO_5.out (fun _ hk=>⟨hk.2,hk.1⟩))) hg (.inl rfl)) (jv (v:=(.slice (some ⟨go18,0,none⟩) x4_1.length co28)) (v1:=(.slice (some ⟨go18,0,none⟩) x4_1.length co28)) (ok:=(fun k_=>ne_ k_ (.slice (some ad850) x5_1.length co26))) (ru_ (ja HO853.out (fun _ hk=>⟨hk.2,hk.1⟩))) hg (.inl rfl)) ((by rw[hw];exact jO (HB.out) GB18.out:Below w.heap.size w w30));clear HO_4 HO_5 HO853 HB;obtain⟨HO_4,HO_5,HO853,HB⟩:=n_;clear hg hw hp_;have p19:0≤((rd x5_1 (rd l0 x7_1)):Int):=od_;have q19:((rd x5_1 (rd l0 x7_1)):Int)<((x4_1.length:Int):Int):=od_;obtain⟨hx19_0,hf19_0⟩:=jH 0 HO_4.out ((rd x5_1 (rd l0 x7_1)):Int) p19 q19;replace p19:=eq_true p19;replace q19:=eq_true q19;obtain⟨hy31_,hz31_⟩:=jH 0 HO_4.out ((rd x5_1 (rd l0 x7_1)):Int) (od_) (od_);have HP31:=Kd.R_putg HO_4.out ((rd x5_1 (rd l0 x7_1)):Int) (rd x4_1 x7_1))|(refine gs_ 3 53 ?_;(try(rw[drewN_self w30];generalize hq_:World.drewN w30 _=w30;have n_:=P4_ (Kd.R_at hq_ HO_4.out) (Kd.R_at hq_ HO_5.out) (Kd.R_at hq_ HO853.out) (below_at hq_ HB.out);obtain⟨HO_4,HO_5,HO853,HB⟩:=n_;(try(obtain⟨hy31_,hz31_⟩:=jH 0 HO_4.out ((rd x5_1 (rd l0 x7_1)):Int) (od_) (od_)));(try(have HP31:=Kd.R_putg HO_4.out ((rd x5_1 (rd l0 x7_1)):Int) (rd x4_1 x7_1)))));refine sv_ 3 53 (w30.setCell ⟨go18,((rd x5_1 (rd l0 x7_1)):Int).toNat,none⟩ (.int .i64 (rd x4_1 x7_1))) ?_;intro w32 hw;have hg:w30.grownBy w32 (some go18):=(by rw[hw];exact HP31.2);have hp_:jt (jb .i64) 3 w32 w.heap.size (fun k_=>ne_ k_ (.slice (some ad850) x5_1.length co26)∧ne_ k_ v852) (.slice (some ⟨go18,0,none⟩) x4_1.length co28) y857:=(by rw[hw,Ny857.out];exact HP31.1);clear HP31;have n_:=P4_ (hp_) (jv (v:=(.slice (some ⟨go18,0,none⟩) x4_1.length co28)) (v1:=(.slice (some ⟨go18,0,none⟩) x4_1.length co28)) (ok:=(fun k_=>ne_ k_ v852)) (ru_ HO_5.out) hg (.inl rfl)) (jv (v:=(.slice (some ⟨go18,0,none⟩) x4_1.length co28)) (v1:=(.slice (some ⟨go18,0,none⟩) x4_1.length co28)) (ok:=(fun k_=>ne_ k_ (.slice (some ad850) x5_1.length co26))) (ru_ HO853.out) hg (.inl rfl)) ((by rw[hw];exact jO (HB.out) GB18.out:Below w.heap.size w w32));clear HO_4 HO_5 HO853 HB;obtain⟨HO_4,HO_5,HO853,HB⟩:=n_;clear hg hw hp_;have p22:0≤((rd x4_1 x7_1):Int):=od_;have q22:((rd x4_1 x7_1):Int)<((x5_1.length:Int):Int):=od_;obtain⟨go22,co22,eo22,gb22,gl22,cl22,HG22⟩:=Kd.R_form HO_5.out T2_;(first|cases eo22|(injection eo22 with ea_ en_ ec_;(first|subst ea_|(injection ea_ with ea_;subst ea_));subst ec_;clear en_));have GB22:=am_ gb22;have GG22:=am_ HG22;clear gb22 gl22 HG22;(first|simp only[jW] at hx850_0|skip);obtain⟨hx22_0,hf22_0⟩:=jH 0 HO_5.out ((rd x4_1 x7_1):Int) p22 q22;replace p22:=eq_true p22;replace q22:=eq_true q22;obtain⟨hy33_,hz33_⟩:=jH 0 HO_5.out ((rd x4_1 x7_1):Int) (od_) (od_);have HP33:=Kd.R_putg HO_5.out ((rd x4_1 x7_1):Int) (rd x5_1 (rd l0 x7_1)))|(refine gs_ 3 60 ?_;(try(rw[drewN_self w32];generalize hq_:World.drewN w32 _=w32;have n_:=P4_ (Kd.R_at hq_ HO_4.out) (Kd.R_at hq_ HO_5.out) (Kd.R_at hq_ HO853.out) (below_at hq_ HB.out);obtain⟨HO_4,HO_5,HO853,HB⟩:=n_;(try(obtain⟨hy33_,hz33_⟩:=jH 0 HO_5.out ((rd x4_1 x7_1):Int) (od_) (od_)));(try(have HP33:=Kd.R_putg HO_5.out ((rd x4_1 x7_1):Int) (rd x5_1 (rd l0 x7_1))))));refine sv_ 3 60 (w32.setCell ⟨go22,((rd x4_1 x7_1):Int).toNat,none⟩ (.int .i64 (rd x5_1 (rd l0 x7_1)))) ?_;intro w34 hw;have hg:w32.grownBy w34 (some go22):=(by rw[hw];exact HP33.2);have hp_:jt (jb .i64) 3 w34 w.heap.size (fun k_=>ne_ k_ v852∧ne_ k_ (.slice (some ⟨go18,0,none⟩) x4_1.length co28)) (.slice (some ⟨go22,0,none⟩) x5_1.length co26) y858:=(by rw[hw,Ny858.out];exact HP33.1);clear HP33;have n_:=P4_ (jv (v:=(.slice (some ⟨go22,0,none⟩) x5_1.length co26)) (v1:=(.slice (some ⟨go22,0,none⟩) x5_1.length co26)) (ok:=(fun k_=>ne_ k_ v852)) (ru_ (ja HO_4.out (fun _ hk=>⟨hk.2,hk.1⟩))) hg (.inl rfl)) (hp_) (jv (v:=(.slice (some ⟨go22,0,none⟩) x5_1.length co26)) (v1:=(.slice (some ⟨go22,0,none⟩) x5_1.length co26)) (ok:=(fun k_=>ne_ k_ (.slice (some ⟨go18,0,none⟩) x4_1.length co28))) (ru_ (ja HO853.out (fun _ hk=>⟨hk.2,hk.1⟩))) hg (.inl rfl)) ((by rw[hw];exact jO (HB.out) GB22.out:Below w.heap.size w w34));clear HO_4 HO_5 HO853 HB;obtain⟨HO_4,HO_5,HO853,HB⟩:=n_;clear hg hw hp_;have p25:0≤((rd x4_1 (rd x5_1 (rd l0 x7_1))):Int):=od_;have q25:((rd x4_1 (rd x5_1 (rd l0 x7_1))):Int)<((x5_1.length:Int):Int):=od_;obtain⟨hx25_0,hf25_0⟩:=jH 0 HO_5.out ((rd x4_1 (rd x5_1 (rd l0 x7_1))):Int) p25 q25;replace p25:=eq_true p25;replace q25:=eq_true q25;obtain⟨hy35_,hz35_⟩:=jH 0 HO_5.out ((rd x4_1 (rd x5_1 (rd l0 x7_1))):Int) (od_) (od_);have HP35:=Kd.R_putg HO_5.out ((rd x4_1 (rd x5_1 (rd l0 x7_1))):Int) x7_1)|(refine gs_ 3 61 ?_;(try(rw[drewN_self w34];generalize hq_:World.drewN w34 _=w34;have n_:=P4_ (Kd.R_at hq_ HO_4.out) (Kd.R_at hq_ HO_5.out) (Kd.R_at hq_ HO853.out) (below_at hq_ HB.out);obtain⟨HO_4,HO_5,HO853,HB⟩:=n_;(try(obtain⟨hy35_,hz35_⟩:=jH 0 HO_5.out ((rd x4_1 (rd x5_1 (rd l0 x7_1))):Int) (od_) (od_)));(try(have HP35:=Kd.R_putg HO_5.out ((rd x4_1 (rd x5_1 (rd l0 x7_1))):Int) x7_1))));refine sv_ 3 61 (w34.setCell ⟨go22,((rd x4_1 (rd x5_1 (rd l0 x7_1))):Int).toNat,none⟩ (.int .i64 x7_1)) ?_;intro w36 hw;have hg:w34.grownBy w36 (some go22):=(by rw[hw];exact HP35.2);have hp_:jt (jb .i64) 3 w36 w.heap.size (fun k_=>ne_ k_ v852∧ne_ k_ (.slice (some ⟨go18,0,none⟩) x4_1.length co28)) (.slice (some ⟨go22,0,none⟩) x5_1.length co26) y859:=(by rw[hw,Ny859.out];exact HP35.1);clear HP35;have n_:=P4_ (jv (v:=(.slice (some ⟨go22,0,none⟩) x5_1.length co26)) (v1:=(.slice (some ⟨go22,0,none⟩) x5_1.length co26)) (ok:=(fun k_=>ne_ k_ v852)) (ru_ HO_4.out) hg (.inl rfl)) (hp_) (jv (v:=(.slice (some ⟨go22,0,none⟩) x5_1.length co26)) (v1:=(.slice (some ⟨go22,0,none⟩) x5_1.length co26)) (ok:=(fun k_=>ne_ k_ (.slice (some ⟨go18,0,none⟩) x4_1.length co28))) (ru_ HO853.out) hg (.inl rfl)) ((by rw[hw];exact jO (HB.out) GB22.out:Below w.heap.size w w36));clear HO_4 HO_5 HO853 HB;obtain⟨HO_4,HO_5,HO853,HB⟩:=n_;clear hg hw hp_)))
  go_roundg k1
  case measure=>have:=HK1.out;omega
  case rel=>exact⟨(y857),(y859),(y851),(wrap64 (x7_1-1)),T10_,H',⟨T7_⟩,⟨ru_ (ja HO_4.out (fun _ hk=>⟨hk.2,hk.1⟩))⟩,⟨ru_ (ja HO_5.out (fun _ hk=>⟨hk.2,hk.1⟩))⟩,⟨ru_ HO853.out⟩,⟨T19_⟩⟩
end Go.Proofs.Ytbnifpfnjhdenaa.Q
end
