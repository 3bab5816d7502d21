/- Functions of the program as plain Lean functions, each with a proof that its call comes to just these answers, and the row that joins them to the given statement; no condition beside the statement's own. Written for this claim by this session's programs (pf.py, pack.py) over the kit's print. -/
import Derived.Laws.CopyOwn
import Derived.Deep.WholeRow
import Derived.Deep.QuietTactic
import Derived.BigQuiet
import Derived.Test.YtbnifpfnjhdenaaZRiffleAlone0
import Derived.Test.YtbnifpfnjhdenaaZRiffleAlone1
import Derived.Test.YtbnifpfnjhdenaaZRiffleAlone2
import Derived.Test.YtbnifpfnjhdenaaZRiffleAlone3
import Derived.Test.YtbnifpfnjhdenaaZRiffleAlone4
import Derived.Test.YtbnifpfnjhdenaaZRiffleAlone5
import Derived.Test.YtbnifpfnjhdenaaZRiffleAlone6
section
set_option linter.unusedVariables false
set_option linter.unusedSimpArgs false
namespace Go.Proofs.Ytbnifpfnjhdenaa.Q
open Go.RowKit Go.Proofs.YtbnifpfnjhdenaaW.PrintWords Go.Proofs.YtbnifpfnjhdenaaW.PrintLast Go.Proofs.YtbnifpfnjhdenaaW.PrintMore Go.Proofs.Ytbnifpfnjhdenaa.Pl
structure RaAns (k:Nat) (p ys l:List Int) (ch:Int) (o s:List Int) (e:Int):Prop where
 al:churnlaw13_alive.f k=some true
 od:riffle_Order.f k p (l.length:Int) ch=some (o,e)
 sh:riffle_Shuffle_int.f k p ch l=some (s,e)
 oq:riffle_Order.f k (ys.take p.length ++ p.drop 18) (l.length:Int) ch=some (o,e)
 sm:churnlaw13_same.f k o o=some true
 len:s.length=o.length∧(e=0→o.length=l.length)∧o.length≤l.length
 at_:∀ i:Nat,i<o.length→0≤rd o i∧rd o i<(l.length:Int)∧rd s i=rd l (rd o i)
theorem noise_reads {W:World} {n:Nat} {ys:List Int} (hl:ys.length=18) (h:W.rangeAt n 0 (ys.map (Value.int .u8))):Kd.C (Kd.int .u8) W (some ⟨n,0,none⟩) 18 ys:=by
 refine Kd.C_of_reads (d:=(0:Int)) ⟨hl,by omega,fun _=>⟨_,rfl,fun j hj=>?_⟩⟩
 rw[show((⟨n,0,none⟩:Addr).add j)=⟨n,0+j,none⟩ from Addr.add_mid n 0 j]
 have hj2:j<ys.length:=by omega
 exact h j _ (by rw[List.getElem?_map,List.getElem?_eq_getElem hj2];simp[List.getD_eq_getElem?_getD,hj2])
theorem below_setCells {B g:Nat} {w0 w:World} (hb:Below B w0 w) (cs:List Value) (o:Nat) (hg:B≤g:=by omega):Below B w0 (w.setCells g o cs):=by
 obtain⟨h1,h2,h3,h4⟩:=setCells_same g cs o w
 exact hb.trans ⟨h1,h2,h3,by omega,fun k hk=>setCells_far cs o k (by omega)⟩
theorem R_none (k:IntKind) (T base:Nat) (W:World) (hb:base≤W.heap.size):Kd.R (Kd.int k) T (W.alloc (.cells #[] T)) base (fun _=>True) (.slice (some ⟨W.heap.size,0,none⟩) 0 0) []:=by
 have h2:=World.ownsRow_lit (base:=base) (e:=T) (size:=1) W #[] 0 hb (by simp[maxLen]) (by simp)
 exact Kd.R_of_own (by simpa [encs] using h2) (fun _ _=>trivial)
theorem own_whole {k:IntKind} {T base:Nat} {W:World} {ok:Nat→Prop} {v:Value} {xs:List Int} (h:Kd.R (Kd.int k) T W base ok v xs) (hn:v.ownBlock≠none) :
  ∃ g cap cur,v = .slice (some ⟨g,0,none⟩) xs.length cap∧base≤g∧W.heap[g]? = some (.cells (cur:List Value).toArray T (0,0))∧xs.length≤cap∧cap≤maxLen∧cur.length=cap∧cur.take xs.length=xs.map (Value.int k):=by
 obtain⟨-,h|⟨g,cap,cur,e,hb,hg,h1,h2,h3,h4⟩⟩:=Kd.own_of_R h
 ·exact absurd (by rw[h.1];rfl) hn
 ·exact⟨g,cap,cur.toList,e,hb,by simpa using hg,h1,h2,by simpa using h3,by simpa [encs] using h4⟩
theorem splice_row {k:IntKind} {T base g cap dl:Nat} {W:World} {p ys:List Int} {cur:List Value} (hb:base≤g) (hl:p.length≤cap) (hm:cap≤maxLen) (hc:cur.length=cap) (ht:cur.take p.length=p.map (Value.int k))
  (hd:dl≤p.length) (hy:dl≤ys.length) (h:W.heap[g]? = some (.cells (splice cur 0 ((ys.take dl).map (Value.int k))).toArray T (0,0))) :
  Kd.R (Kd.int k) T W base (fun _=>True) (.slice (some ⟨g,0,none⟩) p.length cap) (ys.take dl ++ p.drop dl):=by
 have hlen:(ys.take dl ++ p.drop dl).length=p.length:=by simp;omega
 have e1:(splice cur 0 ((ys.take dl).map (Value.int k))).take p.length=(ys.take dl ++ p.drop dl).map (Value.int k):=by
  have hcd:((ys.take dl).map (Value.int k)).length=dl:=by simp;omega
  unfold splice
  rw[List.take_zero,List.nil_append,Nat.zero_add,hcd,List.take_append,hcd,List.map_append,List.take_of_length_le (by omega),List.take_drop,show dl+(p.length-dl)=p.length from by omega,ht,List.map_drop]
 rw[show p.length=(ys.take dl ++ p.drop dl).length from hlen.symm] at hl e1 ⊢
 refine Kd.R_of_own ?_ (fun _ _=>trivial)
 refine⟨by simp[encs],.inr ⟨g,cap,_,rfl,hb,h,hl,hm,?_,?_⟩⟩
 ·simp[splice];omega
 ·simpa [encs] using e1
theorem noise_src {W:World} {n dl:Nat} {ys:List Int} (h:Kd.C (Kd.int .u8) W (some ⟨n,0,none⟩) 18 ys) (j:Nat) (v:Value) (hv:((ys.take dl).map (Value.int .u8))[j]? = some v):W.cell? ((⟨n,0,none⟩:Addr).add j)=some v:=by
 have hR:=Kd.reads_of_C (enc:=Value.int .u8) (d:=(0:Int)) (h1:=fun _=>rfl) h
 obtain⟨ad,e,hc⟩:=hR.2.2 (by omega)
 injection e with e
 subst e
 rw[List.getElem?_map,List.getElem?_take] at hv
 have hl:=hR.1
 split at hv
 ·obtain⟨y,hy,rfl⟩:=Option.map_eq_some_iff.1 hv
  have hj:=(List.getElem?_eq_some_iff.1 hy).1
  rw[hc j (by omega)]
  simp[List.getD_eq_getElem?_getD,hy]
 ·simp at hv
theorem ord_calls2 {k:Nat} {A:Option Addr} {n c:Nat} {l r:List Int} {a1 a2 e2:Int} {w:World} (hr:Kd.C (Kd.int .u8) w A l.length l∧l.length≤c) (e:n=l.length) (h:riffle_Order.f k l a1 a2=some (r,e2)) :
  Calls Try.prog 11 #[.slice A n c,.int .i64 a1,.int .i64 a2] w fun e w'=>∃ (A1:Option Addr) (c1:Nat),e = .returned (.tuple #[.slice A1 r.length c1,.int .i64 e2])∧RK .i64 3 w' w.heap.size w'.heap.size (.slice A1 r.length c1) r∧Below w.heap.size w w':=by
 subst e
 refine(riffle_Order.calls k A c l a1 a2 r e2 w hr.1 hr.2 h).mono ?_
 rintro e w' ⟨v,rfl,h1,hb⟩
 obtain⟨A1,c1,rfl⟩:=(RK.of h1).lit
 exact⟨A1,c1,rfl,RK.of h1,hb⟩
theorem shu_calls2 {k:Nat} {A A2:Option Addr} {c c2:Nat} {l l2 r:List Int} {a1 e2:Int} {w:World} (hr:Kd.C (Kd.int .u8) w A l.length l∧l.length≤c) (hr2:Kd.C (Kd.int .i64) w A2 l2.length l2∧l2.length≤c2) (h:riffle_Shuffle_int.f k l a1 l2=some (r,e2)) :
  Calls Try.prog 12 #[.slice A l.length c,.int .i64 a1,.slice A2 l2.length c2] w fun e w'=>∃ (A1:Option Addr) (c1:Nat),e = .returned (.tuple #[.slice A1 r.length c1,.int .i64 e2])∧RK .i64 3 w' w.heap.size w'.heap.size (.slice A1 r.length c1) r∧Below w.heap.size w w':=by
 refine(riffle_Shuffle_int.calls k A c l a1 A2 c2 l2 r e2 w hr.1 hr.2 hr2.1 hr2.2 h).mono ?_
 rintro e w' ⟨v,rfl,h1,hb⟩
 obtain⟨A1,c1,rfl⟩:=(RK.of h1).lit
 exact⟨A1,c1,rfl,RK.of h1,hb⟩
set_option maxHeartbeats 16000000 in
set_option maxRecDepth 100000 in
theorem ra_calls (A0:Option Addr) (c0:Nat) (p:List Int) (ys:List Int) (A2:Option Addr) (c2:Nat) (l:List Int) (ch:Int) (w:World) (hr0:Kd.C (Kd.int .u8) w A0 p.length p) (hc0:p.length≤c0) (hr2:Kd.C (Kd.int .i64) w A2 l.length l) (hc2:l.length≤c2)
  (k:Nat) (o s:List Int) (e:Int) (hT:RaAns k p ys l ch o s e) (hl:ys.length=18) (hp:p.length≤140737488351232) (hll:l.length≤17592186043904) :
  Calls Try.prog 7 #[.agg (.slice A0 p.length c0 ::(ys.map (Value.int .u8) ++ [.slice A2 l.length c2,.int .i64 ch])).toArray] w fun e w'=>e = .returned (.bool true)∧Below w.heap.size w w':=by
 have H0:=Aside0.mk hr0
 have G0:=Aside0.mk hc0
 have H2:=Aside0.mk hr2
 have G2:=Aside0.mk hc2
 have HT:=Aside0.mk hT
 have HL:=Aside0.mk hl
 have L0:=Aside0.mk hp
 have L2:=Aside0.mk hll
 obtain⟨c,hc⟩:∃ c,c=(.slice A0 p.length c0 ::(ys.map (Value.int .u8) ++ [.slice A2 l.length c2,.int .i64 ch])).toArray:=⟨_,rfl⟩
 rw[←hc]
 have HC:=Aside0.mk hc
 clear hr0 hc0 hr2 hc2 hT hl hp hll hc
 go_enter Try.func7,Try.ntmps7
 go_wp2_with(fail)
 have HW:=Aside0.mk (below_alloc (Below.refl w.heap.size w) (.cells c 48))
 have HN:=Aside0.mk (show(w.alloc (.cells c 48)).heap[w.heap.size]? = some (.cells c 48 (0,0)) from blk_new w _)
 have HG:=Aside0.mk (show w.heap.size<(w.alloc (.cells c 48)).heap.size from blk_lt HN.out)
 with_reducible refine(churnlaw13_alive.calls k true _ rfl HT.out.al).mono ?_
 rintro e_ w1 ⟨rfl,hb⟩
 replace HN:=Aside0.mk ((hb.block _ HG.out).trans HN.out)
 replace HW:=Aside0.mk (below_step HW.out hb)
 obtain⟨g,hg⟩:∃ g,g=w.heap.size:=⟨_,rfl⟩
 rw[←hg] at HN
 rw[←hg]
 clear hb HG
 have HGW:=Aside0.mk hg
 clear hg
 go_wp2_with(fail)
 have FC:=Aside0.mk (show ∀ j v,c[j]? = some v→w1.cell? ⟨g,j,none⟩=some v from fun j v h=>(blk_cell HN.out j).trans h)
 obtain⟨cs,hcs⟩:∃ cs,cs=ys.map (Value.int .u8):=⟨_,rfl⟩
 have hcl:cs.length=18:=by rw[hcs,List.length_map];exact HL.out
 have hc1:∀ v ∈ cs,v.oneCell'=true:=by intro v hv;rw[hcs] at hv;obtain⟨z,_,rfl⟩:=List.mem_map.1 hv;rfl
 have hut:Try.prog.underlying 46=some (.array 18 5):=by kernel_rfl
 have hui:(Try.prog.info? 46).map (·.size)=some cs.length:=by rw[hcl];kernel_rfl
 rw[←hcs] at HC
 have hc0:c[0]? = some (.slice A0 p.length c0):=by rw[HC.out];rfl
 have hc19:c[19]? = some (.slice A2 l.length c2):=by rw[HC.out];simp[hcl,List.getElem?_append_right]
 have hc20:c[20]? = some (.int .i64 ch):=by rw[HC.out];simp[hcl,List.getElem?_append_right]
 have hcr:∀ (j:Nat) (v:Value),cs[j]? = some v→c[1+j]? = some v:=fun j v hv=>by rw[HC.out,Nat.add_comm];have hj:=(List.getElem?_eq_some_iff.1 hv).1;rw[List.getElem?_toArray,List.getElem?_cons_succ,List.getElem?_append_left hj];exact hv
 have KS:∀ W:World,W.heap[g]? = some (.cells c 48 (0,0))→(W.cell? ⟨g,0,none⟩=some (.slice A0 p.length c0)∧W.cell? ⟨g,19,none⟩=some (.slice A2 l.length c2)∧W.cell? ⟨g,20,none⟩=some (.int .i64 ch)∧W.rangeAt g 1 cs):=fun W h=>⟨(blk_cell h 0).trans hc0,(blk_cell h 19).trans hc19,(blk_cell h 20).trans hc20,fun j v hv=>(blk_cell h (1+j)).trans (hcr j v hv)⟩
 have HCS:=Aside0.mk hcs
 clear hc0 hc19 hc20 hcr hcs
 obtain⟨W2,hW2⟩:∃ W2,W2=(w1.alloc (.cells #[.int .u8 0,.int .u8 0,.int .u8 0,.int .u8 0,.int .u8 0,.int .u8 0,.int .u8 0,.int .u8 0,.int .u8 0,.int .u8 0,.int .u8 0,.int .u8 0,.int .u8 0,.int .u8 0,.int .u8 0,.int .u8 0,.int .u8 0,.int .u8 0] 46)).drew:=⟨_,rfl⟩
 have hA:(w1.alloc (.cells #[.int .u8 0,.int .u8 0,.int .u8 0,.int .u8 0,.int .u8 0,.int .u8 0,.int .u8 0,.int .u8 0,.int .u8 0,.int .u8 0,.int .u8 0,.int .u8 0,.int .u8 0,.int .u8 0,.int .u8 0,.int .u8 0,.int .u8 0,.int .u8 0] 46)).drew.heap[g]? = some (.cells c 48 (0,0)):=((World.grownBy_alloc w1 _ none).block g (blk_lt HN.out) (by simp)).trans HN.out
 have hnew:(w1.alloc (.cells #[.int .u8 0,.int .u8 0,.int .u8 0,.int .u8 0,.int .u8 0,.int .u8 0,.int .u8 0,.int .u8 0,.int .u8 0,.int .u8 0,.int .u8 0,.int .u8 0,.int .u8 0,.int .u8 0,.int .u8 0,.int .u8 0,.int .u8 0,.int .u8 0] 46)).drew.heap[w1.heap.size]? = some (.cells #[.int .u8 0,.int .u8 0,.int .u8 0,.int .u8 0,.int .u8 0,.int .u8 0,.int .u8 0,.int .u8 0,.int .u8 0,.int .u8 0,.int .u8 0,.int .u8 0,.int .u8 0,.int .u8 0,.int .u8 0,.int .u8 0,.int .u8 0,.int .u8 0] 46 (0,0)):=blk_new w1 _
 have hth:(w1.alloc (.cells #[.int .u8 0,.int .u8 0,.int .u8 0,.int .u8 0,.int .u8 0,.int .u8 0,.int .u8 0,.int .u8 0,.int .u8 0,.int .u8 0,.int .u8 0,.int .u8 0,.int .u8 0,.int .u8 0,.int .u8 0,.int .u8 0,.int .u8 0,.int .u8 0] 46)).drew.there w1.heap.size 0 18:=fun j hj=>⟨by rw[Nat.zero_add,blk_cell hnew j,Array.getElem?_eq_getElem (by simpa using hj)];rfl,blk_frozen hnew _⟩
 have hne:g≠w1.heap.size:=by have:=blk_lt HN.out;omega
 have hB:((w1.alloc (.cells #[.int .u8 0,.int .u8 0,.int .u8 0,.int .u8 0,.int .u8 0,.int .u8 0,.int .u8 0,.int .u8 0,.int .u8 0,.int .u8 0,.int .u8 0,.int .u8 0,.int .u8 0,.int .u8 0,.int .u8 0,.int .u8 0,.int .u8 0,.int .u8 0] 46)).drew.setCells w1.heap.size 0 cs).heap[g]? = some (.cells c 48 (0,0)):=(setCells_far cs 0 g hne).trans hA
 clear hnew hne hW2 W2
 go_region_held3 (fun W=>W.cell? ⟨g,0,none⟩=some (.slice A0 p.length c0)∧W.cell? ⟨g,19,none⟩=some (.slice A2 l.length c2)∧W.cell? ⟨g,20,none⟩=some (.int .i64 ch)∧W.rangeAt g 1 cs) (first|exact KS _ HN.out|exact KS _ hA|exact KS _ hB) (fail)
 obtain⟨W3,hW3⟩:∃ W,W=(w1.alloc (.cells #[.int .u8 0,.int .u8 0,.int .u8 0,.int .u8 0,.int .u8 0,.int .u8 0,.int .u8 0,.int .u8 0,.int .u8 0,.int .u8 0,.int .u8 0,.int .u8 0,.int .u8 0,.int .u8 0,.int .u8 0,.int .u8 0,.int .u8 0,.int .u8 0] 46)).drew.setCells w1.heap.size 0 cs:=⟨_,rfl⟩
 have hrg:W3.rangeAt w1.heap.size 0 cs:=by rw[hW3];exact World.rangeAt_setCells_same _ _ _ _ (by rw[hcl];exact hth)
 have hb3:Below w1.heap.size w1 W3:=by rw[hW3];exact below_setCells (below_drew (below_alloc (Below.refl _ _) _)) cs 0
 obtain⟨n,hn⟩:∃ n,n=w1.heap.size:=⟨_,rfl⟩
 rw[←hn] at hrg
 rw[←hW3,←hn]
 have HN3:=Aside0.mk (show Kd.C (Kd.int .u8) W3 (some ⟨n,0,none⟩) 18 ys from noise_reads HL.out (by rw[←HCS.out];exact hrg))
 have HW3:=Aside0.mk (below_step HW.out hb3)
 clear hW3 hrg hb3 hn hcl hc1 hut hui KS hA hth hB HC HCS HN HGW HW
 go_wp2_with(fail)
 with_reducible refine(ord_calls2 ⟨Kd.C_below H0.out HW3.out,G0.out⟩ rfl HT.out.od).mono ?_
 rintro e_ w4 ⟨Ao,co,rfl,h4,hb⟩
 have RO:=Aside0.mk h4
 replace HW3:=Aside0.mk (below_step HW3.out hb)
 replace HN3:=Aside0.mk (Kd.C_below HN3.out hb)
 clear h4 hb
 go_wp2_with(fail)
 with_reducible refine(shu_calls2 ⟨Kd.C_below H0.out HW3.out,G0.out⟩ ⟨Kd.C_below H2.out HW3.out,G2.out⟩ HT.out.sh).mono ?_
 rintro e_ w5 ⟨As,cs,rfl,h5,hb⟩
 have RS:=Aside0.mk h5
 replace RO:=Aside0.mk (RO.out.below hb)
 replace HW3:=Aside0.mk (below_step HW3.out hb)
 replace HN3:=Aside0.mk (Kd.C_below HN3.out hb)
 clear h5 hb
 have hso:=HT.out.len.1
 rw[hso]
 clear hso
 by_cases he0:e=0
 ·have z1:(e == 0)=true:=by simp[he0]
  have hol:(o.length:Int)=(l.length:Int):=by have:=HT.out.len.2.1 he0;omega
  have z2:((o.length:Int) != (l.length:Int))=false:=by simp[hol]
  clear he0
  go_wp2_with(fail)
  have HB:=Aside0.mk (Below.refl w5.heap.size w5)
  go_loopg [11] o.length (fun gq_ v11 wq=>∃ i:Nat,v11 = .int .i64 i∧Aside0 (i≤o.length)∧Aside0 (o.length-i≤gq_)∧Aside0 (Below w5.heap.size w5 wq))
  case atStart=>exact⟨0,rfl,⟨Nat.zero_le _⟩,⟨by omega⟩,HB⟩
  case round =>
   clear HB
   obtain⟨i,rfl,HI,HG,HB⟩:=hrel
   by_cases hi:i<o.length
   ·have c1:decide ((i:Int)<(o.length:Int))=true:=decide_eq_true (by omega)
    have k2:(0:Int)≤(i:Int):=Int.natCast_nonneg i
    have c3:(i:Int)<(o.length:Int):=by omega
    obtain⟨a1,a2,a3⟩:=HT.out.at_ i hi
    obtain⟨m,hm⟩:∃ m:Nat,rd o (i:Int)=(m:Int):=⟨(rd o (i:Int)).toNat,(Int.toNat_of_nonneg a1).symm⟩
    rw[hm] at a1 a2 a3
    have c4:(m:Int)<(l.length:Int):=a2
    have c5:decide ((m:Int)<0)=false:=decide_eq_false (by omega)
    have c6:decide ((l.length:Int)≤(m:Int))=false:=decide_eq_false (by omega)
    have c8:decide (l.length≤m)=false:=decide_eq_false (by omega)
    have HIL:=Aside0.mk hi
    go_wp2_with(fail)
    have hbd:Below w5.heap.size w5 wr:=HB.out
    have ro:=RO.out.below hbd
    have rs:=RS.out.below hbd
    obtain⟨go,rfl⟩:=ro.head (by omega)
    obtain⟨gs,rfl⟩:=rs.head (by have:=HT.out.len.1;omega)
    obtain⟨p0,-⟩:=Kd.R_celln (0:Int) ro (i:Int) (by omega) (by omega)
    obtain⟨p1,-⟩:=Kd.R_celln (0:Int) rs (i:Int) (by omega) (by have:=HT.out.len.1;omega)
    simp only[Int.toNat_natCast] at p0 p1
    change wr.cell? _=some (.int .i64 (rd o (i:Int))) at p0
    change wr.cell? _=some (.int .i64 (rd s (i:Int))) at p1
    rw[hm] at p0
    rw[a3] at p1
    have hC2:=Kd.C_below (Kd.C_below H2.out HW3.out) hbd
    obtain⟨ad,rfl,p2⟩:=Kd.at_int hC2 (m:Int) a1 (by simpa using a2)
    simp only[Int.toNat_natCast] at p2
    obtain⟨z,hz⟩:∃ z,rd l (m:Int)=z:=⟨_,rfl⟩
    rw[hz] at p1 p2
    clear a1 a2 a3 hm hz ro rs hC2 hbd hi
    go_quiet(fail)
    go_wp2_with(fail)
    go_roundg (o.length-(i+1))
    case measure=>have:=HG.out;have:=HIL.out;omega
    case rel=>exact⟨i+1,by have:=HIL.out;have:=HT.out.len.2.2;have:=L2.out;first|rfl|(rw[w64 (by omega) (by omega)];rfl),⟨by have:=HIL.out;omega⟩,⟨by omega⟩,⟨pw_below_drewN HB.out _⟩⟩
   ·have c1:decide ((i:Int)<(o.length:Int))=false:=decide_eq_false (by omega)
    obtain rfl:i=o.length:=by have:=HI.out;omega
    clear hi
    go_wp2_with((with_reducible refine gate_builtin (b:=.append) (xs:=#[.tmp 93,.tmp 94]) rfl ?_);at_builtin;go_loud (refine Kd.R_app_int (k:=.u8) wr.heap.size rfl (.tmp 93) (.tmp 94) 23 5 1 rfl Try.underlying23 info5 (by omega) (.slice (some ⟨wr.heap.size,0,none⟩) 0 0) [] p A0 p.length c0 (fun _=>True) rfl rfl trivial (R_none .u8 5 wr.heap.size wr (Nat.le_refl _)) (Kd.C_below (Kd.C_below (Kd.C_below H0.out HW3.out) HB.out) (below_alloc (Below.refl _ _) _)) ?hbs ?hl ?_;(case hbs=>exact(World.grownBy_alloc wr (.cells #[] 5) none).size);(case hl=>have:=L0.out;simp only[List.length_nil];omega);intro v95 w95 hr_ hg_ hat_;(have hbk:Below wr.heap.size wr w95:=Below.grown (below_alloc (Below.refl _ _) _) hg_ (World.grownBy_alloc wr (.cells #[] 5) none).size (fun k hk=>Nat.le_of_eq (by simpa [Value.ownBlock] using hk)));(have hr_:Kd.R (Kd.int .u8) 5 w95 wr.heap.size (fun _=>True) v95 p:=hr_);obtain⟨gq,cq,cur,rfl,hgq,hcur,hq1,hq2,hq3,hq4⟩:=own_whole hr_ (by rcases hat_ with e_|⟨e_,-⟩ <;> (rw[e_];simp[Value.ownBlock]));have HQ:=Aside0.mk (And.intro hgq (And.intro hcur (And.intro hq1 (And.intro hq2 (And.intro hq3 hq4)))));have HB95:=Aside0.mk hbk;clear hr_ hg_ hat_ hbk hgq hcur hq1 hq2 hq3 hq4))
    have HN95:=Aside0.mk (Kd.C_below (Kd.C_below HN3.out HB.out) HB95.out)
    have hsl:∀ W:World,(Instr.sliceAt 46 (.pointer (some ⟨n,0,none⟩)) none none none).run Try.prog W = .ok (.slice (some ⟨n,0,none⟩) 18 18) W:=fun W=>rc_slice (e:=5) (by kernel_rfl) (by kernel_rfl) W n
    obtain⟨i5,hi05,-,-,-⟩:=info_parts info5
    obtain⟨dl,hdl⟩:∃ dl,dl=min p.length 18:=⟨_,rfl⟩
    have hd1:dl≤p.length:=by omega
    have hmin:(if(18:Int)<(p.length:Int) then 18 else(p.length:Int))=(dl:Int):=by split <;> omega
    have HDL:=Aside0.mk hdl
    have hcut:=cut_to (P:=Try.prog) 23 5 .i64 Try.underlying23 hi05 (some ⟨gq,0,none⟩) p.length cq (dl:Int) (by omega) (by omega) HQ.out.2.2.1
    simp only[Int.toNat_natCast] at hcut
    clear hdl hd1 hi05
    go_region_law (refine step_copy_splice rfl (.tmp 100) (.tmp 101) 23 23 rfl 5 Try.underlying23 (by kernel_rfl) (some ⟨gq,0,none⟩) (some ⟨n,0,none⟩) dl cq 18 18 rfl rfl gq 0 cur 5 HQ.out.2.1 ((ys.take dl).map (Value.int .u8)) ?hn (fun _=>⟨rfl,_,rfl,noise_src HN95.out⟩) ?hfit ?h1 wr.heap.size wr (below_drew HB95.out) HQ.out.1 ?_;(case hn=>have:=HL.out;have:=HDL.out;simp only[List.length_map,List.length_take];show _=min _ _;omega);(case hfit=>have h1:=HQ.out.2.2.1;have h2:=HQ.out.2.2.2.2.1;have:=HDL.out;simp only[List.length_map,List.length_take];omega);(case h1=>intro v hv;obtain⟨z,_,rfl⟩:=List.mem_map.1 hv;rfl);intro w97 hg97 hb97)
    have hrq:=splice_row (dl:=dl) HQ.out.1 HQ.out.2.2.1 HQ.out.2.2.2.1 HQ.out.2.2.2.2.1 HQ.out.2.2.2.2.2 (by have:=HDL.out;omega) (by have:=HDL.out;have:=HL.out;omega) hg97.out
    have hlq:ys.take dl ++ p.drop dl=ys.take p.length ++ p.drop 18:=by
     have h1:=HDL.out
     have h2:=HL.out
     rcases Nat.lt_or_ge p.length 18 with h3|h3
     ·rw[show dl=p.length from by omega,List.drop_of_length_le (Nat.le_refl _),List.drop_of_length_le (by omega)]
     ·rw[show dl=18 from by omega,List.take_of_length_le (by omega),List.take_of_length_le (by omega)]
    rw[hlq] at hrq
    have RQ:=Aside0.mk (RK.of hrq)
    have hll:p.length=(ys.take p.length ++ p.drop 18).length:=by have:=HL.out;simp;omega
    have HLL:=Aside0.mk hll
    replace RO:=Aside0.mk ((RO.out.below HB.out).below hb97)
    replace HB:=Aside0.mk (below_step HB.out hb97)
    clear hrq hlq hll hg97 hb97 hcut hmin hsl HB95 HN95 HQ
    go_wp2_with(fail)
    with_reducible refine(ord_calls2 (RK.reads RQ.out) HLL.out HT.out.oq).mono ?_
    rintro e_ w98 ⟨A6,c6,rfl,h6,hb⟩
    have R6:=Aside0.mk h6
    replace RO:=Aside0.mk (RO.out.below hb)
    replace HB:=Aside0.mk (below_step HB.out hb)
    clear h6 hb
    go_wp2_with(fail)
    with_reducible refine(churnlaw13_same.calls k _ _ o _ _ o true w98 (RK.reads R6.out).1 (RK.reads R6.out).2 (RK.reads RO.out).1 (RK.reads RO.out).2 HT.out.sm).mono ?_
    rintro e_ w99 ⟨rfl,hb⟩
    have hb:=hb.below
    replace HB:=Aside0.mk (below_step HB.out hb)
    clear hb
    go_wp2_with(fail)
    go_ret
    exact⟨rfl,below_step HW3.out HB.out⟩
 ·have z1:(e == 0)=false:=by simp[he0]
  clear he0
  go_wp2_with(fail)
  have HB:=Aside0.mk (Below.refl w5.heap.size w5)
  go_loopg [11] o.length (fun gq_ v11 wq=>∃ i:Nat,v11 = .int .i64 i∧Aside0 (i≤o.length)∧Aside0 (o.length-i≤gq_)∧Aside0 (Below w5.heap.size w5 wq))
  case atStart=>exact⟨0,rfl,⟨Nat.zero_le _⟩,⟨by omega⟩,HB⟩
  case round =>
   clear HB
   obtain⟨i,rfl,HI,HG,HB⟩:=hrel
   by_cases hi:i<o.length
   ·have c1:decide ((i:Int)<(o.length:Int))=true:=decide_eq_true (by omega)
    have k2:(0:Int)≤(i:Int):=Int.natCast_nonneg i
    have c3:(i:Int)<(o.length:Int):=by omega
    obtain⟨a1,a2,a3⟩:=HT.out.at_ i hi
    obtain⟨m,hm⟩:∃ m:Nat,rd o (i:Int)=(m:Int):=⟨(rd o (i:Int)).toNat,(Int.toNat_of_nonneg a1).symm⟩
    rw[hm] at a1 a2 a3
    have c4:(m:Int)<(l.length:Int):=a2
    have c5:decide ((m:Int)<0)=false:=decide_eq_false (by omega)
    have c6:decide ((l.length:Int)≤(m:Int))=false:=decide_eq_false (by omega)
    have c8:decide (l.length≤m)=false:=decide_eq_false (by omega)
    have HIL:=Aside0.mk hi
    go_wp2_with(fail)
    have hbd:Below w5.heap.size w5 wr:=HB.out
    have ro:=RO.out.below hbd
    have rs:=RS.out.below hbd
    obtain⟨go,rfl⟩:=ro.head (by omega)
    obtain⟨gs,rfl⟩:=rs.head (by have:=HT.out.len.1;omega)
    obtain⟨p0,-⟩:=Kd.R_celln (0:Int) ro (i:Int) (by omega) (by omega)
    obtain⟨p1,-⟩:=Kd.R_celln (0:Int) rs (i:Int) (by omega) (by have:=HT.out.len.1;omega)
    simp only[Int.toNat_natCast] at p0 p1
    change wr.cell? _=some (.int .i64 (rd o (i:Int))) at p0
    change wr.cell? _=some (.int .i64 (rd s (i:Int))) at p1
    rw[hm] at p0
    rw[a3] at p1
    have hC2:=Kd.C_below (Kd.C_below H2.out HW3.out) hbd
    obtain⟨ad,rfl,p2⟩:=Kd.at_int hC2 (m:Int) a1 (by simpa using a2)
    simp only[Int.toNat_natCast] at p2
    obtain⟨z,hz⟩:∃ z,rd l (m:Int)=z:=⟨_,rfl⟩
    rw[hz] at p1 p2
    clear a1 a2 a3 hm hz ro rs hC2 hbd hi
    go_quiet(fail)
    go_wp2_with(fail)
    go_roundg (o.length-(i+1))
    case measure=>have:=HG.out;have:=HIL.out;omega
    case rel=>exact⟨i+1,by have:=HIL.out;have:=HT.out.len.2.2;have:=L2.out;first|rfl|(rw[w64 (by omega) (by omega)];rfl),⟨by have:=HIL.out;omega⟩,⟨by omega⟩,⟨pw_below_drewN HB.out _⟩⟩
   ·have c1:decide ((i:Int)<(o.length:Int))=false:=decide_eq_false (by omega)
    obtain rfl:i=o.length:=by have:=HI.out;omega
    clear hi
    go_wp2_with((with_reducible refine gate_builtin (b:=.append) (xs:=#[.tmp 93,.tmp 94]) rfl ?_);at_builtin;go_loud (refine Kd.R_app_int (k:=.u8) wr.heap.size rfl (.tmp 93) (.tmp 94) 23 5 1 rfl Try.underlying23 info5 (by omega) (.slice (some ⟨wr.heap.size,0,none⟩) 0 0) [] p A0 p.length c0 (fun _=>True) rfl rfl trivial (R_none .u8 5 wr.heap.size wr (Nat.le_refl _)) (Kd.C_below (Kd.C_below (Kd.C_below H0.out HW3.out) HB.out) (below_alloc (Below.refl _ _) _)) ?hbs ?hl ?_;(case hbs=>exact(World.grownBy_alloc wr (.cells #[] 5) none).size);(case hl=>have:=L0.out;simp only[List.length_nil];omega);intro v95 w95 hr_ hg_ hat_;(have hbk:Below wr.heap.size wr w95:=Below.grown (below_alloc (Below.refl _ _) _) hg_ (World.grownBy_alloc wr (.cells #[] 5) none).size (fun k hk=>Nat.le_of_eq (by simpa [Value.ownBlock] using hk)));(have hr_:Kd.R (Kd.int .u8) 5 w95 wr.heap.size (fun _=>True) v95 p:=hr_);obtain⟨gq,cq,cur,rfl,hgq,hcur,hq1,hq2,hq3,hq4⟩:=own_whole hr_ (by rcases hat_ with e_|⟨e_,-⟩ <;> (rw[e_];simp[Value.ownBlock]));have HQ:=Aside0.mk (And.intro hgq (And.intro hcur (And.intro hq1 (And.intro hq2 (And.intro hq3 hq4)))));have HB95:=Aside0.mk hbk;clear hr_ hg_ hat_ hbk hgq hcur hq1 hq2 hq3 hq4))
    have HN95:=Aside0.mk (Kd.C_below (Kd.C_below HN3.out HB.out) HB95.out)
    have hsl:∀ W:World,(Instr.sliceAt 46 (.pointer (some ⟨n,0,none⟩)) none none none).run Try.prog W = .ok (.slice (some ⟨n,0,none⟩) 18 18) W:=fun W=>rc_slice (e:=5) (by kernel_rfl) (by kernel_rfl) W n
    obtain⟨i5,hi05,-,-,-⟩:=info_parts info5
    obtain⟨dl,hdl⟩:∃ dl,dl=min p.length 18:=⟨_,rfl⟩
    have hd1:dl≤p.length:=by omega
    have hmin:(if(18:Int)<(p.length:Int) then 18 else(p.length:Int))=(dl:Int):=by split <;> omega
    have HDL:=Aside0.mk hdl
    have hcut:=cut_to (P:=Try.prog) 23 5 .i64 Try.underlying23 hi05 (some ⟨gq,0,none⟩) p.length cq (dl:Int) (by omega) (by omega) HQ.out.2.2.1
    simp only[Int.toNat_natCast] at hcut
    clear hdl hd1 hi05
    go_region_law (refine step_copy_splice rfl (.tmp 100) (.tmp 101) 23 23 rfl 5 Try.underlying23 (by kernel_rfl) (some ⟨gq,0,none⟩) (some ⟨n,0,none⟩) dl cq 18 18 rfl rfl gq 0 cur 5 HQ.out.2.1 ((ys.take dl).map (Value.int .u8)) ?hn (fun _=>⟨rfl,_,rfl,noise_src HN95.out⟩) ?hfit ?h1 wr.heap.size wr (below_drew HB95.out) HQ.out.1 ?_;(case hn=>have:=HL.out;have:=HDL.out;simp only[List.length_map,List.length_take];show _=min _ _;omega);(case hfit=>have h1:=HQ.out.2.2.1;have h2:=HQ.out.2.2.2.2.1;have:=HDL.out;simp only[List.length_map,List.length_take];omega);(case h1=>intro v hv;obtain⟨z,_,rfl⟩:=List.mem_map.1 hv;rfl);intro w97 hg97 hb97)
    have hrq:=splice_row (dl:=dl) HQ.out.1 HQ.out.2.2.1 HQ.out.2.2.2.1 HQ.out.2.2.2.2.1 HQ.out.2.2.2.2.2 (by have:=HDL.out;omega) (by have:=HDL.out;have:=HL.out;omega) hg97.out
    have hlq:ys.take dl ++ p.drop dl=ys.take p.length ++ p.drop 18:=by
     have h1:=HDL.out
     have h2:=HL.out
     rcases Nat.lt_or_ge p.length 18 with h3|h3
     ·rw[show dl=p.length from by omega,List.drop_of_length_le (Nat.le_refl _),List.drop_of_length_le (by omega)]
     ·rw[show dl=18 from by omega,List.take_of_length_le (by omega),List.take_of_length_le (by omega)]
    rw[hlq] at hrq
    have RQ:=Aside0.mk (RK.of hrq)
    have hll:p.length=(ys.take p.length ++ p.drop 18).length:=by have:=HL.out;simp;omega
    have HLL:=Aside0.mk hll
    replace RO:=Aside0.mk ((RO.out.below HB.out).below hb97)
    replace HB:=Aside0.mk (below_step HB.out hb97)
    clear hrq hlq hll hg97 hb97 hcut hmin hsl HB95 HN95 HQ
    go_wp2_with(fail)
    with_reducible refine(ord_calls2 (RK.reads RQ.out) HLL.out HT.out.oq).mono ?_
    rintro e_ w98 ⟨A6,c6,rfl,h6,hb⟩
    have R6:=Aside0.mk h6
    replace RO:=Aside0.mk (RO.out.below hb)
    replace HB:=Aside0.mk (below_step HB.out hb)
    clear h6 hb
    go_wp2_with(fail)
    with_reducible refine(churnlaw13_same.calls k _ _ o _ _ o true w98 (RK.reads R6.out).1 (RK.reads R6.out).2 (RK.reads RO.out).1 (RK.reads RO.out).2 HT.out.sm).mono ?_
    rintro e_ w99 ⟨rfl,hb⟩
    have hb:=hb.below
    replace HB:=Aside0.mk (below_step HB.out hb)
    clear hb
    go_wp2_with(fail)
    go_ret
    exact⟨rfl,below_step HW3.out HB.out⟩
end Go.Proofs.Ytbnifpfnjhdenaa.Q
end
section
set_option linter.unusedVariables false
set_option linter.unusedSimpArgs false
namespace Go.Proofs.Ytbnifpfnjhdenaa.Pl
open Go.RowKit Go.Proofs.Ytbnifpfnjhdenaa.Q Go.Proofs.YtbnifpfnjhdenaaW.PrintWords Go.Proofs.YtbnifpfnjhdenaaW.PrintLast
def taken (p:List Int) (b:Int) (u:Nat):Prop:=rd p (u:Int)<256-256 % b
instance (p:List Int) (b:Int) (u:Nat):Decidable (taken p b u):=inferInstanceAs (Decidable (_<_))
def below (p:List Int) (b:Int):Nat→Nat→Int×Int×Int
 | 0,_=>(0,0,3)
 | d+1,u=>if taken p b u then(Int.tmod (rd p (u:Int)) b,((u+1:Nat):Int),0) else below p b d (u+1)
theorem bt_nums (p:List Int) (hp:∀ x ∈ p,0≤x∧x≤255) (u:Nat) (hu:u<p.length):bt (strOfNums p) (u:Int)=rd p (u:Int):=by
 have hb:=hp _ (rd_mem p (u:Int) (by simpa using hu))
 have hr:rd p (u:Int)=p[u]:=rd_lt p u hu
 rw[hr] at hb ⊢
 have hs:(u:Int).toNat<(strOfNums p).size:=by rw[strOfNums_size];simpa using hu
 rw[←bt_at (strOfNums p) (u:Int) hs]
 show(((strOfNums p).data[(u:Int).toNat]'hs).toNat:Int)=p[u]
 simp[strOfNums,UInt8.toNat_ofNat]
 omega
def lift (p:List Int) (q:Int×Int×Int):Int×ByteArray×Int×Int:=if q.2.2=0 then(q.1,strOfNums p,q.2.1,0) else(0,⟨#[]⟩,0,q.2.2)
theorem draw_below (p:List Int) (b:Int) (h1:1≤b) (h2:b≤256) (hp:∀ x ∈ p,0≤x∧x≤255) (hl:p.length≤9223372036854775000):∀ (d u k:Nat),u+d=p.length→d+1≤k→draw_Below.l0 k b (strOfNums p) (u:Int)=some (lift p (below p b d u)):=by
 intro d
 induction d with
 | zero =>
  intro u k hu hk
  obtain⟨k,rfl⟩:∃ m,k=m+1:=⟨k-1,by omega⟩
  have hw:wrap64 (((strOfNums p).size:Int)-(u:Int))=0:=by rw[strOfNums_size,w64 (by omega) (by omega)];omega
  have hB:tape_Tape_Byte.f (strOfNums p) (u:Int)=some (0,⟨#[]⟩,0,3):=by
   unfold tape_Tape_Byte.f tape_Tape_Left.f
   rw[Option.bind_some,if_pos hw]
  rw[draw_Below.l0,hB,Option.bind_some,if_neg (by decide)]
  rfl
 | succ d ih =>
  intro u k hu hk
  obtain⟨k,rfl⟩:∃ m,k=m+1:=⟨k-1,by omega⟩
  have hb:=hp _ (rd_mem p (u:Int) (by simp;omega))
  have hw:¬ wrap64 (((strOfNums p).size:Int)-(u:Int))=0:=by rw[strOfNums_size,w64 (by omega) (by omega)];omega
  have hB:tape_Tape_Byte.f (strOfNums p) (u:Int)=some (rd p (u:Int),strOfNums p,((u+1:Nat):Int),0):=by
   unfold tape_Tape_Byte.f tape_Tape_Left.f
   rw[Option.bind_some,if_neg hw,if_pos (by omega),if_pos (by rw[strOfNums_size];omega),bt_nums p hp u (by omega),w64 (by omega) (by omega)]
   rfl
  have q0:0≤(256:Int) % b:=Int.emod_nonneg _ (by omega)
  have q1:(256:Int) % b<b:=Int.emod_lt_of_pos _ (by omega)
  rw[draw_Below.l0,hB,Option.bind_some,if_pos rfl,if_neg (by omega)]
  simp only
  rw[w64 (x:=rd p (u:Int)) (by omega) (by omega),w64 (x:=256-(256:Int) % b) (by omega) (by omega)]
  unfold below
  by_cases ht:taken p b u
  ·rw[if_pos ht,if_pos (show rd p (u:Int)<256-256 % b from ht)]
   rfl
  ·rw[if_neg ht,if_neg (show ¬ rd p (u:Int)<256-256 % b from ht)]
   exact ih (u+1) k (by omega) (by omega)
end Go.Proofs.Ytbnifpfnjhdenaa.Pl
end
section
set_option linter.unusedVariables false
set_option linter.unusedSimpArgs false
namespace Go.Proofs.Ytbnifpfnjhdenaa.Pl
open Go.RowKit Go.Proofs.Ytbnifpfnjhdenaa.Q Go.Proofs.YtbnifpfnjhdenaaW.PrintWords Go.Proofs.YtbnifpfnjhdenaaW.PrintLast
def scan (p:List Int) (b:Int):Nat→Nat→Option Nat
 | 0,_=>none
 | d+1,u=>if taken p b u then some u else scan p b d (u+1)
theorem scan_some (p:List Int) (b:Int):∀ (d u j:Nat),scan p b d u=some j→u≤j∧j<u+d∧taken p b j:=by
 intro d
 induction d with
 | zero=>intro u j h;exact absurd h (by simp[scan])
 | succ d ih =>
  intro u j h
  unfold scan at h
  by_cases ht:taken p b u
  ·rw[if_pos ht] at h
   obtain rfl:=Option.some.inj h
   exact⟨Nat.le_refl _,by omega,ht⟩
  ·rw[if_neg ht] at h
   have:=ih (u+1) j h
   exact⟨by omega,by omega,this.2.2⟩
theorem below_scan (p:List Int) (b:Int):∀ (d u:Nat),below p b d u=match scan p b d u with
  | some j=>(Int.tmod (rd p (j:Int)) b,((j+1:Nat):Int),0)
  | none=>(0,0,3):=by
 intro d
 induction d with
 | zero=>intro u;rfl
 | succ d ih =>
  intro u
  unfold below scan
  by_cases ht:taken p b u
  ·rw[if_pos ht,if_pos ht]
  ·rw[if_neg ht,if_neg ht];exact ih (u+1)
def draw1 (p:List Int) (b:Int) (u:Nat):Option (Int×Nat):=if b=1 then some (0,u) else(scan p b (p.length-u) u).map fun j:Nat=>(Int.tmod (rd p (j:Int)) b,j+1)
theorem draw1_le (p:List Int) (b:Int) (u:Nat) (hu:u≤p.length) {v:Int} {n:Nat} (h:draw1 p b u=some (v,n)):u≤n∧n≤p.length∧(b≠1→u<n):=by
 unfold draw1 at h
 by_cases hb:b=1
 ·rw[if_pos hb] at h
  simp only[Option.some.injEq,Prod.mk.injEq] at h
  obtain⟨rfl,rfl⟩:=h
  exact⟨Nat.le_refl _,hu,fun h=>absurd hb h⟩
 ·rw[if_neg hb] at h
  obtain⟨j,hj,h⟩:=Option.map_eq_some_iff.1 h
  simp only[Prod.mk.injEq] at h
  obtain⟨rfl,rfl⟩:=h
  have:=scan_some p b _ u j hj
  exact⟨by omega,by omega,fun _=>by omega⟩
theorem okBound_of (b:Int) (h1:1≤b) (h2:b≤256):okBound b=true:=by unfold okBound;simp;omega
theorem drw1 (p:List Int) (b:Int) (h1:1≤b) (h2:b≤256) (hp:∀ x ∈ p,0≤x∧x≤255) (hl:p.length≤9223372036854775000) (u k:Nat) (hu:u≤p.length) (hk:p.length-u+1≤k) :
  draw_Below.f k (strOfNums p) (u:Int) b=some (match draw1 p b u with|some (v,n)=>(v,strOfNums p,(n:Int),0)|none=>(0,⟨#[]⟩,0,3)):=by
 unfold draw_Below.f
 rw[isBound_f,Option.bind_some,if_pos (okBound_of b h1 h2)]
 unfold draw1
 by_cases hb:b=1
 ·rw[if_pos hb,if_pos hb]
 ·rw[if_neg hb,if_neg hb,draw_below p b h1 h2 hp hl (p.length-u) u k (by omega) (by omega),below_scan]
  cases scan p b (p.length-u) u <;> rfl
def run (p:List Int):List Int→Nat→List (Int×Int)→List (Int×Int)×Int×Int
 | [],u,L=>(L,(u:Int),0)
 | b ::bs,u,L=>match draw1 p b u with
  | some (v,n)=>run p bs n (L ++ [(v,(n:Int)-1)])
  | none=>(L,0,3)
end Go.Proofs.Ytbnifpfnjhdenaa.Pl
end
section
set_option linter.unusedVariables false
set_option linter.unusedSimpArgs false
namespace Go.Proofs.Ytbnifpfnjhdenaa.Pl
open Go.RowKit Go.Proofs.Ytbnifpfnjhdenaa.Q Go.Proofs.YtbnifpfnjhdenaaW.PrintWords Go.Proofs.YtbnifpfnjhdenaaW.PrintLast
def AllOk (bs:List Int):Prop:=∀ b ∈ bs,1≤b∧b≤256
theorem allOk_at {bs:List Int} (h:AllOk bs) (i:Nat) (hi:i<bs.length):1≤rd bs (i:Int)∧rd bs (i:Int)≤256:=h _ (rd_mem bs (i:Int) (by simpa using hi))
def allR (q:List (Int×Int)×Int×Int):List Int×Int×Int:=if q.2.2=0 then(q.1.map (·.1),q.2.1,0) else([],0,q.2.2)
theorem drw_all (G:Nat→Int→Int→Bool) (p bs:List Int) (hb:AllOk bs) (hp:∀ x ∈ p,0≤x∧x≤255) (hl:p.length≤9223372036854775000)
  (hG:∀ (i u n:Nat) (v:Int),i<bs.length→u≤p.length→draw1 p (rd bs (i:Int)) u=some (v,n)→G i ((n:Int)-1) v=true) :
  ∀ (rem i u k:Nat) (L:List (Int×Int)),i+rem=bs.length→L.length=i→u≤p.length→p.length+rem+3≤k→eachl G k bs (strOfNums p) (u:Int) L=some (run p (bs.drop i) u L):=by
 intro rem
 induction rem with
 | zero =>
  intro i u k L hi hL hu hk
  obtain⟨k,rfl⟩:∃ m,k=m+1:=⟨k-1,by omega⟩
  rw[eachl,if_neg (by omega),List.drop_eq_nil_of_le (by omega)]
  rfl
 | succ rem ih =>
  intro i u k L hi hL hu hk
  obtain⟨k,rfl⟩:∃ m,k=m+1:=⟨k-1,by omega⟩
  obtain⟨b1,b2⟩:=allOk_at hb i (by omega)
  have hrd:bs.getD L.length 0=rd bs (i:Int):=by rw[hL,rd_nat]
  rw[eachl,if_pos (by omega),hrd,drw1 p _ b1 b2 hp hl u k hu (by omega),Option.bind_some,drop_rd bs i (by omega),run]
  cases hd:draw1 p (rd bs (i:Int)) u with
  | none=>rfl
  | some q =>
   obtain⟨v,n⟩:=q
   have hn:=draw1_le p _ u hu hd
   simp only
   rw[if_pos trivial,w64 (x:=(n:Int)-1) (by omega) (by omega),if_pos (by rw[hL];exact hG i u n v (by omega) hu hd)]
   exact ih (i+1) n k (L ++ [(v,(n:Int)-1)]) (by omega) (by simp;omega) hn.2.1 (by omega)
theorem run_len (p:List Int):∀ (bs:List Int) (u:Nat) (L:List (Int×Int)),(run p bs u L).2.2=0→(run p bs u L).1.length=L.length+bs.length:=by
 intro bs
 induction bs with
 | nil=>intro u L h;rfl
 | cons b bs ih =>
  intro u L h
  rw[run] at h ⊢
  cases hd:draw1 p b u with
  | none=>rw[hd] at h;exact absurd (show(3:Int)=0 from h) (by decide)
  | some q =>
   obtain⟨v,n⟩:=q
   rw[hd] at h
   simp only at h ⊢
   rw[ih n _ h]
   simp
   omega
theorem allOk_of {bs:List Int} (h:(bs.any fun b => !okBound b)=false):AllOk bs:=by
 intro b hb
 have:=(List.any_eq_false.1 h) b hb
 simp[okBound] at this
 omega
end Go.Proofs.Ytbnifpfnjhdenaa.Pl
end
section
set_option linter.unusedVariables false
set_option linter.unusedSimpArgs false
namespace Go.Proofs.Ytbnifpfnjhdenaa.Pl
open Go.RowKit Go.Proofs.Ytbnifpfnjhdenaa.Q Go.Proofs.YtbnifpfnjhdenaaW.PrintWords Go.Proofs.YtbnifpfnjhdenaaW.PrintLast
def allA (p bs:List Int):List Int×Int×Int:=if(bs.any fun b => !okBound b)=true then([],0,2) else allR (run p bs 0 [])
theorem drw_all_f (p bs:List Int) (hp:∀ x ∈ p,0≤x∧x≤255) (hl:p.length≤140737488351232) (hbl:bs.length≤17592186043904):draw_All.f p bs=some (allA p bs):=by
 unfold draw_All.f allA eachf
 rw[if_pos (by omega)]
 by_cases h:(bs.any fun b => !okBound b)=true
 ·rw[if_pos h,if_pos h]
  rfl
 ·have hd:eachl (fun _ _ _=>true) (p.length+bs.length+5) bs (strOfNums p) 0 []=some (run p bs 0 []):=drw_all _ p bs (allOk_of (by simpa using h)) hp (by omega) (fun _ _ _ _ _ _ _=>rfl) bs.length 0 0 _ [] (by omega) rfl (by omega) (by omega)
  rw[if_neg h,if_neg h,hd,Option.bind_some]
  unfold allR
  by_cases e:(run p bs 0 []).2.2=0
  ·rw[if_pos e,if_pos e]
   have:=run_len p bs 0 [] e
   unfold filled
   rw[this]
   simp
  ·rw[if_neg e,if_neg e]
end Go.Proofs.Ytbnifpfnjhdenaa.Pl
end
section
set_option linter.unusedVariables false
set_option linter.unusedSimpArgs false
namespace Go.Proofs.Ytbnifpfnjhdenaa.Pl
open Go.RowKit Go.Proofs.Ytbnifpfnjhdenaa.Q Go.Proofs.YtbnifpfnjhdenaaW.PrintWords Go.Proofs.YtbnifpfnjhdenaaW.PrintLast
theorem draw1_one (p:List Int) (u:Nat):draw1 p 1 u=some (0,u):=rfl
end Go.Proofs.Ytbnifpfnjhdenaa.Pl
end
section
set_option linter.unusedVariables false
set_option linter.unusedSimpArgs false
namespace Go.Proofs.Ytbnifpfnjhdenaa.Pl
open Go.RowKit Go.Proofs.Ytbnifpfnjhdenaa.Q Go.Proofs.YtbnifpfnjhdenaaW.PrintWords Go.Proofs.YtbnifpfnjhdenaaW.PrintLast
def dr (p:List Int):List Int→Nat→Option (List Int×Nat)
 | [],u=>some ([],u)
 | b ::bs,u=>(draw1 p b u).bind fun q=>(dr p bs q.2).map fun r=>(q.1 ::r.1,r.2)
theorem run_dr (p:List Int):∀ (bs:List Int) (u:Nat) (L:List (Int×Int)),
  match dr p bs u with
  | some r=>(run p bs u L).2.2=0∧(run p bs u L).2.1=(r.2:Int)∧(run p bs u L).1.map (·.1)=L.map (·.1) ++ r.1
  | none=>(run p bs u L).2.2=3:=by
 intro bs
 induction bs with
 | nil=>intro u L;exact⟨rfl,rfl,by simp[run]⟩
 | cons b bs ih =>
  intro u L
  rw[dr,run]
  cases draw1 p b u with
  | none=>rfl
  | some q =>
   obtain⟨v,n⟩:=q
   have:=ih n (L ++ [(v,(n:Int)-1)])
   simp only[Option.bind_some]
   cases h:dr p bs n with
   | none=>rw[h] at this;exact this
   | some r =>
    rw[h] at this
    simp only[Option.map_some]
    exact⟨this.1,this.2.1,by rw[this.2.2];simp⟩
def drA (p bs:List Int):List Int×Int×Int:=if(bs.any fun b => !okBound b)=true then([],0,2) else match dr p bs 0 with|some r=>(r.1,(r.2:Int),0)|none=>([],0,3)
theorem allA_dr (p bs:List Int):allA p bs=drA p bs:=by
 unfold allA drA allR
 split
 ·rfl
 ·have:=run_dr p bs 0 []
  cases h:dr p bs 0 with
  | none=>rw[h] at this;simp only at this;rw[this];rfl
  | some r =>
   rw[h] at this
   simp only at this
   rw[this.1,if_pos rfl,this.2.1,this.2.2]
   rfl
theorem scan_iff (p:List Int) (b:Int):∀ (d u j:Nat),scan p b d u=some j↔u≤j∧j<u+d∧taken p b j∧∀ i,u≤i→i<j→¬ taken p b i:=by
 intro d
 induction d with
 | zero=>intro u j;simp[scan];omega
 | succ d ih =>
  intro u j
  unfold scan
  by_cases ht:taken p b u
  ·rw[if_pos ht]
   constructor
   ·intro h
    obtain rfl:=Option.some.inj h
    exact⟨Nat.le_refl _,by omega,ht,fun i h1 h2=>by omega⟩
   ·rintro⟨h1,h2,h3,h4⟩
    by_cases e:u=j
    ·rw[e]
    ·exact absurd ht (h4 u (Nat.le_refl _) (by omega))
  ·rw[if_neg ht,ih]
   constructor
   ·rintro⟨h1,h2,h3,h4⟩
    refine⟨by omega,by omega,h3,fun i h5 h6=>?_⟩
    by_cases e:i=u
    ·rw[e];exact ht
    ·exact h4 i (by omega) h6
   ·rintro⟨h1,h2,h3,h4⟩
    refine⟨?_,by omega,h3,fun i h5 h6=>h4 i (by omega) h6⟩
    by_cases e:u=j
    ·rw[←e] at h3;exact absurd h3 ht
    ·omega
theorem draw1_iff (p:List Int) (b:Int) (hb:b≠1) (u:Nat) (hu:u≤p.length) (v:Int) (n:Nat):draw1 p b u=some (v,n)↔u<n∧n≤p.length∧taken p b (n-1)∧(∀ i,u≤i→i<n-1→¬ taken p b i)∧v=Int.tmod (rd p ((n-1:Nat):Int)) b:=by
 unfold draw1
 rw[if_neg hb,Option.map_eq_some_iff]
 constructor
 ·rintro⟨j,hj,h⟩
  rw[scan_iff] at hj
  simp only[Prod.mk.injEq] at h
  obtain⟨rfl,rfl⟩:=h
  exact⟨by omega,by omega,hj.2.2.1,fun i h1 h2=>hj.2.2.2 i h1 (by omega),rfl⟩
 ·rintro⟨h1,h2,h3,h4,rfl⟩
  exact⟨n-1,(scan_iff p b _ _ _).2 ⟨by omega,by omega,h3,h4⟩,by simp;omega⟩
end Go.Proofs.Ytbnifpfnjhdenaa.Pl
end
section
set_option linter.unusedVariables false
set_option linter.unusedSimpArgs false
namespace Go.Proofs.Ytbnifpfnjhdenaa.Pl
open Go.RowKit Go.Proofs.Ytbnifpfnjhdenaa.Q Go.Proofs.YtbnifpfnjhdenaaW.PrintWords Go.Proofs.YtbnifpfnjhdenaaW.PrintLast
def Tn (p q:List Int):List Int→List Int→List Int→Nat→Nat→Prop
 | [],[],[],u,n=>n=u
 | b ::bs,v ::vs,w ::ws,u,n=>∃ m,draw1 p b u=some (v,m)∧u≤m∧(∀ i,u≤i→i+1<m→rd q (i:Int)=rd p (i:Int))∧(b≠1→rd q ((m-1:Nat):Int)=rd p ((m-1:Nat):Int)-v+w)∧Tn p q bs vs ws m n
 | _,_,_,_,_=>False
def Bytes (p:List Int):Prop:=∀ x ∈ p,0≤x∧x≤255
theorem bytes_rd {p:List Int} (h:Bytes p) (i:Nat):0≤rd p (i:Int)∧rd p (i:Int)≤255:=by
 by_cases hi:i<p.length
 ·exact h _ (rd_mem p (i:Int) (by simpa using hi))
 ·rw[rd_nat,List.getD_eq_getElem?_getD,List.getElem?_eq_none (by omega)]
  exact⟨by decide,by decide⟩
theorem turn_one (x b w:Int) (hx:0≤x) (h1:1≤b) (h2:b≤256) (ht:x<256-256 % b) (hw0:0≤w) (hw:w<b) :
  0≤x-Int.tmod x b+w∧x-Int.tmod x b+w≤255∧x-Int.tmod x b+w<256-256 % b∧Int.tmod (x-Int.tmod x b+w) b=w:=by
 rw[Int.tmod_eq_emod_of_nonneg hx]
 have e1:=Int.mul_ediv_add_emod x b
 have e2:=Int.mul_ediv_add_emod 256 b
 have m1:=Int.emod_nonneg x (show b≠0 by omega)
 have m2:=Int.emod_lt_of_pos x (show 0<b by omega)
 have q0:=Int.ediv_nonneg hx (show 0≤b by omega)
 have m3:=Int.emod_nonneg 256 (show b≠0 by omega)
 have hq:x / b<256 / b:=by
  have:x<256 / b*b:=by rw[Int.mul_comm];omega
  exact Int.ediv_lt_of_lt_mul (by omega) this
 have hmul:b*(x / b)+b≤b*(256 / b):=by
  have h:=Int.mul_le_mul_of_nonneg_left (show x / b+1≤256 / b by omega) (show 0≤b by omega)
  rw[Int.mul_add,Int.mul_one] at h
  exact h
 have hnn:0≤b*(x / b):=Int.mul_nonneg (by omega) q0
 have ey:x-x % b+w=b*(x / b)+w:=by omega
 rw[ey]
 refine⟨by omega,by omega,by omega,?_⟩
 rw[Int.tmod_eq_emod_of_nonneg (by omega),Int.mul_add_emod_self_left]
 exact Int.emod_eq_of_lt hw0 hw
def Valid:List Int→List Int→Prop
 | [],[]=>True
 | b ::bs,w ::ws=>0≤w∧w<b∧Valid bs ws
 | _,_=>False
theorem draw1_valid (p:List Int) (hp:Bytes p) (b:Int) (h1:1≤b) (u:Nat) (hu:u≤p.length) (v:Int) (m:Nat) (h:draw1 p b u=some (v,m)):0≤v∧v<b:=by
 by_cases hb:b=1
 ·subst hb
  rw[draw1_one] at h
  simp only[Option.some.injEq,Prod.mk.injEq] at h
  omega
 ·rw[draw1_iff p b hb u hu] at h
  obtain⟨_,_,_,_,rfl⟩:=h
  have hx:=bytes_rd hp (m-1)
  rw[Int.tmod_eq_emod_of_nonneg hx.1]
  exact⟨Int.emod_nonneg _ (by omega),Int.emod_lt_of_pos _ (by omega)⟩
theorem dr_valid (p:List Int) (hp:Bytes p):∀ (bs:List Int) (u:Nat),AllOk bs→u≤p.length→∀ r,dr p bs u=some r→Valid bs r.1:=by
 intro bs
 induction bs with
 | nil=>intro u _ hu r h;obtain rfl:=Option.some.inj h;trivial
 | cons b bs ih =>
  intro u hb hu r h
  rw[dr] at h
  obtain⟨⟨v,n⟩,h1,h2⟩:=Option.bind_eq_some_iff.1 h
  obtain⟨s,h3,rfl⟩:=Option.map_eq_some_iff.1 h2
  have a:=draw1_le p b u hu h1
  have hv:=draw1_valid p hp b (hb b List.mem_cons_self).1 u hu v n h1
  exact⟨hv.1,hv.2,ih n (fun x hx=>hb x (List.mem_cons_of_mem _ hx)) a.2.1 s h3⟩
theorem Tn.dr {p q:List Int}:∀ {bs vs ws:List Int} {u n:Nat},Tn p q bs vs ws u n→dr p bs u=some (vs,n)
 | [],[],[],u,n,h=>by rw[Pl.dr];rw[show n=u from h]
 | b ::bs,v ::vs,w ::ws,u,n,h=>by
  obtain⟨m,h1,_,_,_,h5⟩:=h
  rw[Pl.dr,h1,Option.bind_some,Tn.dr h5]
  rfl
 | [],_ ::_,_,_,_,h=>h.elim
 | [],[],_ ::_,_,_,h=>h.elim
 | _ ::_,[],_,_,_,h=>h.elim
 | _ ::_,_ ::_,[],_,_,h=>h.elim
theorem back_one {p q:List Int} (hp:Bytes p) (hl:q.length=p.length) (b v w:Int) (u m:Nat) (ob:1≤b∧b≤256) (hv:0≤w∧w<b) (hu:u≤p.length) (h1:draw1 p b u=some (v,m))
  (h3:∀ i,u≤i→i+1<m→rd q (i:Int)=rd p (i:Int)) (h4:b≠1→rd q ((m-1:Nat):Int)=rd p ((m-1:Nat):Int)-v+w):draw1 q b u=some (w,m):=by
 by_cases hb1:b=1
 ·subst hb1
  have hw:w=0:=by omega
  rw[draw1_one] at h1 ⊢
  simp only[Option.some.injEq,Prod.mk.injEq] at h1 ⊢
  exact⟨hw.symm,h1.2⟩
 ·rw[draw1_iff p b hb1 u hu] at h1
  obtain⟨k1,k2,k3,k4,k5⟩:=h1
  have hx:=bytes_rd hp (m-1)
  have ht:=turn_one _ b w hx.1 ob.1 ob.2 k3 hv.1 hv.2
  have e:=h4 hb1
  rw[k5] at e
  rw[←e] at ht
  rw[draw1_iff q b hb1 u (by omega)]
  refine⟨k1,by omega,ht.2.2.1,fun i h6 h7=>?_,ht.2.2.2.symm⟩
  unfold taken
  rw[h3 i h6 (by omega)]
  exact k4 i h6 h7
theorem Tn.back {p q:List Int} (hp:Bytes p) (hl:q.length=p.length):∀ {bs vs ws:List Int} {u n:Nat},AllOk bs→Valid bs ws→u≤p.length→Tn p q bs vs ws u n→Tn q p bs ws vs u n
 | [],[],[],u,n,_,_,_,h=>h
 | b ::bs,v ::vs,w ::ws,u,n,hb,hv,hu,h=>by
  obtain⟨m,h1,h2,h3,h4,h5⟩:=h
  have a:=draw1_le p b u hu h1
  have ob:=hb b List.mem_cons_self
  exact⟨m,back_one hp hl b v w u m ob ⟨hv.1,hv.2.1⟩ hu h1 h3 h4,h2,fun i h6 h7=>(h3 i h6 h7).symm,fun hb1=>by rw[h4 hb1];omega,Tn.back hp hl (fun x hx=>hb x (List.mem_cons_of_mem _ hx)) hv.2.2 a.2.1 h5⟩
 | [],_ ::_,_,_,_,_,_,_,h=>h.elim
 | [],[],_ ::_,_,_,_,_,_,h=>h.elim
 | _ ::_,[],_,_,_,_,_,_,h=>h.elim
 | _ ::_,_ ::_,[],_,_,_,_,_,h=>h.elim
theorem Tn.on {p r q:List Int} (hp:Bytes p) (hl:r.length=p.length):∀ {bs vs zs ws:List Int} {u n n':Nat},AllOk bs→Valid bs zs→u≤p.length→Tn p r bs vs zs u n→Tn r q bs zs ws u n'→Tn p q bs vs ws u n
 | [],[],[],[],u,n,n',_,_,_,h,_=>h
 | b ::bs,v ::vs,z ::zs,w ::ws,u,n,n',hb,hv,hu,h,h'=>by
  obtain⟨m,h1,h2,h3,h4,h5⟩:=h
  obtain⟨m',k1,k2,k3,k4,k5⟩:=h'
  have a:=draw1_le p b u hu h1
  have ob:=hb b List.mem_cons_self
  have e:=back_one hp hl b v z u m ob ⟨hv.1,hv.2.1⟩ hu h1 h3 h4
  have e1:m'=m:=by
   rw[e] at k1
   simp only[Option.some.injEq,Prod.mk.injEq] at k1
   exact k1.2.symm
  subst e1
  refine⟨m',h1,h2,fun i h6 h7=>by rw[k3 i h6 h7,h3 i h6 h7],fun hb1=>by rw[k4 hb1,h4 hb1];omega,Tn.on hp hl (fun x hx=>hb x (List.mem_cons_of_mem _ hx)) hv.2.2 a.2.1 h5 k5⟩
 | [],_ ::_,_,_,_,_,_,_,_,_,h,_=>h.elim
 | [],[],_ ::_,_,_,_,_,_,_,_,h,_=>h.elim
 | _ ::_,[],_,_,_,_,_,_,_,_,h,_=>h.elim
 | _ ::_,_ ::_,[],_,_,_,_,_,_,_,h,_=>h.elim
 | [],[],[],_ ::_,_,_,_,_,_,_,_,h=>h.elim
 | _ ::_,_ ::_,_ ::_,[],_,_,_,_,_,_,_,h=>h.elim
theorem Tn.same {p q r:List Int}:∀ {bs vs ws:List Int} {u n n':Nat},u≤p.length→Tn p q bs vs ws u n→Tn p r bs vs ws u n'→∀ i,u≤i→i<n→rd q (i:Int)=rd r (i:Int)
 | [],[],[],u,n,n',_,h,_,i,h1,h2=>by
  have:n=u:=h
  omega
 | b ::bs,v ::vs,w ::ws,u,n,n',hu,h,g,i,i1,i2=>by
  obtain⟨m,h1,h2,h3,h4,h5⟩:=h
  obtain⟨m',g1,g2,g3,g4,g5⟩:=g
  have e1:m'=m:=by
   rw[h1] at g1
   simp only[Option.some.injEq,Prod.mk.injEq] at g1
   exact g1.2.symm
  subst e1
  have a:=draw1_le p b u hu h1
  by_cases c:m'≤i
  ·exact Tn.same a.2.1 h5 g5 i c i2
  ·by_cases c2:i+1<m'
   ·rw[h3 i i1 c2,g3 i i1 c2]
   ·have hb:b≠1:=by
     intro hb
     subst hb
     rw[draw1_one] at h1
     simp only[Option.some.injEq,Prod.mk.injEq] at h1
     omega
    have:i=m'-1:=by omega
    rw[this,h4 hb,g4 hb]
 | [],_ ::_,_,_,_,_,_,h,_,_,_,_=>h.elim
 | [],[],_ ::_,_,_,_,_,h,_,_,_,_=>h.elim
 | _ ::_,[],_,_,_,_,_,h,_,_,_,_=>h.elim
 | _ ::_,_ ::_,[],_,_,_,_,h,_,_,_,_=>h.elim
end Go.Proofs.Ytbnifpfnjhdenaa.Pl
end
section
namespace Go.Proofs.Ytbnifpfnjhdenaa.Q
open Go.RowKit Go.Proofs.YtbnifpfnjhdenaaW.PrintWords Go.Proofs.YtbnifpfnjhdenaaW.PrintLast Go.Proofs.YtbnifpfnjhdenaaW.PrintMore
open Go.Proofs.YtbnifpfnjhdenaaW.PrintLast renaming i64_w → jD, i32_w → jE
open Go.Proofs.YtbnifpfnjhdenaaW.PrintMore renaming max_three → jK, min_three → jL
open Go.Proofs.YtbnifpfnjhdenaaW.PrintWords renaming below_size → ja, below_step → ji, blk_drew → jl, blk_alloc → jn, blk_drewN → jp, blk_below → jr, blk_put → jt, below_drew1 → jG, below_set → jJ
open Go.Proofs.YtbnifpfnjhdenaaW.PrintWords.Kd renaming int → jb, R_mono → jc, R_below → jd, R_far → je, R_base → jf, R_elder' → jg, R_reads' → jh, R_lt → jj, R_new' → jk, R_lower → jm, R_slice → jo, R_drew → jq, R_types → js, R → ju, C_below → jv, R_after → jw, R_over' → jx, slice → jy, R_typed → jz, S_below → jA, S_mono → jB, S_far → jC, fresh' → jF, at_int → jH, S_elder' → jI, S_reads' → jM
attribute [local go_sem] max2_int min2_int max_two min_two jK jL max_four min_four
set_option linter.unusedVariables false
set_option linter.unusedSimpArgs false
def churnref11_Check.l0:Nat→List Int→List Bool→Int→Option (Int)
 | 0,_,_,_=>none
 | k+1,x0,x3,x4=>if x4<(x0.length:Int) then(if 0≤x4 then(if(rd x0 x4)<0 then(some 110) else(if(rd x0 x4) ≥ (x0.length:Int) then(some 110) else(if 0≤(rd x0 x4) then(if(rd x0 x4)<(x3.length:Int) then(if rdOf false x3 (rd x0 x4)=true then(some 110) else(churnref11_Check.l0 k x0 (x3.set ((rd x0 x4):Int).toNat true) (wrap64 (x4+1)))) else(none)) else(none)))) else(none)) else(some 0)
end Go.Proofs.Ytbnifpfnjhdenaa.Q
end
section
set_option linter.unusedVariables false
set_option linter.unusedSimpArgs false
namespace Go.Proofs.Ytbnifpfnjhdenaa.Pl
open Go.RowKit Go.Proofs.Ytbnifpfnjhdenaa.Q Go.Proofs.YtbnifpfnjhdenaaW.PrintWords Go.Proofs.YtbnifpfnjhdenaaW.PrintLast
def Fits (l:List Int):Prop:=(∀ x ∈ l,0≤x∧x<(l.length:Int))∧l.Nodup
instance (l:List Int):Decidable (Fits l):=by unfold Fits;infer_instance
def Seen (n:Nat) (seen:List Bool) (met:List Int):Prop:=seen.length=n∧∀ v:Nat,v<n→(seen.getD v false=true↔(v:Int) ∈ met)
theorem Seen.start (n:Nat):Seen n (List.replicate n false) []:=by
 refine⟨by simp,fun v hv=>?_⟩
 simp[List.getD_eq_getElem?_getD,List.getElem?_replicate,hv]
theorem Seen.next {n:Nat} {seen:List Bool} {met:List Int} (h:Seen n seen met) (x:Int) (h0:0≤x) (hx:x<n):Seen n (seen.set x.toNat true) (met ++ [x]):=by
 refine⟨by rw[List.length_set];exact h.1,fun v hv=>?_⟩
 have hl:=h.1
 rw[List.getD_eq_getElem?_getD,List.getElem?_set]
 by_cases e:x.toNat=v
 ·have:(v:Int)=x:=by omega
  simp[e,this,hl,hv]
 ·have h1:=h.2 v hv
  rw[List.getD_eq_getElem?_getD] at h1
  simp only[e,if_false,h1,List.mem_append,List.mem_singleton]
  constructor
  ·exact Or.inl
  ·rintro(h2|h2)
   ·exact h2
   ·omega
theorem Seen.at_ {n:Nat} {seen:List Bool} {met:List Int} (h:Seen n seen met) (x:Int) (h0:0≤x) (hx:x<n):(rdOf false seen x=true↔x ∈ met):=by
 have:=h.2 x.toNat (by omega)
 rw[show((x.toNat:Nat):Int)=x from by omega] at this
 exact this
theorem fits_split (l:List Int) (i:Nat) (h:i<l.length) (hp:∀ x ∈ l.take i,0≤x∧x<(l.length:Int)) (hn:(l.take i).Nodup) :
  (Fits l→0≤rd l (i:Int)∧rd l (i:Int)<(l.length:Int)∧rd l (i:Int) ∉ l.take i):=by
 intro hf
 have hm:rd l (i:Int) ∈ l:=rd_mem l _ (by simpa using h)
 refine⟨(hf.1 _ hm).1,(hf.1 _ hm).2,fun hc=>?_⟩
 have h2:(l.take (i+1)).Nodup:=(List.take_sublist _ _).nodup hf.2
 rw[take_rd l i h,List.nodup_append] at h2
 exact h2.2.2 _ hc _ (List.mem_singleton.2 rfl) rfl
theorem fits_loops (l:List Int) (hl:l.length≤9223372036854775000) (d:Nat):∀ (i:Nat) (seen:List Bool),i+d=l.length→Seen l.length seen (l.take i) →
  (∀ x ∈ l.take i,0≤x∧x<(l.length:Int))→(l.take i).Nodup →
  Ev (fun k=>perm_fits.l0 k l seen l (l.length:Int) (i:Int)) (decide (Fits l))∧Ev (fun k=>churnref11_Check.l0 k l seen (i:Int)) (if Fits l then 0 else 110):=by
 induction d with
 | zero =>
  intro i seen hi hs hp hn
  have hf:Fits l:=by
   have h1:l.take i=l:=List.take_of_length_le (by omega)
   rw[h1] at hp hn
   exact⟨hp,hn⟩
  rw[if_pos hf,decide_eq_true hf]
  exact⟨Ev.step (f:=fun _=>some true) (fun k=>by rw[perm_fits.l0,if_neg (by omega)]) (ev_some rfl),Ev.step (f:=fun _=>some 0) (fun k=>by rw[churnref11_Check.l0,if_neg (by omega)]) (ev_some rfl)⟩
 | succ d ih =>
  intro i seen hi hs hp hn
  have hsp:=fits_split l i (by omega) hp hn
  have hlen:=hs.1
  by_cases h1:rd l (i:Int)<0
  ·have hf:¬ Fits l:=fun h=>by have:=(hsp h).1;omega
   rw[if_neg hf,decide_eq_false hf]
   exact⟨Ev.step (f:=fun _=>some false) (fun k=>by rw[perm_fits.l0,if_pos (by omega),if_pos (by omega),if_pos (by omega),if_pos h1]) (ev_some rfl),
    Ev.step (f:=fun _=>some 110) (fun k=>by rw[churnref11_Check.l0,if_pos (by omega),if_pos (by omega),if_pos h1]) (ev_some rfl)⟩
  ·by_cases h2:rd l (i:Int) ≥ (l.length:Int)
   ·have hf:¬ Fits l:=fun h=>by have:=(hsp h).2.1;omega
    rw[if_neg hf,decide_eq_false hf]
    exact⟨Ev.step (f:=fun _=>some false) (fun k=>by rw[perm_fits.l0,if_pos (by omega),if_pos (by omega),if_pos (by omega),if_neg h1,if_pos h2]) (ev_some rfl),
     Ev.step (f:=fun _=>some 110) (fun k=>by rw[churnref11_Check.l0,if_pos (by omega),if_pos (by omega),if_neg h1,if_pos h2]) (ev_some rfl)⟩
   ·have hat:=hs.at_ (rd l (i:Int)) (by omega) (by omega)
    by_cases h3:rdOf false seen (rd l (i:Int))=true
    ·have hf:¬ Fits l:=fun h=>(hsp h).2.2 (hat.1 h3)
     rw[if_neg hf,decide_eq_false hf]
     exact⟨Ev.step (f:=fun _=>some false) (fun k=>by rw[perm_fits.l0,if_pos (by omega),if_pos (by omega),if_pos (by omega),if_neg h1,if_neg h2,if_pos (by omega),if_pos (by omega),if_pos h3]) (ev_some rfl),
      Ev.step (f:=fun _=>some 110) (fun k=>by rw[churnref11_Check.l0,if_pos (by omega),if_pos (by omega),if_neg h1,if_neg h2,if_pos (by omega),if_pos (by omega),if_pos h3]) (ev_some rfl)⟩
    ·have hnx:=hs.next (rd l (i:Int)) (by omega) (by omega)
     rw[←take_rd l i (by omega)] at hnx
     obtain⟨e1,e2⟩:=ih (i+1) _ (by omega) hnx (by
      rw[take_rd l i (by omega)]
      intro x hx
      rcases List.mem_append.1 hx with hx|hx
      ·exact hp x hx
      ·have:=List.mem_singleton.1 hx
       subst this
       exact⟨by omega,by omega⟩) (by
      rw[take_rd l i (by omega),List.nodup_append]
      refine⟨hn,by simp,fun a ha b hb hab=>?_⟩
      have:=List.mem_singleton.1 hb
      subst this
      subst hab
      exact h3 (hat.2 ha))
     refine⟨Ev.step (fun k=>?_) e1,Ev.step (fun k=>?_) e2⟩
     ·rw[perm_fits.l0,if_pos (by omega),if_pos (by omega),if_pos (by omega),if_neg h1,if_neg h2,if_pos (by omega),if_pos (by omega),if_neg h3,w64 (by omega) (by omega)]
      rfl
     ·rw[churnref11_Check.l0,if_pos (by omega),if_pos (by omega),if_neg h1,if_neg h2,if_pos (by omega),if_pos (by omega),if_neg h3,w64 (by omega) (by omega)]
      rfl
theorem fits_ev (l:List Int) (hl:l.length≤281474976710656):Ev (fun k=>perm_fits.f k l) (decide (Fits l)):=by
 unfold perm_fits.f
 refine ev_pos (by omega) (ev_pos (by omega) ?_)
 exact(fits_loops l (by omega) l.length 0 _ (by omega) (by simpa using Seen.start l.length) (by simp) (by simp)).1
def pick (p q:List Int):List Int:=p.map fun i=>rd q i
theorem picked_ev (p q:List Int) (hl:p.length≤17592186044415) (hp:∀ x ∈ p,0≤x∧x<(q.length:Int)):Ev (fun k=>perm_picked_int.f k p q) (pick p q):=by
 unfold perm_picked_int.f
 refine ev_pos (by omega) (ev_pos (by omega) ?_)
 have key:∀ (d i:Nat),i+d=p.length→Ev (fun k=>perm_picked_int.l0 k q (pick (p.take i) q) p (p.length:Int) (i:Int)) (pick p q):=by
  intro d
  induction d with
  | zero =>
   intro i hi
   rw[List.take_of_length_le (by omega)]
   exact Ev.step (f:=fun _=>some (pick p q)) (fun k=>by rw[perm_picked_int.l0,if_neg (by omega)]) (ev_some rfl)
  | succ d ih =>
   intro i hi
   have hb:=hp _ (rd_mem p (i:Int) (by simp;omega))
   refine Ev.step (fun k=>?_) (ih (i+1) (by omega))
   have hlen:(pick (p.take i) q).length<17592186044416:=by simp[pick];omega
   rw[perm_picked_int.l0,if_pos (by omega),if_pos (by omega),if_pos (by omega),if_pos hb.1,if_pos hb.2,if_pos hlen,w64 (by omega) (by omega),take_rd p i (by omega)]
   simp[pick]
 have:=key p.length 0 (by omega)
 simpa [pick] using this
end Go.Proofs.Ytbnifpfnjhdenaa.Pl
end
section
set_option linter.unusedVariables false
set_option linter.unusedSimpArgs false
namespace Go.Proofs.Ytbnifpfnjhdenaa.Pl
open Go.RowKit Go.Proofs.Ytbnifpfnjhdenaa.Q Go.Proofs.YtbnifpfnjhdenaaW.PrintWords Go.Proofs.YtbnifpfnjhdenaaW.PrintLast
def iota (n:Nat):List Int:=(List.range n).map fun i:Nat=>(i:Int)
theorem iota_len (n:Nat):(iota n).length=n:=by simp[iota]
theorem iota_get (n i:Nat) (h:i<(iota n).length):(iota n)[i]=(i:Int):=by simp[iota]
theorem iota_succ (n:Nat):iota (n+1)=iota n ++ [(n:Int)]:=by simp[iota,List.range_succ]
theorem mx_nat (n:Nat):mx (n:Int) 0=(n:Int):=by unfold mx;split <;> omega
theorem mx_neg (n:Int) (h:n≤0):mx n 0=0:=by unfold mx;split <;> omega
theorem identity_ev (n:Nat) (hn:n≤17592186044415):Ev (fun k=>perm_Identity.f k (n:Int)) (iota n):=by
 unfold perm_Identity.f
 rw[mx_nat]
 have key:∀ (d i:Nat),i+d=n→Ev (fun k=>perm_Identity.l0 k (iota i) (n:Int) (i:Int)) (iota n):=by
  intro d
  induction d with
  | zero =>
   intro i hi
   have:i=n:=by omega
   subst this
   exact Ev.step (f:=fun _=>some (iota i)) (fun k=>by rw[perm_Identity.l0,if_neg (by omega)]) (Ev.now _)
  | succ d ih =>
   intro i hi
   have hl:=iota_len i
   refine Ev.step (fun k=>?_) (ih (i+1) (by omega))
   rw[perm_Identity.l0,if_pos (by omega),if_pos (by omega),w64 (by omega) (by omega),iota_succ]
   rfl
 have:=key n 0 (by omega)
 simpa [iota] using this
theorem fits_inj {p:List Int} (h:Fits p) {i j:Nat} (hi:i<p.length) (hj:j<p.length) (e:p[i]=p[j]):i=j :=
 (List.getElem_inj h.2).1 e
theorem nodup_bound:∀ (n:Nat) (l:List Int),l.Nodup→(∀ x ∈ l,0≤x∧x<(n:Int))→l.length≤n
 | 0,l,_,h=>by
  cases l with
  | nil=>simp
  | cons x l=>have:=h x (by simp);omega
 | n+1,l,hn,h=>by
  by_cases hm:(n:Int) ∈ l
  ·have h1:=nodup_bound n (l.erase (n:Int)) (hn.erase _) (fun x hx=>by
    have:=(hn.mem_erase_iff).1 hx
    have:=h x this.2
    omega)
   rw[List.length_erase_of_mem hm] at h1
   omega
  ·have h1:=nodup_bound n l hn (fun x hx=>by
    have:=h x hx
    have:x≠(n:Int):=fun e=>hm (e ▸ hx)
    omega)
   omega
theorem fits_all {p:List Int} (h:Fits p) (v:Nat) (hv:v<p.length):∃ (i:Nat) (hi:i<p.length),p[i]=(v:Int):=by
 by_cases hm:(v:Int) ∈ p
 ·obtain⟨i,hi,e⟩:=List.getElem_of_mem hm
  exact⟨i,hi,e⟩
 ·have:=nodup_bound p.length ((v:Int) ::p) (List.nodup_cons.2 ⟨hm,h.2⟩) (fun x hx=>by
   rcases List.mem_cons.1 hx with rfl|hx
   ·omega
   ·exact h.1 x hx)
  simp only[List.length_cons] at this
  omega
theorem nodup_get {l:List Int} (h:∀ (i j:Nat) (hi:i<l.length) (hj:j<l.length),i<j→l[i]≠l[j]):l.Nodup:=by
 unfold List.Nodup
 rw[List.pairwise_iff_getElem]
 exact h
theorem fits_iota (n:Nat):Fits (iota n):=by
 refine⟨fun x hx=>?_,?_⟩
 ·simp only[iota,List.mem_map,List.mem_range] at hx
  obtain⟨i,hi,rfl⟩:=hx
  rw[iota_len]
  omega
 ·refine nodup_get fun i j hi hj hij=>?_
  rw[iota_get,iota_get]
  omega
theorem pick_len (p q:List Int):(pick p q).length=p.length:=by simp[pick]
theorem pick_get (p q:List Int) (i:Nat) (hi:i<p.length):(pick p q)[i]'(by rw[pick_len];exact hi)=rd q p[i]:=by simp[pick]
def IsInv (p r:List Int):Prop:=r.length=p.length∧∀ (i:Nat) (hi:i<p.length),rd r p[i]=(i:Int)
theorem IsInv.range {p r:List Int} (fp:Fits p) (h:IsInv p r) (v:Nat) (hv:v<r.length):∃ (i:Nat) (hi:i<p.length),p[i]=(v:Int)∧r[v]=(i:Int):=by
 obtain⟨i,hi,e⟩:=fits_all fp v (by rw[←h.1];exact hv)
 refine⟨i,hi,e,?_⟩
 have:=h.2 i hi
 rw[e,rd_lt r v hv] at this
 exact this
theorem IsInv.right {p r:List Int} (fp:Fits p) (h:IsInv p r):pick p r=iota p.length:=by
 apply List.ext_getElem
 ·simp[pick,iota]
 ·intro i h1 h2
  have hi:i<p.length:=by simpa [pick] using h1
  rw[pick_get p r i hi,h.2 i hi,iota_get]
theorem IsInv.left {p r:List Int} (fp:Fits p) (h:IsInv p r):pick r p=iota p.length:=by
 apply List.ext_getElem
 ·simp[pick,iota,h.1]
 ·intro v h1 h2
  have hv:v<r.length:=by simpa [pick] using h1
  obtain⟨i,hi,e1,e2⟩:=h.range fp v hv
  rw[pick_get r p v hv,e2,rd_lt p i hi,e1,iota_get]
end Go.Proofs.Ytbnifpfnjhdenaa.Pl
end
section
set_option linter.unusedVariables false
set_option linter.unusedSimpArgs false
namespace Go.Proofs.Ytbnifpfnjhdenaa.Pl
open Go.RowKit Go.Proofs.Ytbnifpfnjhdenaa.Q Go.Proofs.YtbnifpfnjhdenaaW.PrintWords Go.Proofs.YtbnifpfnjhdenaaW.PrintLast
def boundsL:Nat→List Int
  | 0=>[]
  | 1=>[]
  | n+2=>((n+2:Nat):Int) ::boundsL (n+1)
theorem boundsL_len:∀ n,(boundsL n).length=n-1
  | 0=>rfl
  | 1=>rfl
  | n+2=>by rw[boundsL,List.length_cons,boundsL_len (n+1)];omega
theorem boundsL_at:∀ (n k:Nat),k+1<n→rd (boundsL n) (k:Int)=(n:Int)-(k:Int)
  | 0,k,h=>by omega
  | 1,k,h=>by omega
  | n+2,0,h=>by rw[boundsL];simp[rd]
  | n+2,k+1,h=>by
    have:=boundsL_at (n+1) k (by omega)
    rw[boundsL]
    have e:rd (((n+2:Nat):Int) ::boundsL (n+1)) ((k+1:Nat):Int)=rd (boundsL (n+1)) (k:Int):=by rw[rd_nat,rd_nat];rfl
    rw[e,this]
    omega
theorem bounds_ev (n:Int) (hn:n≤17592186044415):Ev (fun k=>perm_Bounds.f k n) (boundsL n.toNat):=by
  unfold perm_Bounds.f
  by_cases h0:n≤1
  · have:boundsL n.toNat=[]:=List.eq_nil_of_length_eq_zero (by rw[boundsL_len];omega)
    rw[this]
    exact Ev.step (f:=fun _=>some []) (fun k=>by rw[perm_Bounds.l0,if_neg (by omega)]) (Ev.now _)
  · obtain⟨m,rfl⟩:∃ m:Nat,n=(m:Int):=⟨n.toNat,by omega⟩
    have key:∀ (j:Nat) (acc:List Int),acc.length+j≤17592186044415→Ev (fun k=>perm_Bounds.l0 k acc (j:Int)) (acc ++ boundsL j):=by
      intro j
      induction j with
      | zero=>intro acc h;exact Ev.step (f:=fun _=>some acc) (fun k=>by rw[perm_Bounds.l0,if_neg (by omega)]) (ev_some (by simp[boundsL]))
      | succ j ih =>
        intro acc h
        by_cases hj:j=0
        · subst hj
          exact Ev.step (f:=fun _=>some acc) (fun k=>by rw[perm_Bounds.l0,if_neg (by omega)]) (ev_some (by simp[boundsL]))
        · obtain⟨j,rfl⟩:∃ i,j=i+1:=⟨j-1,by omega⟩
          refine Ev.step (f:=fun k=>perm_Bounds.l0 k (acc ++ [((j+1+1:Nat):Int)]) ((j+1:Nat):Int)) (fun k=>?_) (ev_to (ih _ (by simp;omega)) (by simp[boundsL];omega))
          rw[perm_Bounds.l0,if_pos (by omega),if_pos (by omega),w64 (by omega) (by omega),show((j+1+1:Nat):Int)-1=((j+1:Nat):Int) by omega]
    exact key m [] (by simp;omega)
def FitD (n:Int) (l:List Int):Prop:=∀ k:Nat,k<l.length→0≤rd l (k:Int)∧rd l (k:Int)<n-(k:Int)
instance (n:Int) (l:List Int):Decidable (FitD n l):=by unfold FitD;infer_instance
def swp (a:List Int) (i j:Nat):List Int:=(a.set i (rd a (j:Int))).set j (rd a (i:Int))
theorem swp_len (a:List Int) (i j:Nat):(swp a i j).length=a.length:=by simp[swp]
def fromL:List Int→Nat→List Int→List Int
  | a,_,[]=>a
  | a,i,d ::ds=>fromL (swp a i d.toNat) (i-1) ds
theorem fromL_len:∀ (l a:List Int) (i:Nat),(fromL a i l).length=a.length
  | [],_,_=>rfl
  | d ::ds,a,i=>by rw[fromL,fromL_len ds,swp_len]
theorem from_walk (n:Nat) (l:List Int) (hn:l.length+1=n∨l=[]) (hl:n≤17592186044000) (hf:FitD (n:Int) l) :
    ∀ (d i:Nat) (a:List Int),i+d=l.length→a.length=n→Ev (fun k=>perm_From.l1 k (n:Int) a l (l.length:Int) (i:Int)) (fromL a (n-1-i) (l.drop i),0):=by
  intro d
  induction d with
  | zero =>
    intro i a hi ha
    rw[List.drop_eq_nil_of_le (by omega)]
    exact Ev.step (f:=fun _=>some (a,0)) (fun k=>by rw[perm_From.l1,if_neg (by omega)]) (Ev.now _)
  | succ d ih =>
    intro i a hi ha
    have hn' : l.length + 1 = n := by rcases hn with h | h; · exact h
                                      · subst h;simp at hi
    obtain⟨f1,f2⟩:=hf i (by omega)
    rw[drop_rd l i (by omega),fromL,show n-1-i-1=n-1-(i+1) by omega]
    refine Ev.step (f:=fun k=>perm_From.l1 k (n:Int) (swp a (n-1-i) (rd l (i:Int)).toNat) l (l.length:Int) ((i+1:Nat):Int)) (fun k=>?_) (ih (i+1) _ (by omega) (by rw[swp_len,ha]))
    have e:wrap64 (wrap64 ((n:Int)-1)-(i:Int))=((n-1-i:Nat):Int):=by rw[w64 (x:=(n:Int)-1) (by omega) (by omega),w64 (by omega) (by omega)];omega
    rw[perm_From.l1,if_pos (by omega),if_pos (by omega),if_pos (by omega),if_pos (by omega),if_pos (by omega),e,if_pos (by omega),if_pos (by omega),w64 (by omega) (by omega)]
    unfold swp
    rw[Int.toNat_of_nonneg f1]
    rfl
theorem from_chk (n:Nat) (l:List Int) (hl:l.length≤17592186044000) (hl2:n≤17592186044000) {R:List Int×Int} (hR:FitD (n:Int) l→Ev (fun k=>(perm_Identity.f k (n:Int)).bind fun t107=>(perm_From.l1 k (n:Int) t107 l (l.length:Int) 0)) R) :
    ∀ (d i:Nat),i+d=l.length→(∀ k:Nat,k<i→0≤rd l (k:Int)∧rd l (k:Int)<(n:Int)-(k:Int))→Ev (fun k=>perm_From.l0 k (n:Int) l l (l.length:Int) (i:Int)) (if FitD (n:Int) l then R else([],110)):=by
  intro d
  induction d with
  | zero =>
    intro i hi hk
    have hf:FitD (n:Int) l:=fun k h=>hk k (by omega)
    rw[if_pos hf]
    refine Ev.step (fun k=>?_) (hR hf)
    rw[perm_From.l0,if_neg (by omega)]
  | succ d ih =>
    intro i hi hk
    by_cases h1:rd l (i:Int)<0
    · rw[if_neg (fun hf:FitD _ l=>by have:=(hf i (by omega)).1;omega)]
      exact Ev.step (f:=fun _=>some ([],110)) (fun k=>by rw[perm_From.l0,if_pos (by omega),if_pos (by omega),if_pos (by omega),if_pos h1]) (Ev.now _)
    · by_cases h2:rd l (i:Int) ≥ (n:Int)-(i:Int)
      · rw[if_neg (fun hf:FitD _ l=>by have:=(hf i (by omega)).2;omega)]
        exact Ev.step (f:=fun _=>some ([],110)) (fun k=>by rw[perm_From.l0,if_pos (by omega),if_pos (by omega),if_pos (by omega),if_neg h1,w64 (x:=(n:Int)-(i:Int)) (by omega) (by omega),if_pos h2]) (Ev.now _)
      · refine Ev.step (fun k=>?_) (ih (i+1) (by omega) (fun k h=>?_))
        · rw[perm_From.l0,if_pos (by omega),if_pos (by omega),if_pos (by omega),if_neg h1,w64 (x:=(n:Int)-(i:Int)) (by omega) (by omega),if_neg h2,w64 (by omega) (by omega)]
          rfl
        · by_cases hki:k=i
          · subst hki;exact⟨by omega,by omega⟩
          · exact hk k (by omega)
def fromA (n:Int) (l:List Int):List Int×Int:=if n<0 then([],2) else if(l.length:Int)=mx (n-1) 0∧FitD n l then(fromL (iota n.toNat) (n.toNat-1) l,0) else([],110)
theorem mx_pos (x:Int) (h:0≤x):mx x 0=x:=by
  obtain⟨n,rfl⟩:∃ n:Nat,x=(n:Int):=⟨x.toNat,by omega⟩
  exact mx_nat n
theorem from_ev (n:Int) (l:List Int) (hn: -9223372036854775808≤n∧n≤9223372036854775807) (hl:l.length≤17592186043904):Ev (fun k=>perm_From.f k n l) (fromA n l):=by
  unfold perm_From.f fromA
  by_cases h0:n<0
  · rw[if_pos h0];exact ev_pos h0 (Ev.now _)
  · rw[if_neg h0]
    refine ev_neg h0 ?_
    rw[w64 (by omega) (by omega)]
    by_cases hm:(l.length:Int)=mx (n-1) 0
    · refine ev_pos hm ?_
      have hb:n≤17592186043905:=by
        by_cases h1:n≤1
        · omega
        · rw[mx_pos _ (by omega)] at hm;omega
      have hn':l.length+1=n.toNat∨l=[]:=by
        by_cases h1:n≤1
        · rw[mx_neg _ (by omega)] at hm
          exact Or.inr (List.eq_nil_of_length_eq_zero (by omega))
        · rw[mx_pos _ (by omega)] at hm;omega
      obtain⟨m,rfl⟩:∃ m:Nat,n=(m:Int):=⟨n.toNat,by omega⟩
      refine ev_to (from_chk m l (by omega) (by omega) (R:=(fromL (iota m) (m-1) l,0)) (fun hf=>?_) l.length 0 (by omega) (fun k h=>by omega)) ?_
      · refine ev_bind (identity_ev m (by omega)) ?_
        exact from_walk m l (by simpa using hn') (by omega) hf l.length 0 _ (by omega) (iota_len m)
      · by_cases hf:FitD (m:Int) l
        · rw[if_pos hf,if_pos ⟨hm,hf⟩]
          rfl
        · rw[if_neg hf,if_neg (fun h=>hf h.2)]
    · rw[if_neg (fun h=>hm h.1)]
      exact ev_neg hm (Ev.now _)
end Go.Proofs.Ytbnifpfnjhdenaa.Pl
end
section
set_option linter.unusedVariables false
set_option linter.unusedSimpArgs false
namespace Go.Proofs.Ytbnifpfnjhdenaa.Pl
open Go.RowKit Go.Proofs.Ytbnifpfnjhdenaa.Q Go.Proofs.YtbnifpfnjhdenaaW.PrintWords Go.Proofs.YtbnifpfnjhdenaaW.PrintLast
theorem swp_get (a:List Int) (i j m:Nat) (hi:i<a.length) (hj:j<a.length) (hm:m<a.length):rd (swp a i j) (m:Int)=if m=j then rd a (i:Int) else if m=i then rd a (j:Int) else rd a (m:Int):=by
 rw[rd_lt _ m (by rw[swp_len];exact hm)]
 unfold swp
 rw[List.getElem_set]
 by_cases h1:m=j
 ·subst h1;rw[if_pos rfl,if_pos rfl]
 ·rw[if_neg (fun h=>h1 h.symm),if_neg h1,List.getElem_set]
  by_cases h2:m=i
  ·subst h2;rw[if_pos rfl,if_pos rfl]
  ·rw[if_neg (fun h=>h2 h.symm),if_neg h2,rd_lt _ m hm]
theorem fits_rd {a:List Int} (fa:Fits a) (m:Nat) (hm:m<a.length):0≤rd a (m:Int)∧rd a (m:Int)<(a.length:Int):=fa.1 _ (rd_mem a (m:Int) (by simpa using hm))
theorem fits_rd_inj {a:List Int} (fa:Fits a) (i j:Nat) (hi:i<a.length) (hj:j<a.length) (e:rd a (i:Int)=rd a (j:Int)):i=j:=by
 rw[rd_lt a i hi,rd_lt a j hj] at e
 exact fits_inj fa hi hj e
theorem fits_of_rd {a:List Int} (h1:∀ m:Nat,m<a.length→0≤rd a (m:Int)∧rd a (m:Int)<(a.length:Int)) (h2:∀ i j:Nat,i<a.length→j<a.length→rd a (i:Int)=rd a (j:Int)→i=j):Fits a:=by
 refine⟨fun x hx=>?_,nodup_get fun i j hi hj hij e=>?_⟩
 ·obtain⟨m,hm,rfl⟩:=List.getElem_of_mem hx
  have:=h1 m hm
  rw[rd_lt a m hm] at this
  exact this
 ·have:=h2 i j hi hj (by rw[rd_lt a i hi,rd_lt a j hj];exact e)
  omega
theorem fits_swp {a:List Int} (fa:Fits a) (i j:Nat) (hi:i<a.length) (hj:j<a.length):Fits (swp a i j):=by
 refine fits_of_rd (fun m hm=>?_) (fun x y hx hy e=>?_)
 ·rw[swp_len] at hm ⊢
  rw[swp_get a i j m hi hj hm]
  split
  ·exact fits_rd fa i hi
  ·split
   ·exact fits_rd fa j hj
   ·exact fits_rd fa m hm
 ·rw[swp_len] at hx hy
  rw[swp_get a i j x hi hj hx,swp_get a i j y hi hj hy] at e
  by_cases x1:x=j
  ·by_cases y1:y=j
   ·omega
   ·rw[if_pos x1,if_neg y1] at e
    by_cases y2:y=i
    ·rw[if_pos y2] at e
     have:=fits_rd_inj fa i j hi hj e
     omega
    ·rw[if_neg y2] at e
     have:=fits_rd_inj fa i y hi hy e
     omega
  ·rw[if_neg x1] at e
   by_cases y1:y=j
   ·rw[if_pos y1] at e
    by_cases x2:x=i
    ·rw[if_pos x2] at e
     have:=fits_rd_inj fa j i hj hi e
     omega
    ·rw[if_neg x2] at e
     have:=fits_rd_inj fa x i hx hi e
     omega
   ·rw[if_neg y1] at e
    by_cases x2:x=i
    ·rw[if_pos x2] at e
     by_cases y2:y=i
     ·omega
     ·rw[if_neg y2] at e
      have:=fits_rd_inj fa j y hj hy e
      omega
    ·rw[if_neg x2] at e
     by_cases y2:y=i
     ·rw[if_pos y2] at e
      have:=fits_rd_inj fa x j hx hj e
      omega
     ·rw[if_neg y2] at e
      exact fits_rd_inj fa x y hx hy e
def pos (a:List Int) (x:Int):Nat:=a.idxOf x
theorem pos_spec {a:List Int} (fa:Fits a) (x:Int) (h0:0≤x) (h1:x<(a.length:Int)):pos a x<a.length∧rd a (pos a x:Int)=x:=by
 obtain⟨i,hi,e⟩:=fits_all fa x.toNat (by omega)
 have hx:x ∈ a:=by
  have:a[i]=x:=by rw[e];omega
  exact this ▸ List.getElem_mem hi
 have hlt:a.idxOf x<a.length:=List.idxOf_lt_length_of_mem hx
 exact⟨hlt,by unfold pos;rw[rd_lt _ _ hlt];exact List.getElem_idxOf hlt⟩
theorem pos_rd {a:List Int} (fa:Fits a) (m:Nat) (hm:m<a.length):pos a (rd a (m:Int))=m:=by
 have b:=fits_rd fa m hm
 obtain⟨p1,p2⟩:=pos_spec fa _ b.1 b.2
 exact fits_rd_inj fa _ _ p1 hm p2
def drawsL (p:List Int):List Int→Nat→List Int
 | _,0=>[]
 | a,i+1=>(pos a (rd p ((i+1:Nat):Int)):Int) ::drawsL p (swp a (i+1) (pos a (rd p ((i+1:Nat):Int)))) i
end Go.Proofs.Ytbnifpfnjhdenaa.Pl
end
section
set_option linter.unusedVariables false
set_option linter.unusedSimpArgs false
namespace Go.Proofs.Ytbnifpfnjhdenaa.Pure
open Go.RowKit Go.Proofs.Ytbnifpfnjhdenaa.Q Go.Proofs.YtbnifpfnjhdenaaW.PrintWords Go.Proofs.YtbnifpfnjhdenaaW.PrintLast Go.Proofs.Ytbnifpfnjhdenaa.Pl
theorem draws_from:∀ (i:Nat) (l a:List Int),l.length=i→FitD ((i:Int)+1) l→Fits a→(i<a.length∨i=0) →
  Fits (fromL a i l)∧(∀ m:Nat,i<m→m<a.length→rd (fromL a i l) (m:Int)=rd a (m:Int))∧drawsL (fromL a i l) a i=l:=by
 intro i
 induction i with
 | zero =>
  intro l a hl hf fa hi
  obtain rfl:=List.eq_nil_of_length_eq_zero hl
  exact⟨fa,fun m _ _=>rfl,rfl⟩
 | succ i ih =>
  intro l a hl hf fa hi
  cases l with
  | nil=>simp at hl
  | cons d ds =>
   have h0:=hf 0 (by simp)
   rw[rd_nat] at h0
   simp only[List.getD_cons_zero] at h0
   have hd:d.toNat<a.length:=by omega
   have hf':FitD ((i:Int)+1) ds:=fun k hk=>by
    have:=hf (k+1) (by simpa using hk)
    rw[rd_nat] at this ⊢
    simp only[List.getD_cons_succ] at this
    omega
   have ia:i+1<a.length:=by omega
   obtain⟨r1,r2,r3⟩:=ih ds (swp a (i+1) d.toNat) (by simpa using hl) hf' (fits_swp fa _ _ ia hd) (by rw[swp_len];omega)
   rw[fromL,Nat.add_sub_cancel]
   rw[swp_len] at r2
   have top:rd (fromL (swp a (i+1) d.toNat) i ds) ((i+1:Nat):Int)=rd a (d.toNat:Int):=by
    rw[r2 (i+1) (by omega) ia,swp_get a _ _ (i+1) ia hd ia]
    by_cases e:i+1=d.toNat
    ·rw[if_pos e,←e]
    ·rw[if_neg e,if_pos rfl]
   refine⟨r1,fun m h1 h2=>?_,?_⟩
   ·rw[r2 m (by omega) h2,swp_get a _ _ m ia hd h2,if_neg (by omega),if_neg (by omega)]
   ·rw[drawsL,top,pos_rd fa _ hd,r3,Int.toNat_of_nonneg h0.1]
end Go.Proofs.Ytbnifpfnjhdenaa.Pure
end
section
set_option linter.unusedVariables false
set_option linter.unusedSimpArgs false
namespace Go.Proofs.Ytbnifpfnjhdenaa.Pl
open Go.RowKit Go.Proofs.YtbnifpfnjhdenaaW.PrintWords Go.Proofs.YtbnifpfnjhdenaaW.PrintLast
def total:List Int→Int
 | []=>0
 | x ::l=>x+total l
def psum (l:List Int) (j:Nat):Int:=total (l.take j)
theorem total_append (a b:List Int):total (a ++ b)=total a+total b:=by
 induction a with
 | nil=>simp[total]
 | cons x a ih=>simp[total,ih];omega
theorem psum_succ (l:List Int) (j:Nat) (h:j<l.length):psum l (j+1)=psum l j+l[j]:=by
 unfold psum
 rw[List.take_succ_eq_append_getElem h,total_append]
 simp[total]
theorem psum_zero (l:List Int):psum l 0=0:=rfl
theorem psum_all (l:List Int) (j:Nat) (h:l.length≤j):psum l j=total l:=by
 unfold psum
 rw[List.take_of_length_le h]
def Nonneg (l:List Int):Prop:=∀ x ∈ l,0≤x
theorem Nonneg.at_ {l:List Int} (h:Nonneg l) (j:Nat) (hj:j<l.length):0≤l[j]:=h _ (List.getElem_mem hj)
theorem psum_mono {l:List Int} (h:Nonneg l) (i:Nat):∀ d,psum l i≤psum l (i+d):=by
 intro d
 induction d with
 | zero=>exact Int.le_refl _
 | succ d ih =>
  by_cases hl:i+d<l.length
  ·have:=psum_succ l (i+d) hl
   have:=h.at_ (i+d) hl
   rw[show i+(d+1)=i+d+1 from rfl]
   omega
  ·rw[psum_all l (i+d) (by omega)] at ih
   rw[psum_all l (i+(d+1)) (by omega)]
   exact ih
theorem psum_le {l:List Int} (h:Nonneg l) (i j:Nat) (hij:i≤j):psum l i≤psum l j:=by
 have:=psum_mono h i (j-i)
 rwa [show i+(j-i)=j from by omega] at this
theorem psum_nonneg {l:List Int} (h:Nonneg l) (j:Nat):0≤psum l j:=by
 have:=psum_le h 0 j (Nat.zero_le _)
 rwa [psum_zero] at this
theorem psum_total {l:List Int} (h:Nonneg l) (j:Nat):psum l j≤total l:=by
 rcases Nat.lt_or_ge j l.length with hl|hl
 ·have:=psum_le h j l.length (by omega)
  rwa [psum_all l l.length (Nat.le_refl _)] at this
 ·rw[psum_all l j hl];exact Int.le_refl _
theorem total_nonneg {l:List Int} (h:Nonneg l):0≤total l:=by
 have:=psum_nonneg h l.length
 rwa [psum_all l l.length (Nat.le_refl _)] at this
theorem place_unique {l:List Int} (h:Nonneg l) {i j:Nat} {o p:Int} (hi:i<l.length) (hj:j<l.length) (ho:0≤o) (ho':o<l[i]) (hp:0≤p) (hp':p<l[j]) (e:psum l i+o=psum l j+p):i=j∧o=p:=by
 rcases Nat.lt_trichotomy i j with hlt|rfl|hgt
 ·have:=psum_le h (i+1) j hlt
  rw[psum_succ l i hi] at this
  omega
 ·exact⟨rfl,by omega⟩
 ·have:=psum_le h (j+1) i hgt
  rw[psum_succ l j hj] at this
  omega
theorem place_exists {l:List Int} (h:Nonneg l) (d:Int) (h0:0≤d) (ht:d<total l):∃ (j:Nat) (hj:j<l.length) (o:Int),0≤o∧o<l[j]∧d=psum l j+o:=by
 have key:∀ n:Nat,n≤l.length→(∃ (j:Nat) (hj:j<l.length) (o:Int),0≤o∧o<l[j]∧d=psum l j+o)∨psum l n≤d:=by
  intro n
  induction n with
  | zero=>intro _;right;rw[psum_zero];exact h0
  | succ n ih =>
   intro hn
   rcases ih (by omega) with h1|h1
   ·exact .inl h1
   ·by_cases h2:d<psum l (n+1)
    ·left
     rw[psum_succ l n (by omega)] at h2
     exact⟨n,by omega,d-psum l n,by omega,by omega,by omega⟩
    ·right;omega
 rcases key l.length (Nat.le_refl _) with h1|h1
 ·exact h1
 ·rw[psum_all l l.length (Nat.le_refl _)] at h1;omega
def dec (l:List Int) (j:Nat):List Int:=l.set j (l.getD j 0-1)
theorem dec_length (l:List Int) (j:Nat):(dec l j).length=l.length:=by simp[dec]
theorem dec_get (l:List Int) (j i:Nat) (hi:i<l.length):(dec l j)[i]'(by rw[dec_length];exact hi)=if j=i then l[i]-1 else l[i]:=by
 unfold dec
 rw[List.getElem_set]
 by_cases e:j=i
 ·subst e;simp[hi]
 ·simp[e]
theorem dec_getD (l:List Int) (j i:Nat) (hi:i<l.length):(dec l j).getD i 0=if j=i then l.getD i 0-1 else l.getD i 0:=by
 rw[List.getD_eq_getElem?_getD,List.getElem?_eq_getElem (by rw[dec_length];exact hi),Option.getD_some,dec_get l j i hi]
 simp[List.getD_eq_getElem?_getD,hi]
theorem total_set (l:List Int) (j:Nat) (v:Int) (hj:j<l.length):total (l.set j v)=total l-l[j]+v:=by
 induction l generalizing j with
 | nil=>simp at hj
 | cons x l ih =>
  cases j with
  | zero=>simp[total];omega
  | succ j =>
   simp at hj
   simp[total,ih j hj]
   omega
theorem dec_total (l:List Int) (j:Nat) (hj:j<l.length):total (dec l j)=total l-1:=by
 unfold dec
 rw[total_set l j _ hj]
 simp[List.getD_eq_getElem?_getD,hj]
 omega
theorem dec_nonneg {l:List Int} (h:Nonneg l) (j:Nat) (hj:j<l.length) (hp:0<l[j]):Nonneg (dec l j):=by
 intro x hx
 obtain⟨i,hi,rfl⟩:=List.getElem_of_mem hx
 rw[dec_length] at hi
 rw[dec_get l j i hi]
 split
 ·rename_i e;subst e;omega
 ·exact h.at_ i hi
inductive Pat:List Int→List Int→List (Nat×Int)→Prop
 | nil (l:List Int):Pat l [] []
 | cons {l ds:List Int} {P:List (Nat×Int)} {d o:Int} {j:Nat} (hj:j<l.length) (h0:0≤o) (h1:o<l[j]) (hd:d=psum l j+o) (t:Pat (dec l j) ds P):Pat l (d ::ds) ((j,o) ::P)
def vis (j:Nat) (P:List (Nat×Int)):List Int:=(P.filter fun x=>x.1 == j).map (·.2)
theorem vis_nil (j:Nat):vis j []=[]:=rfl
theorem vis_cons (i j:Nat) (o:Int) (P:List (Nat×Int)):vis i ((j,o) ::P)=if j=i then o ::vis i P else vis i P:=by
 unfold vis
 by_cases e:j=i
 ·simp[e]
 ·simp[e]
theorem Pat.len {l ds:List Int} {P:List (Nat×Int)} (h:Pat l ds P):P.length=ds.length:=by
 induction h with
 | nil=>rfl
 | cons=>simp_all
theorem Pat.range {l ds:List Int} {P:List (Nat×Int)} (h:Pat l ds P):∀ x ∈ P,x.1<l.length:=by
 induction h with
 | nil=>simp
 | cons hj h0 h1 hd t ih =>
  intro x hx
  rcases List.mem_cons.1 hx with rfl|hx
  ·exact hj
  ·have:=ih x hx
   rwa [dec_length] at this
theorem Pat.unique {l ds:List Int} {P Q:List (Nat×Int)} (hn:Nonneg l) (h:Pat l ds P) (h':Pat l ds Q):P=Q:=by
 induction h generalizing Q with
 | nil=>cases h';rfl
 | cons hj h0 h1 hd t ih =>
  cases h' with
  | cons hj' h0' h1' hd' t' =>
   obtain⟨rfl,rfl⟩:=place_unique hn hj hj' h0 h1 h0' h1' (by omega)
   rw[ih (dec_nonneg hn _ hj (by omega)) t']
theorem Pat.draws {l ds es:List Int} {P:List (Nat×Int)} (h:Pat l ds P) (h':Pat l es P):ds=es:=by
 induction h generalizing es with
 | nil=>cases h';rfl
 | cons hj h0 h1 hd t ih =>
  cases h' with
  | cons hj' h0' h1' hd' t'=>rw[ih t',hd,hd']
theorem Pat.bound {l ds:List Int} {P:List (Nat×Int)} (hn:Nonneg l) (h:Pat l ds P):∀ (i:Nat) (hi:i<ds.length),0≤ds[i]∧ds[i]<total l-i:=by
 induction h with
 | nil=>intro i hi;simp at hi
 | @cons l ds P d o j hj h0 h1 hd t ih =>
  intro i hi
  have hnn:=dec_nonneg hn j hj (by omega)
  cases i with
  | zero =>
   have a:=psum_nonneg hn j
   have b:=psum_total hn (j+1)
   rw[psum_succ l j hj] at b
   simp only[List.getElem_cons_zero]
   omega
  | succ i =>
   have:=ih hnn i (by simpa using hi)
   rw[dec_total l j hj] at this
   simp only[List.getElem_cons_succ]
   omega
theorem Pat.count {l ds:List Int} {P:List (Nat×Int)} (hn:Nonneg l) (h:Pat l ds P) (ht:total l=ds.length):∀ j:Nat,j<l.length→((vis j P).length:Int)=l.getD j 0:=by
 induction h with
 | nil l =>
  intro j hj
  have a:=psum_le hn (j+1) l.length (by omega)
  rw[psum_succ l j hj,psum_all l l.length (Nat.le_refl _)] at a
  have b:=psum_nonneg hn j
  have c:=hn.at_ j hj
  simp at ht
  simp[vis_nil,List.getD_eq_getElem?_getD,hj]
  omega
 | @cons l ds P d o i hi h0 h1 hd t ih =>
  intro j hj
  have hnn:=dec_nonneg hn i hi (by omega)
  have:=ih hnn (by rw[dec_total l i hi,ht];simp) j (by rw[dec_length];exact hj)
  rw[dec_getD l i j hj] at this
  rw[vis_cons]
  by_cases e:i=j
  ·simp[e] at this ⊢
   omega
  ·simp[e] at this ⊢
   exact this
theorem Pat.count_le {l ds:List Int} {P:List (Nat×Int)} (hn:Nonneg l) (h:Pat l ds P):∀ j:Nat,j<l.length→((vis j P).length:Int)≤l.getD j 0:=by
 induction h with
 | nil l =>
  intro j hj
  have c:=hn.at_ j hj
  simp[vis_nil,List.getD_eq_getElem?_getD,hj]
  exact c
 | @cons l ds P d o i hi h0 h1 hd t ih =>
  intro j hj
  have hnn:=dec_nonneg hn i hi (by omega)
  have:=ih hnn j (by rw[dec_length];exact hj)
  rw[dec_getD l i j hj] at this
  rw[vis_cons]
  by_cases e:i=j
  ·simp[e] at this ⊢
   omega
  ·simp[e] at this ⊢
   exact this
def Rdo (nx:Nat→Nat) (off:List Int) (P:List (Nat×Int)):Prop:=∀ (j k:Nat),(hk:k<(vis j P).length)→(vis j P)[k]=off.getD (nx j+k) 0
theorem Rdo.cons {nx:Nat→Nat} {off:List Int} {P:List (Nat×Int)} {j:Nat} {o:Int} (ho:o=off.getD (nx j) 0) (h:Rdo (fun i=>if i=j then nx j+1 else nx i) off P):Rdo nx off ((j,o) ::P):=by
 intro i k hk
 by_cases e:j=i
 ·subst e
  simp only[vis_cons,if_true] at hk ⊢
  cases k with
  | zero=>simpa using ho
  | succ k =>
   have:=h j k (by simpa using hk)
   simp only[if_true] at this
   simp only[List.getElem_cons_succ,this]
   congr 1
   omega
 ·simp only[vis_cons,if_neg e] at hk ⊢
  have:=h i k hk
  simp only[if_neg (Ne.symm e)] at this
  exact this
theorem Rdo.uncons {nx:Nat→Nat} {off:List Int} {P:List (Nat×Int)} {j:Nat} {o:Int} (h:Rdo nx off ((j,o) ::P)):o=off.getD (nx j) 0∧Rdo (fun i=>if i=j then nx j+1 else nx i) off P:=by
 constructor
 ·have:=h j 0 (by simp[vis_cons])
  simpa [vis_cons] using this
 ·intro i k hk
  by_cases e:i=j
  ·subst e
   have:=h i (k+1) (by simp only[vis_cons,if_true,List.length_cons];omega)
   simp only[vis_cons,if_true,List.getElem_cons_succ] at this
   simp only[if_true,this]
   congr 1
   omega
  ·have:=h i k (by simpa [vis_cons,Ne.symm e] using hk)
   simp only[vis_cons,if_neg (Ne.symm e)] at this
   simp only[if_neg e]
   exact this
def allOff (m:Nat) (P:List (Nat×Int)):List Int:=(List.range m).flatMap fun j=>vis j P
theorem allOff_succ (m:Nat) (P:List (Nat×Int)):allOff (m+1) P=allOff m P ++ vis m P:=by
 unfold allOff
 rw[List.range_succ,List.flatMap_append]
 simp
theorem allOff_len (m:Nat) (P:List (Nat×Int)) (s:List Int) (hm:m≤s.length) (hc:∀ j,j<s.length→((vis j P).length:Int)=s.getD j 0):((allOff m P).length:Int)=psum s m:=by
 induction m with
 | zero=>simp[allOff,psum_zero]
 | succ m ih =>
  have h1:=ih (by omega)
  have h2:=hc m (by omega)
  have h3:=psum_succ s m (by omega)
  have h4:s.getD m 0=s[m]:=by simp[List.getD_eq_getElem?_getD,show m<s.length by omega]
  rw[allOff_succ,List.length_append]
  omega
def start (s:List Int) (j:Nat):Nat:=(psum s j).toNat
theorem allOff_at (m:Nat) (P:List (Nat×Int)) (s:List Int) (hn:Nonneg s) (hm:m≤s.length) (hc:∀ j,j<s.length→((vis j P).length:Int)=s.getD j 0) (j k:Nat) (hj:j<m) (hk:k<(vis j P).length) :
  (allOff m P).getD (start s j+k) 0=(vis j P)[k]:=by
 induction m with
 | zero=>omega
 | succ m ih =>
  have hl:=allOff_len m P s (by omega) hc
  rw[allOff_succ,List.getD_eq_getElem?_getD]
  have h0:=psum_nonneg hn j
  by_cases e:j=m
  ·subst e
   have hs:start s j=(allOff j P).length:=by unfold start;omega
   rw[hs,List.getElem?_append_right (by omega)]
   simp[hk]
  ·have hjm:j<m:=by omega
   have h1:=psum_le hn (j+1) m (by omega)
   rw[psum_succ s j (by omega)] at h1
   have h2:=hc j (by omega)
   have h3:s.getD j 0=s[j]:=by simp[List.getD_eq_getElem?_getD,show j<s.length by omega]
   rw[List.getElem?_append_left (by unfold start;omega),←List.getD_eq_getElem?_getD]
   exact ih (by omega) hjm
theorem vis_none {l ds:List Int} {P:List (Nat×Int)} (h:∀ x ∈ P,x.1<l.length) (j:Nat) (hj:l.length≤j):vis j P=[]:=by
 unfold vis
 simp only[List.map_eq_nil_iff,List.filter_eq_nil_iff]
 intro x hx
 have:=h x hx
 simp
 omega
theorem rdo_all {s ds:List Int} {P:List (Nat×Int)} (hn:Nonneg s) (h:Pat s ds P) (ht:total s=ds.length):Rdo (start s) (allOff s.length P) P:=by
 intro j k hk
 have hj:j<s.length:=by
  rcases Nat.lt_or_ge j s.length with h1|h1
  ·exact h1
  ·rw[vis_none (l:=s) (ds:=ds) h.range j h1] at hk
   simp at hk
 exact(allOff_at s.length P s hn (Nat.le_refl _) (h.count hn ht) j k hj hk).symm
theorem pat_exists:∀ (ds l:List Int),Nonneg l→(∀ (i:Nat) (hi:i<ds.length),0≤ds[i]∧ds[i]<total l-i)→∃ P,Pat l ds P:=by
 intro ds
 induction ds with
 | nil=>intro l _ _;exact⟨[],.nil l⟩
 | cons d ds ih =>
  intro l hn h
  have h0:=h 0 (by simp)
  simp only[List.getElem_cons_zero] at h0
  obtain⟨j,hj,o,o0,o1,e⟩:=place_exists hn d h0.1 (by omega)
  obtain⟨P,hP⟩:=ih (dec l j) (dec_nonneg hn j hj (by omega)) (fun i hi=>by
   have:=h (i+1) (by simpa using hi)
   simp only[List.getElem_cons_succ] at this
   rw[dec_total l j hj]
   omega)
  exact⟨_,.cons hj o0 o1 e hP⟩
end Go.Proofs.Ytbnifpfnjhdenaa.Pl
end
section
set_option linter.unusedVariables false
set_option linter.unusedSimpArgs false
namespace Go.Proofs.Ytbnifpfnjhdenaa.Pl
open Go.RowKit Go.Proofs.Ytbnifpfnjhdenaa.Q Go.Proofs.YtbnifpfnjhdenaaW.PrintWords Go.Proofs.YtbnifpfnjhdenaaW.PrintLast
structure OkS (s:List Int):Prop where
 one:1≤s.length
 most:s.length≤64
 each:∀ x ∈ s,0≤x∧x≤256
 all:Go.Proofs.Ytbnifpfnjhdenaa.Pl.total s≤256
theorem OkS.nonneg {s:List Int} (h:OkS s):Nonneg s:=fun x hx=>(h.each x hx).1
theorem psum_up (s:List Int) (hb:∀ x ∈ s,0≤x∧x≤256):∀ i:Nat,i≤s.length→0≤psum s i∧psum s i≤256*i:=by
 intro i
 induction i with
 | zero=>intro _;simp[psum_zero]
 | succ i ih =>
  intro hi
  have h1:=ih (by omega)
  have h2:=hb _ (List.getElem_mem (show i<s.length by omega))
  have h3:=psum_succ s i (by omega)
  omega
theorem total_ev (s:List Int) (hl:s.length≤9223372036854775000):∃ (n:Int) (b:Bool),Ev (fun k=>braid_total.f k s) (n,b)∧(b=true↔OkS s)∧(OkS s→n=total s):=by
 unfold braid_total.f
 by_cases h1:s.length<1
 ·exact⟨0,false,ev_pos (by omega) (Ev.step (f:=fun _=>some (0,false)) (fun k=>by rw[braid_total.j0,if_pos rfl]) (Ev.now _)),by simp;intro h;have:=h.one;omega,fun h=>by have:=h.one;omega⟩
 ·by_cases h2:s.length > 64
  ·exact⟨0,false,ev_neg (by omega) (Ev.step (f:=fun _=>some (0,false)) (fun k=>by rw[braid_total.j0,if_pos (by simp;omega)]) (Ev.now _)),by simp;intro h;have:=h.most;omega,fun h=>by have:=h.most;omega⟩
  ·have key:∀ (d i:Nat),i+d=s.length→(∀ x ∈ s.take i,0≤x∧x≤256)→∃ (n:Int) (b:Bool),Ev (fun k=>braid_total.l0 k (psum s i) s (s.length:Int) (i:Int)) (n,b)∧(b=true↔OkS s)∧(OkS s→n=total s):=by
    intro d
    induction d with
    | zero =>
     intro i hi hb
     rw[List.take_of_length_le (by omega)] at hb
     refine⟨psum s i,decide (psum s i≤256),Ev.step (f:=fun _=>some (psum s i,decide (psum s i≤256))) (fun k=>by rw[braid_total.l0,if_neg (by omega)]) (Ev.now _),?_,fun _=>psum_all s i (by omega)⟩
     rw[psum_all s i (by omega)]
     exact⟨fun h=>⟨by omega,by omega,hb,by simpa using h⟩,fun h=>by simpa using h.all⟩
    | succ d ih =>
     intro i hi hb
     have hm:=rd_mem s (i:Int) (by simp;omega)
     have hlt:i<s.length:=by omega
     by_cases c1:rd s (i:Int)<0
     ·exact⟨0,false,Ev.step (f:=fun _=>some (0,false)) (fun k=>by rw[braid_total.l0,if_pos (by omega),if_pos (by omega),if_pos (by omega),if_pos c1]) (Ev.now _),by simp;intro h;have:=(h.each _ hm).1;omega,fun h=>by have:=(h.each _ hm).1;omega⟩
     ·by_cases c2:rd s (i:Int) > 256
      ·exact⟨0,false,Ev.step (f:=fun _=>some (0,false)) (fun k=>by rw[braid_total.l0,if_pos (by omega),if_pos (by omega),if_pos (by omega),if_neg c1,if_pos c2]) (Ev.now _),by simp;intro h;have:=(h.each _ hm).2;omega,fun h=>by have:=(h.each _ hm).2;omega⟩
      ·have hb':∀ x ∈ s.take (i+1),0≤x∧x≤256:=by
        rw[take_rd s i hlt]
        intro x hx
        rcases List.mem_append.1 hx with hx|hx
        ·exact hb x hx
        ·have:=List.mem_singleton.1 hx;subst this;omega
       obtain⟨n,b,e,r⟩:=ih (i+1) (by omega) hb'
       have hps:psum s (i+1)=psum s i+rd s (i:Int):=by rw[psum_succ s i hlt,rd_lt s i hlt]
       have hup:=psum_up (s.take (i+1)) hb' (i+1) (by rw[List.length_take];omega)
       have hpp:psum (s.take (i+1)) (i+1)=psum s (i+1):=by unfold psum;rw[List.take_take,Nat.min_self]
       rw[hpp] at hup
       have hpos:0≤psum s i:=by
        have:=psum_up (s.take (i+1)) hb' i (by rw[List.length_take];omega)
        have hq:psum (s.take (i+1)) i=psum s i:=by unfold psum;rw[List.take_take,Nat.min_eq_left (by omega)]
        rw[hq] at this
        exact this.1
       refine⟨n,b,Ev.step (fun k=>?_) e,r⟩
       rw[braid_total.l0,if_pos (by omega),if_pos (by omega),if_pos (by omega),if_neg c1,if_neg c2,w64 (by omega) (by omega),w64 (by omega) (by omega),hps]
       rfl
   obtain⟨n,b,e,r⟩:=key s.length 0 (by omega) (by simp)
   refine⟨n,b,ev_neg (by omega) (Ev.step (fun k=>?_) e),r⟩
   rw[braid_total.j0,if_neg (by simp;omega)]
   simp[psum_zero]
def fsts (P:List (Nat×Int)):List Int:=P.map fun x=>(x.1:Int)
theorem fsts_append (P Q:List (Nat×Int)):fsts (P ++ Q)=fsts P ++ fsts Q:=by simp[fsts]
theorem vis_append (j:Nat) (P Q:List (Nat×Int)):vis j (P ++ Q)=vis j P ++ vis j Q:=by simp[vis]
def visits (m:Nat) (P:List (Nat×Int)):List (List Int):=(List.range m).map fun j=>vis j P
theorem visits_len (m:Nat) (P:List (Nat×Int)):(visits m P).length=m:=by simp[visits]
theorem visits_get (m:Nat) (P:List (Nat×Int)) (j:Nat) (hj:j<m):rd_L3 (visits m P) (j:Int)=vis j P:=by simp[rd_L3,visits,hj]
theorem visits_set (m:Nat) (P:List (Nat×Int)) (j:Nat) (hj:j<m) (o:Int):(visits m P).set j (vis j P ++ [o])=visits m (P ++ [(j,o)]):=by
 apply List.ext_getElem
 ·simp[visits]
 ·intro i h1 h2
  rw[List.getElem_set]
  have hi:i<m:=by simpa [visits] using h2
  by_cases e:j=i
  ·subst e;simp[visits,vis_append,vis_cons,vis_nil]
  ·simp[visits,vis_append,vis_cons,vis_nil,e]
theorem visits_nil (m:Nat):visits m []=List.replicate m []:=by
 apply List.ext_getElem
 ·simp[visits]
 ·intro i h1 h2;simp[visits,vis_nil]
theorem vis_le (j:Nat) (P:List (Nat×Int)):(vis j P).length≤P.length:=by
 unfold vis
 rw[List.length_map]
 exact List.length_filter_le _ _
theorem allOff_le (P:List (Nat×Int)) (m:Nat):(allOff m P).length≤m*P.length:=by
 induction m with
 | zero=>simp[allOff]
 | succ m ih =>
  rw[allOff_succ,List.length_append,Nat.succ_mul]
  have:=vis_le m P
  omega
theorem pat_flat (c:List Int) (m:Nat) (P:List (Nat×Int)) (hm:m≤64) (hP:P.length≤256):Ev (fun k=>braid_Pattern.l2 k c [] (visits m P) ((visits m P).length:Int) 0) (c,allOff m P,0):=by
 have key:∀ (d i:Nat),i+d=m→Ev (fun k=>braid_Pattern.l2 k c (allOff i P) (visits m P) ((visits m P).length:Int) (i:Int)) (c,allOff m P,0):=by
  intro d
  induction d with
  | zero =>
   intro i hi
   have:i=m:=by omega
   subst this
   exact Ev.step (f:=fun _=>some (c,allOff i P,0)) (fun k=>by rw[braid_Pattern.l2,if_neg (by rw[visits_len];omega)]) (Ev.now _)
  | succ d ih =>
   intro i hi
   have hlen:=visits_len m P
   have h1:=vis_le i P
   have h2:=allOff_le P i
   have h3:i*P.length≤64*256:=Nat.mul_le_mul (by omega) hP
   refine Ev.step (fun k=>?_) (ih (i+1) (by omega))
   rw[braid_Pattern.l2,if_pos (by omega),if_pos (by omega),if_pos (by omega),visits_get m P i (by omega),if_pos (by omega),w64 (by omega) (by omega),allOff_succ]
   rfl
 have:=key m 0 (by omega)
 simpa [allOff] using this
theorem pat_find (x4:List Int) (n:Int) (left:List Int) (Pd:List (Nat×Int)) (ds:List Int) (i:Nat) (R:List Int×List Int×Int) (hn:Nonneg left) (hm:left.length≤64) (ht:total left≤256) (hx:x4.length≤1000) (hPd:Pd.length≤1000) (hi:i<ds.length) (hds:ds.length≤256)
  (j:Nat) (hj:j<left.length) (o:Int) (o0:0≤o) (o1:o<left[j])
  (next:Ev (fun k=>braid_Pattern.l0 k (x4 ++ [(j:Int)]) [] n (dec left j) (visits left.length (Pd ++ [(j,o)])) ds (ds.length:Int) ((i+1:Nat):Int)) R) :
  ∀ (t a:Nat),a+t=j→Ev (fun k=>braid_Pattern.l1 k x4 [] n left (visits left.length Pd) (psum left j+o-psum left a) (a:Int) ds (ds.length:Int) (i:Int)) R:=by
 intro t
 induction t with
 | zero =>
  intro a ha
  have:a=j:=by omega
  subst this
  have hv:=visits_get left.length Pd a hj
  have hvl:=vis_le a Pd
  have hr:rd left (a:Int)=left[a]:=rd_lt left a hj
  have hlt:=psum_total hn (a+1)
  have hge:=psum_nonneg hn a
  rw[psum_succ left a hj] at hlt
  have hpos:=hn.at_ a hj
  refine Ev.step (fun k=>?_) next
  have hdec:left.set ((a:Int).toNat) (wrap64 (rd left (a:Int)-1))=dec left a:=by
   rw[w64 (by rw[hr];omega) (by rw[hr];omega),hr]
   simp[dec,List.getD_eq_getElem?_getD,hj]
  rw[braid_Pattern.l1,if_pos (by omega),if_pos (by omega),if_neg (by rw[hr];omega),if_pos (by omega),if_pos (by rw[visits_len];omega),hv,if_pos (by omega),hdec,w64 (by omega) (by omega),
   show psum left a+o-psum left a=o from by omega,show((a:Int).toNat)=a from by omega,visits_set left.length Pd a hj o]
  rfl
 | succ t ih =>
  intro a ha
  have hal:a<left.length:=by omega
  have hr:rd left (a:Int)=left[a]:=rd_lt left a hal
  have h1:=psum_succ left a hal
  have h2:=psum_le hn (a+1) j (by omega)
  have h3:=psum_total hn (j+1)
  rw[psum_succ left j hj] at h3
  have h4:=psum_nonneg hn a
  have h5:=hn.at_ a hal
  refine Ev.step (fun k=>?_) (ih (a+1) (by omega))
  rw[braid_Pattern.l1,if_pos (by omega),if_pos (by omega),if_pos (by rw[hr];omega),w64 (by rw[hr];omega) (by rw[hr];omega),w64 (by omega) (by omega),hr,h1,
   show psum left j+o-psum left a-left[a]=psum left j+o-(psum left a+left[a]) from by omega]
  rfl
theorem pat_loop (ds:List Int) (m:Nat) (hm:m≤64) (hds:ds.length≤256):∀ (rem i:Nat) (left:List Int) (Pd:List (Nat×Int)),i+rem=ds.length→total left=rem→Nonneg left→left.length=m→Pd.length=i →
  (∃ P,Pat left (ds.drop i) P∧Ev (fun k=>braid_Pattern.l0 k (fsts Pd) [] (ds.length:Int) left (visits m Pd) ds (ds.length:Int) (i:Int)) (fsts (Pd ++ P),allOff m (Pd ++ P),0)) ∨
  ((∃ t,i≤t∧∃ h:t<ds.length,ds[t]<0∨(ds.length:Int)-t≤ds[t])∧Ev (fun k=>braid_Pattern.l0 k (fsts Pd) [] (ds.length:Int) left (visits m Pd) ds (ds.length:Int) (i:Int)) ([],[],2)):=by
 intro rem
 induction rem with
 | zero =>
  intro i left Pd hi ht hn hl hPd
  left
  refine⟨[],by rw[List.drop_of_length_le (by omega)];exact .nil left,?_⟩
  rw[List.append_nil]
  refine Ev.step (fun k=>?_) (pat_flat (fsts Pd) m Pd hm (by omega))
  rw[braid_Pattern.l0,if_neg (by omega)]
 | succ rem ih =>
  intro i left Pd hi ht hn hl hPd
  have hlt:i<ds.length:=by omega
  have hr:rd ds (i:Int)=ds[i]:=rd_lt ds i hlt
  have hw:wrap64 ((ds.length:Int)-(i:Int))=(ds.length:Int)-i:=w64 (by omega) (by omega)
  by_cases c1:ds[i]<0
  ·right
   refine⟨⟨i,by omega,hlt,.inl c1⟩,?_⟩
   refine Ev.step (f:=fun k=>braid_Pattern.j2 k (fsts Pd) [] (ds.length:Int) left (visits m Pd) (rd ds (i:Int)) ds (ds.length:Int) (i:Int) true) (fun k=>?_) (Ev.step (f:=fun _=>some ([],[],2)) (fun k=>by rw[braid_Pattern.j2,if_pos rfl]) (Ev.now _))
   rw[braid_Pattern.l0,if_pos (by omega),if_pos (by omega),if_pos (by omega),if_pos (by rw[hr];exact c1)]
  ·by_cases c2:(ds.length:Int)-i≤ds[i]
   ·right
    refine⟨⟨i,by omega,hlt,.inr c2⟩,?_⟩
    refine Ev.step (f:=fun k=>braid_Pattern.j2 k (fsts Pd) [] (ds.length:Int) left (visits m Pd) (rd ds (i:Int)) ds (ds.length:Int) (i:Int) true) (fun k=>?_) (Ev.step (f:=fun _=>some ([],[],2)) (fun k=>by rw[braid_Pattern.j2,if_pos rfl]) (Ev.now _))
    rw[braid_Pattern.l0,if_pos (by omega),if_pos (by omega),if_pos (by omega),if_neg (by rw[hr];exact c1),hw,decide_eq_true (show rd ds (i:Int) ≥ (ds.length:Int)-i by rw[hr];exact c2)]
   ·obtain⟨j,hj,o,o0,o1,e⟩:=place_exists hn ds[i] (by omega) (by omega)
    have hdrop:ds.drop i=ds[i] ::ds.drop (i+1):=List.drop_eq_getElem_cons hlt
    have hstep:∀ R,Ev (fun k=>braid_Pattern.l0 k (fsts (Pd ++ [(j,o)])) [] (ds.length:Int) (dec left j) (visits m (Pd ++ [(j,o)])) ds (ds.length:Int) ((i+1:Nat):Int)) R →
      Ev (fun k=>braid_Pattern.l0 k (fsts Pd) [] (ds.length:Int) left (visits m Pd) ds (ds.length:Int) (i:Int)) R:=by
     intro R hR
     subst hl
     have hR':Ev (fun k=>braid_Pattern.l0 k (fsts Pd ++ [(j:Int)]) [] (ds.length:Int) (dec left j) (visits left.length (Pd ++ [(j,o)])) ds (ds.length:Int) ((i+1:Nat):Int)) R:=by
      rw[fsts_append] at hR
      exact hR
     have h0:=pat_find (fsts Pd) (ds.length:Int) left Pd ds i R hn (by omega) (by omega) (by simp[fsts];omega) (by omega) hlt hds j hj o o0 o1 hR' j 0 (by omega)
     refine Ev.step (f:=fun k=>braid_Pattern.j2 k (fsts Pd) [] (ds.length:Int) left (visits left.length Pd) (rd ds (i:Int)) ds (ds.length:Int) (i:Int) false) (fun k=>?_) (Ev.step (fun k=>?_) h0)
     ·rw[braid_Pattern.l0,if_pos (by omega),if_pos (by omega),if_pos (by omega),if_neg (by rw[hr];exact c1),hw,decide_eq_false (show ¬ rd ds (i:Int) ≥ (ds.length:Int)-i by rw[hr];exact c2)]
     ·rw[braid_Pattern.j2,if_neg (by simp),hr,e,psum_zero,Int.sub_zero]
      rfl
    rcases ih (i+1) (dec left j) (Pd ++ [(j,o)]) (by omega) (by rw[dec_total left j hj];omega) (dec_nonneg hn j hj (by omega)) (by rw[dec_length];exact hl) (by simp;omega) with⟨P,hP,hE⟩|⟨⟨t,h1,h2,h3⟩,hE⟩
    ·left
     refine⟨(j,o) ::P,by rw[hdrop];exact .cons hj o0 o1 e hP,?_⟩
     have:=hstep _ hE
     rwa [List.append_assoc,List.singleton_append] at this
    ·right
     exact⟨⟨t,by omega,h2,h3⟩,hstep _ hE⟩
def OkD (s ds:List Int):Prop:=OkS s∧(ds.length:Int)=total s∧∀ (t:Nat) (h:t<ds.length),0≤ds[t]∧ds[t]<(ds.length:Int)-t
theorem pattern_good (s ds:List Int) (hs:OkS s) (hl:(ds.length:Int)=total s):(∃ P,Pat s ds P∧Ev (fun k=>braid_Pattern.f k s ds) (fsts P,allOff s.length P,0))∨(¬ OkD s ds∧Ev (fun k=>braid_Pattern.f k s ds) ([],[],2)):=by
 have hm:=hs.most
 obtain⟨n,b,e,hb,hn⟩:=total_ev s (by omega)
 have hbt:=hb.2 hs
 have hnt:=hn hs
 subst hbt
 have hal:=hs.all
 have hin:∀ R,Ev (fun k=>braid_Pattern.l0 k (fsts []) [] (ds.length:Int) s (visits s.length []) ds (ds.length:Int) ((0:Nat):Int)) R→Ev (fun k=>braid_Pattern.f k s ds) R:=by
  intro R hR
  unfold braid_Pattern.f
  refine ev_bind e (ev_pos rfl (Ev.step (fun k=>?_) hR))
  rw[braid_Pattern.j0,if_neg (by simp;omega)]
  simp only[Option.bind_some,List.nil_append,List.length_nil]
  rw[if_pos (by omega),if_pos (by omega),if_pos (by omega),visits_nil,show((s.length:Int).toNat)=s.length from by omega,show n=(ds.length:Int) from by omega]
  rfl
 rcases pat_loop ds s.length hm (by omega) ds.length 0 s [] (by omega) (by omega) hs.nonneg rfl rfl with⟨P,hP,hE⟩|⟨⟨t,h1,h2,h3⟩,hE⟩
 ·left
  rw[List.nil_append] at hE
  exact⟨P,by simpa using hP,hin _ hE⟩
 ·right
  refine⟨fun h=>?_,hin _ hE⟩
  have:=h.2.2 t h2
  omega
end Go.Proofs.Ytbnifpfnjhdenaa.Pl
end
section
set_option linter.unusedVariables false
set_option linter.unusedSimpArgs false
namespace Go.Proofs.Ytbnifpfnjhdenaa.Pl
open Go.RowKit Go.Proofs.Ytbnifpfnjhdenaa.Q Go.Proofs.YtbnifpfnjhdenaaW.PrintWords Go.Proofs.YtbnifpfnjhdenaaW.PrintLast
def tab (m:Nat) (f:Nat→Int):List Int:=(List.range m).map f
theorem tab_len (m:Nat) (f:Nat→Int):(tab m f).length=m:=by simp[tab]
theorem tab_rd (m:Nat) (f:Nat→Int) (j:Nat) (hj:j<m):rd (tab m f) (j:Int)=f j:=by simp[rd,tab,hj]
theorem tab_set (m:Nat) (f:Nat→Int) (j:Nat) (v:Int):(tab m f).set j v=tab m (fun i=>if i=j then v else f i):=by
 apply List.ext_getElem
 ·simp[tab]
 ·intro i h1 h2
  rw[List.getElem_set]
  by_cases e:j=i
  ·subst e;simp[tab]
  ·simp[tab,e,Ne.symm e]
theorem tab_congr (m:Nat) (f g:Nat→Int) (h:∀ j,j<m→f j=g j):tab m f=tab m g:=by
 unfold tab
 exact List.map_congr_left fun j hj=>h j (List.mem_range.1 hj)
def Told (l:List Int) (nx:Nat→Nat) (c off ds:List Int) (P:List (Nat×Int)):Prop:=Pat l ds P∧fsts P=c∧Rdo nx off P
theorem Told.head {l:List Int} {nx:Nat→Nat} {x:Int} {c off ds:List Int} {P:List (Nat×Int)} (h:Told l nx (x ::c) off ds P) :
  ∃ (j:Nat) (hj:j<l.length) (o:Int) (es:List Int) (Q:List (Nat×Int)),x=(j:Int)∧o=off.getD (nx j) 0∧0≤o∧o<l[j]∧ds=(psum l j+o) ::es∧P=(j,o) ::Q∧Told (dec l j) (fun i=>if i=j then nx j+1 else nx i) c off es Q:=by
 obtain⟨h1,h2,h3⟩:=h
 cases h1 with
 | nil=>simp[fsts] at h2
 | @cons _ es Q d o j hj h0 h1 hd t =>
  obtain⟨a,b⟩:=h3.uncons
  simp[fsts] at h2
  exact⟨j,hj,o,es,Q,h2.1.symm,a,h0,h1,by rw[hd],rfl,t,by simp[fsts];exact h2.2,b⟩
theorem draws_sum (s off left nxl out c:List Int) (j:Nat) (o:Int) (n i:Int) (R:List Int×Int) (hj:j<left.length) (hn:Nonneg left) (hb:total left≤256) (hm:left.length≤64) (h0:0≤o) (h1:o≤256)
  (next:Ev (fun k=>if out.length<17592186044416 then(if 0≤(j:Int) then(if(j:Int)<(left.length:Int) then(if(j:Int)<(nxl.length:Int) then(braid_Draws.l1 k s off (left.set ((j:Int):Int).toNat (wrap64 ((rd left (j:Int))-1))) (nxl.set ((j:Int):Int).toNat (wrap64 ((rd nxl (j:Int))+1))) (out ++ [psum left j+o]) c n (wrap64 (i+1))) else(none)) else(none)) else(none)) else(none)) R) :
  Ev (fun k=>braid_Draws.l2 k s off left nxl out (j:Int) o c n i (left.take j) ((left.take j).length:Int) 0) R:=by
 have key:∀ (t a:Nat),a+t=j→Ev (fun k=>braid_Draws.l2 k s off left nxl out (j:Int) (psum left a+o) c n i (left.take j) ((left.take j).length:Int) (a:Int)) R:=by
  intro t
  induction t with
  | zero =>
   intro a ha
   have:a=j:=by omega
   subst this
   refine Ev.step (fun k=>?_) next
   rw[braid_Draws.l2,if_neg (by rw[List.length_take];omega)]
  | succ t ih =>
   intro a ha
   have hlt:(left.take j).length=j:=by rw[List.length_take];omega
   have hr:rd (left.take j) (a:Int)=left[a]:=by
    rw[rd_lt _ a (by omega)]
    simp
   have h2:=psum_succ left a (by omega)
   have h3:=psum_nonneg hn a
   have h4:=psum_total hn (a+1)
   have h5:=hn.at_ a (by omega)
   refine Ev.step (fun k=>?_) (ih (a+1) (by omega))
   rw[braid_Draws.l2,if_pos (by omega),if_pos (by omega),if_pos (by omega),hr,w64 (by omega) (by omega),w64 (by omega) (by omega),h2,show psum left a+o+left[a]=psum left a+left[a]+o from by omega]
   rfl
 have:=key j 0 (by omega)
 rw[psum_zero,Int.zero_add] at this
 exact this
theorem draws_loop (s off c:List Int) (m:Nat) (hs:s.length=m) (hm:m≤64) (hc:c.length≤256) (hoff:off.length≤256) (hsn:Nonneg s) (hso:total s≤off.length) :
  ∀ (rem i:Nat) (left:List Int) (nx:Nat→Nat) (out:List Int),i+rem=c.length→Nonneg left→total left≤256→left.length=m→out.length≤256→(∀ x ∈ left,x≤256)→(∀ j,j<m→(nx j:Int)+left.getD j 0=psum s (j+1))→out.length=i →
  (∃ ds P,Told left nx (c.drop i) off ds P∧Ev (fun k=>braid_Draws.l1 k s off left (tab m fun j=>nx j) out c (c.length:Int) (i:Int)) (out ++ ds,0)) ∨
  ((¬ ∃ ds P,Told left nx (c.drop i) off ds P)∧Ev (fun k=>braid_Draws.l1 k s off left (tab m fun j=>nx j) out c (c.length:Int) (i:Int)) ([],2)):=by
 intro rem
 induction rem with
 | zero =>
  intro i left nx out hi hn hb hl ho hmx hnx hout
  left
  refine⟨[],[],⟨.nil left,by rw[List.drop_of_length_le (by omega)];rfl,fun j k hk=>by simp[vis_nil] at hk⟩,?_⟩
  rw[List.append_nil]
  exact Ev.step (f:=fun _=>some (out,0)) (fun k=>by rw[braid_Draws.l1,if_neg (by omega)]) (Ev.now _)
 | succ rem ih =>
  intro i left nx out hi hn hb hl ho hmx hnx hout
  have hlt:i<c.length:=by omega
  have hr:rd c (i:Int)=c[i]:=rd_lt c i hlt
  have hdrop:c.drop i=c[i] ::c.drop (i+1):=List.drop_eq_getElem_cons hlt
  have bad3:∀ x:Bool,x=true→Ev (fun k=>braid_Draws.j3 k s off left (tab m fun j=>nx j) out c[i] c (c.length:Int) (i:Int) x) ([],2):=fun x hx=>Ev.step (f:=fun _=>some ([],2)) (fun k=>by rw[braid_Draws.j3,if_pos hx]) (Ev.now _)
  by_cases c1:c[i]<0
  ·right
   refine⟨?_,Ev.step (fun k=>?_) (bad3 true rfl)⟩
   ·rintro⟨ds,P,h⟩
    rw[hdrop] at h
    obtain⟨j,hj,o,es,Q,e,_⟩:=h.head
    omega
   ·rw[braid_Draws.l1,if_pos (by omega),if_pos (by omega),if_pos (by omega),hr,if_pos c1]
  ·by_cases c2:c[i] ≥ (s.length:Int)
   ·right
    refine⟨?_,Ev.step (fun k=>?_) (bad3 true rfl)⟩
    ·rintro⟨ds,P,h⟩
     rw[hdrop] at h
     obtain⟨j,hj,o,es,Q,e,_⟩:=h.head
     omega
    ·rw[braid_Draws.l1,if_pos (by omega),if_pos (by omega),if_pos (by omega),hr,if_neg c1,if_pos c2]
   ·obtain⟨j,hj⟩:∃ j:Nat,c[i]=(j:Int):=⟨c[i].toNat,by omega⟩
    have hjm:j<m:=by omega
    have hjl:j<left.length:=by omega
    have hrl:rd left (j:Int)=left[j]:=rd_lt left j hjl
    have hrn:rd (tab m fun j=>(nx j:Int)) (j:Int)=(nx j:Int):=tab_rd m _ j hjm
    have htl:=tab_len m fun j=>(nx j:Int)
    have hgl:left.getD j 0=left[j]:=by simp[List.getD_eq_getElem?_getD,hjl]
    have hpos:=hn.at_ j hjl
    have hjx:=hnx j hjm
    have hps:=psum_total hsn (j+1)
    have hmj:=hmx _ (List.getElem_mem hjl)
    have step3:∀ R,Ev (fun k=>braid_Draws.j3 k s off left (tab m fun j=>nx j) out (j:Int) c (c.length:Int) (i:Int) (left[j] == 0)) R→Ev (fun k=>braid_Draws.l1 k s off left (tab m fun j=>nx j) out c (c.length:Int) (i:Int)) R:=by
     intro R hR
     refine Ev.step (fun k=>?_) hR
     rw[braid_Draws.l1,if_pos (by omega),if_pos (by omega),if_pos (by omega),hr,hj,if_neg (by omega),if_neg (by omega),if_pos (by omega),if_pos (by omega),hrl]
    by_cases c3:left[j]=0
    ·right
     refine⟨?_,step3 _ (by rw[←hj];exact bad3 _ (by simpa using c3))⟩
     rintro⟨ds,P,h⟩
     rw[hdrop] at h
     obtain⟨j',hj',o,es,Q,e,eo,o0,o1,_⟩:=h.head
     have:j'=j:=by omega
     subst this
     omega
    ·have hno:nx j<off.length:=by omega
     have hro:rd off (nx j:Int)=off[nx j]:=rd_lt off (nx j) hno
     have hgo:off.getD (nx j) 0=off[nx j]:=by simp[List.getD_eq_getElem?_getD,hno]
     have c3':(left[j] == 0)=false:=by simpa using c3
     have bad4:∀ x:Bool,x=true→Ev (fun k=>braid_Draws.j4 k s off left (tab m fun j=>nx j) out (j:Int) off[nx j] c (c.length:Int) (i:Int) x) ([],2):=fun x hx=>Ev.step (f:=fun _=>some ([],2)) (fun k=>by rw[braid_Draws.j4,if_pos hx]) (Ev.now _)
     by_cases c4:off[nx j]<0
     ·right
      refine⟨?_,step3 _ (Ev.step (fun k=>?_) (bad4 true rfl))⟩
      ·rintro⟨ds,P,h⟩
       rw[hdrop] at h
       obtain⟨j',hj',o,es,Q,e,eo,o0,o1,_⟩:=h.head
       have:j'=j:=by omega
       subst this
       omega
      ·rw[braid_Draws.j3,if_neg (by simp[c3]),if_pos (by omega),if_pos (by omega),hrn,if_pos (by omega),if_pos (by omega),hro,if_pos c4]
     ·have step4:∀ R,Ev (fun k=>braid_Draws.j4 k s off left (tab m fun j=>nx j) out (j:Int) off[nx j] c (c.length:Int) (i:Int) (decide (off[nx j] ≥ left[j]))) R→Ev (fun k=>braid_Draws.l1 k s off left (tab m fun j=>nx j) out c (c.length:Int) (i:Int)) R:=by
       intro R hR
       refine step3 _ (Ev.step (fun k=>?_) hR)
       rw[braid_Draws.j3,if_neg (by simp[c3]),if_pos (by omega),if_pos (by omega),hrn,if_pos (by omega),if_pos (by omega),hro,if_neg c4,if_pos (by omega),hrl]
      by_cases c5:off[nx j] ≥ left[j]
      ·right
       refine⟨?_,step4 _ (bad4 _ (by simpa using c5))⟩
       rintro⟨ds,P,h⟩
       rw[hdrop] at h
       obtain⟨j',hj',o,es,Q,e,eo,o0,o1,_⟩:=h.head
       have:j'=j:=by omega
       subst this
       omega
      ·have hdec:left.set j (wrap64 (left[j]-1))=dec left j:=by
        rw[w64 (by omega) (by omega)]
        unfold dec
        rw[hgl]
       have hnxs:(tab m fun j=>(nx j:Int)).set j (wrap64 ((nx j:Int)+1))=tab m (fun i=>((if i=j then nx j+1 else nx i:Nat):Int)):=by
        rw[w64 (by omega) (by omega),tab_set]
        refine tab_congr m _ _ fun a ha=>?_
        by_cases e:a=j
        ·simp[e]
        ·simp[e]
       have step5:∀ R,Ev (fun k=>braid_Draws.l1 k s off (dec left j) (tab m (fun i=>((if i=j then nx j+1 else nx i:Nat):Int))) (out ++ [psum left j+off[nx j]]) c (c.length:Int) ((i+1:Nat):Int)) R →
         Ev (fun k=>braid_Draws.l1 k s off left (tab m fun j=>nx j) out c (c.length:Int) (i:Int)) R:=by
        intro R hR
        have h6:=draws_sum s off left (tab m fun j=>(nx j:Int)) out c j off[nx j] (c.length:Int) (i:Int) R hjl hn hb (by omega) (by omega) (by omega) (by
         refine ev_pos (by omega) (ev_pos (by omega) (ev_pos (by omega) (ev_pos (by omega) ?_)))
         rw[hrl,hrn,show((j:Int):Int).toNat=j from by omega,hdec,hnxs,w64 (by omega) (by omega)]
         exact hR)
        refine step4 _ (Ev.step (fun k=>?_) h6)
        rw[braid_Draws.j4,if_neg (by simp;omega),if_pos (by omega),if_pos (by omega),show((j:Int):Int).toNat=j from by omega]
        rfl
       have hnn:=dec_nonneg hn j hjl (by omega)
       rcases ih (i+1) (dec left j) (fun a=>if a=j then nx j+1 else nx a) (out ++ [psum left j+off[nx j]]) (by omega) hnn (by rw[dec_total left j hjl];omega) (by rw[dec_length];exact hl) (by simp;omega) (by
         intro x hx
         obtain⟨a,ha,rfl⟩:=List.getElem_of_mem hx
         rw[dec_length] at ha
         rw[dec_get left j a ha]
         have:=hmx _ (List.getElem_mem ha)
         split <;> omega) (by
         intro a ha
         rw[dec_getD left j a (by omega)]
         have:=hnx a ha
         by_cases e:a=j
         ·subst e
          simp only[if_true]
          omega
         ·simp only[if_neg e,if_neg (Ne.symm e)]
          exact this) (by simp;omega) with⟨ds,P,hP,hE⟩|⟨hP,hE⟩
       ·left
        refine⟨(psum left j+off[nx j]) ::ds,(j,off[nx j]) ::P,?_,?_⟩
        ·rw[hdrop]
         exact⟨.cons hjl (by omega) (by omega) rfl hP.1,by simp only[fsts,List.map_cons];rw[←hj];have:=hP.2.1;unfold fsts at this;rw[this],Rdo.cons hgo.symm hP.2.2⟩
        ·have:=step5 _ hE
         rwa [List.append_assoc,List.singleton_append] at this
       ·right
        refine⟨?_,step5 _ hE⟩
        rintro⟨ds,P,h⟩
        rw[hdrop] at h
        obtain⟨j',hj',o,es,Q,e,eo,o0,o1,_,_,ht⟩:=h.head
        have:j'=j:=by omega
        subst this
        exact hP ⟨es,Q,ht⟩
theorem draws_good (s c off:List Int) (hs:OkS s) (hc:(c.length:Int)=total s) (ho:(off.length:Int)=total s) :
  (∃ ds P,Told s (start s) c off ds P∧Ev (fun k=>braid_Draws.f k s c off) (ds,0))∨((¬ ∃ ds P,Told s (start s) c off ds P)∧Ev (fun k=>braid_Draws.f k s c off) ([],2)):=by
 have hm:=hs.most
 have hal:=hs.all
 have hone:=hs.one
 obtain⟨n,b,e,hb,hn⟩:=total_ev s (by omega)
 have hbt:=hb.2 hs
 have hnt:=hn hs
 subst hbt
 have hnn:=hs.nonneg
 have hin:∀ R,Ev (fun k=>braid_Draws.l1 k s off s (tab s.length fun j=>(start s j:Nat)) [] c (c.length:Int) ((0:Nat):Int)) R→Ev (fun k=>braid_Draws.f k s c off) R:=by
  intro R hR
  have key:∀ (d a:Nat),a+d=s.length→1≤a→Ev (fun k=>braid_Draws.l0 k s c off n s (tab s.length fun j=>if j<a then psum s j else 0) (a:Int)) R:=by
   intro d
   induction d with
   | zero =>
    intro a ha h1
    refine Ev.step (fun k=>?_) hR
    rw[braid_Draws.l0,if_neg (by omega),if_pos (by omega),if_pos (by omega)]
    have:(tab s.length fun j=>if j<a then psum s j else 0)=tab s.length fun j=>((start s j:Nat):Int):=tab_congr _ _ _ fun j hj=>by
     have:=psum_nonneg hnn j
     unfold start
     rw[if_pos (by omega)]
     omega
    rw[this]
    rfl
   | succ d ih =>
    intro a ha h1
    have htl:=tab_len s.length fun j=>if j<a then psum s j else 0
    have hw:wrap64 ((a:Int)-1)=((a-1:Nat):Int):=by rw[w64 (by omega) (by omega)];omega
    have h2:=psum_succ s (a-1) (by omega)
    rw[show a-1+1=a from by omega] at h2
    have h3:=psum_nonneg hnn a
    have h4:=psum_total hnn a
    refine Ev.step (fun k=>?_) (ih (a+1) (by omega) (by omega))
    rw[braid_Draws.l0,if_pos (by omega),hw,if_pos (by omega),if_pos (by omega),if_pos (by omega),if_pos (by omega),if_pos (by omega),tab_rd _ _ (a-1) (by omega),rd_lt s (a-1) (by omega),if_pos (by omega),←h2,w64 (by omega) (by omega),w64 (by omega) (by omega),
     show((a:Int):Int).toNat=a from by omega,tab_set]
    have:(tab s.length fun i=>if i=a then psum s a else if i<a then psum s i else 0)=tab s.length fun j=>if j<a+1 then psum s j else 0:=tab_congr _ _ _ fun j hj=>by
     by_cases e:j=a
     ·subst e;simp
     ·by_cases e2:j<a
      ·simp[e,e2,show j<a+1 from by omega]
      ·simp[e,e2,show ¬ j<a+1 from by omega]
    rw[this]
    rfl
  have h1:=key (s.length-1) 1 (by omega) (by omega)
  unfold braid_Draws.f
  refine ev_bind e (ev_pos rfl (ev_pos (by omega) (Ev.step (fun k=>?_) h1)))
  rw[braid_Draws.j0,if_neg (by simp;omega)]
  simp only[Option.bind_some,List.nil_append,List.length_nil]
  have hrep:(tab s.length fun j=>if j<1 then psum s j else 0)=List.replicate s.length 0:=by
   apply List.ext_getElem
   ·simp[tab]
   ·intro i h1 h2
    simp only[tab,List.getElem_map,List.getElem_range,List.getElem_replicate]
    split
    ·rename_i h
     rw[show i=0 from by omega,psum_zero]
    ·rfl
  rw[if_pos (by omega),if_pos (by omega),if_pos (by omega),show((s.length:Int).toNat)=s.length from by omega,hrep]
  rfl
 rcases draws_loop s off c s.length rfl hm (by omega) (by omega) hnn (by omega) c.length 0 s (start s) [] (by omega) hnn hal rfl (by simp) (fun x hx=>(hs.each x hx).2) (by
  intro j hj
  have:=psum_nonneg hnn j
  rw[psum_succ s j hj]
  unfold start
  simp[List.getD_eq_getElem?_getD,hj]
  omega) rfl with⟨ds,P,hP,hE⟩|⟨hP,hE⟩
 ·left
  rw[List.nil_append] at hE
  exact⟨ds,P,by simpa using hP,hin _ hE⟩
 ·right
  exact⟨by simpa using hP,hin _ hE⟩
end Go.Proofs.Ytbnifpfnjhdenaa.Pl
end
section
set_option linter.unusedVariables false
set_option linter.unusedSimpArgs false
namespace Go.Proofs.Ytbnifpfnjhdenaa.Pl
open Go.RowKit Go.Proofs.Ytbnifpfnjhdenaa.Q Go.Proofs.YtbnifpfnjhdenaaW.PrintWords Go.Proofs.YtbnifpfnjhdenaaW.PrintLast
structure Good (s ds:List Int) (P:List (Nat×Int)):Prop where
 sizes:OkS s
 len:(ds.length:Int)=total s
 pat:Pat s ds P
theorem Good.le {s ds:List Int} {P:List (Nat×Int)} (g:Good s ds P):ds.length≤256∧P.length=ds.length∧(fsts P).length=ds.length∧(allOff s.length P).length=ds.length:=by
 have h1:=g.sizes.all
 have h2:=g.len
 have h3:=g.pat.len
 have h4:=allOff_len s.length P s (Nat.le_refl _) (g.pat.count g.sizes.nonneg h2.symm)
 rw[psum_all s s.length (Nat.le_refl _)] at h4
 exact⟨by omega,h3,by simp[fsts];exact h3,by omega⟩
theorem Good.pattern {s ds:List Int} {P:List (Nat×Int)} (g:Good s ds P):Ev (fun k=>braid_Pattern.f k s ds) (fsts P,allOff s.length P,0):=by
 rcases pattern_good s ds g.sizes g.len with⟨Q,h1,h2⟩|⟨h1,_⟩
 ·rw[g.pat.unique g.sizes.nonneg h1]
  exact h2
 ·refine absurd ⟨g.sizes,g.len,fun t ht=>?_⟩ h1
  have:=g.pat.bound g.sizes.nonneg t ht
  rw[←g.len] at this
  exact this
theorem told_unique (off:List Int):∀ (A B:List (Nat×Int)) (nx:Nat→Nat),A.map (·.1)=B.map (·.1)→Rdo nx off A→Rdo nx off B→A=B:=by
 intro A
 induction A with
 | nil=>intro B nx e _ _;cases B with
  | nil=>rfl
  | cons b B=>simp at e
 | cons a A ih =>
  intro B nx e ha hb
  cases B with
  | nil=>simp at e
  | cons b B =>
   obtain⟨j,o⟩:=a
   obtain⟨i,p⟩:=b
   simp only[List.map_cons,List.cons.injEq] at e
   obtain⟨rfl,e2⟩:=e
   obtain⟨a1,a2⟩:=ha.uncons
   obtain⟨b1,b2⟩:=hb.uncons
   rw[a1,b1,ih B _ e2 a2 b2]
theorem Good.back {s ds:List Int} {P:List (Nat×Int)} (g:Good s ds P):Ev (fun k=>braid_Draws.f k s (fsts P) (allOff s.length P)) (ds,0):=by
 have hle:=g.le
 have hl:=g.len
 have hT:Told s (start s) (fsts P) (allOff s.length P) ds P:=⟨g.pat,rfl,rdo_all g.sizes.nonneg g.pat g.len.symm⟩
 rcases draws_good s (fsts P) (allOff s.length P) g.sizes (by omega) (by omega) with⟨es,Q,h1,h2⟩|⟨h1,_⟩
 ·have hPQ:P=Q:=by
   have e1:P.map (·.1)=Q.map (·.1):=by
    have:=h1.2.1
    unfold fsts at this
    have h3:∀ (A B:List (Nat×Int)),A.map (fun x=>(x.1:Int))=B.map (fun x=>(x.1:Int))→A.map (·.1)=B.map (·.1):=by
     intro A
     induction A with
     | nil=>intro B h;cases B with
      | nil=>rfl
      | cons b B=>simp at h
     | cons a A ih=>intro B h;cases B with
      | nil=>simp at h
      | cons b B =>
       simp only[List.map_cons,List.cons.injEq] at h ⊢
       exact⟨by omega,ih B h.2⟩
    exact(h3 Q P this).symm
   exact told_unique _ _ _ _ e1 hT.2.2 h1.2.2
  subst hPQ
  rw[g.pat.draws h1.1]
  exact h2
 ·exact absurd ⟨ds,P,hT⟩ h1
theorem Good.inj {s ds es:List Int} {P Q:List (Nat×Int)} (g:Good s ds P) (g':Good s es Q) (h1:fsts P=fsts Q) (h2:allOff s.length P=allOff s.length Q):ds=es:=by
 have a:=g.back
 have b:=g'.back
 rw[h1,h2] at a
 obtain⟨K1,e1⟩:=a
 obtain⟨K2,e2⟩:=b
 have x:=e1 (max K1 K2) (Nat.le_max_left _ _)
 have y:=e2 (max K1 K2) (Nat.le_max_right _ _)
 rw[x] at y
 exact congrArg Prod.fst (Option.some.inj y)
theorem Good.same {s ds es:List Int} {P Q:List (Nat×Int)} (g:Good s ds P) (g':Good s es Q) (h:ds=es):P=Q:=by
 subst h
 exact g.pat.unique g.sizes.nonneg g'.pat
end Go.Proofs.Ytbnifpfnjhdenaa.Pl
end
section
set_option linter.unusedVariables false
set_option linter.unusedSimpArgs false
namespace Go.Proofs.Ytbnifpfnjhdenaa.Pl
open Go.RowKit Go.Proofs.Ytbnifpfnjhdenaa.Q Go.Proofs.YtbnifpfnjhdenaaW.PrintWords Go.Proofs.YtbnifpfnjhdenaaW.PrintLast
def szf (n m j:Nat):Nat:=n / m+(if j<n % m then 1 else 0)
def sz (n m:Nat):List Int:=tab m fun j=>(szf n m j:Int)
theorem sz_len (n m:Nat):(sz n m).length=m:=tab_len _ _
theorem sizes_bad (n m:Int) (h:¬ (0≤n∧n≤256∧1≤m∧m≤64)):Ev (fun k=>braid_Sizes.f k n m) ([],2):=by
 have bad:∀ b,b=true→Ev (fun k=>braid_Sizes.j0 k n m b) ([],2):=fun b hb=>Ev.step (f:=fun _=>some ([],2)) (fun k=>by rw[braid_Sizes.j0,if_pos hb]) (Ev.now _)
 unfold braid_Sizes.f
 by_cases h1:n<0
 ·exact ev_pos h1 (bad _ rfl)
 refine ev_neg h1 ?_
 by_cases h2:n > 256
 ·exact ev_pos h2 (bad _ rfl)
 refine ev_neg h2 ?_
 by_cases h3:m<1
 ·exact ev_pos h3 (bad _ rfl)
 exact ev_neg h3 (bad _ (by simp;omega))
theorem sizes_good (n m:Nat) (hn:n≤256) (h1:1≤m) (h2:m≤64):Ev (fun k=>braid_Sizes.f k (n:Int) (m:Int)) (sz n m,0):=by
 unfold braid_Sizes.f
 refine ev_neg (by omega) (ev_neg (by omega) (ev_neg (by omega) ?_))
 refine Ev.step (fun k=>by rw[braid_Sizes.j0,if_neg (by simp;omega),if_pos (by omega),if_pos (by omega),Option.bind_some]) ?_
 have hd:n / m≤256:=Nat.le_trans (Nat.div_le_self _ _) hn
 obtain⟨q,hq⟩:∃ q,n / m=q:=⟨_,rfl⟩
 obtain⟨r,hr0⟩:∃ r,n % m=r:=⟨_,rfl⟩
 have t1:Int.tdiv (n:Int) (m:Int)=(q:Int):=by rw[←hq];rfl
 have t2:Int.tmod (n:Int) (m:Int)=(r:Int):=by rw[←hr0];rfl
 have hz:∀ j,(szf n m j:Int)=(q:Int)+(if j<r then 1 else 0):=fun j=>by unfold szf;rw[hq,hr0];split <;> simp
 rw[hq] at hd
 have key:∀ (d i:Nat),i+d=m→Ev (fun k=>braid_Sizes.l0 k (n:Int) (m:Int) (tab m fun j=>if j<i then(szf n m j:Int) else 0) (m:Int) (i:Int)) (sz n m,0):=by
  intro d
  induction d with
  | zero =>
   intro i hi
   have e:(tab m fun j=>if j<i then(szf n m j:Int) else 0)=sz n m:=tab_congr _ _ _ (fun j hj=>by rw[if_pos (by omega)])
   rw[e]
   exact Ev.step (f:=fun _=>some (sz n m,0)) (fun k=>by rw[braid_Sizes.l0,if_neg (by omega)]) (Ev.now _)
  | succ d ih =>
   intro i hi
   refine Ev.step (fun k=>by rw[braid_Sizes.l0,if_pos (by omega),if_neg (by omega),if_pos (by omega),if_pos (by rw[tab_len];omega),Option.bind_some,t1,t2,Int.toNat_natCast,tab_set,w64 (x:=(q:Int)) (by omega) (by omega),w64 (x:=(i:Int)+1) (by omega) (by omega)]) ?_
   have next:=ih (i+1) (by omega)
   by_cases h:i<r
   ·refine ev_pos (by omega) ?_
    rw[tab_rd _ _ i (by omega),if_pos rfl,w64 (by omega) (by omega),tab_set]
    have e:(tab m fun j=>if j=i then(q:Int)+1 else if j=i then(q:Int) else if j<i then(szf n m j:Int) else 0)=tab m fun j=>if j<i+1 then(szf n m j:Int) else 0 :=
     tab_congr _ _ _ (fun j hj=>by
      by_cases e1:j=i
      ·subst e1
       rw[if_pos rfl,if_pos (by omega)]
       rw[hz];simp[h]
      ·rw[if_neg e1,if_neg e1]
       by_cases e2:j<i
       ·rw[if_pos e2,if_pos (by omega)]
       ·rw[if_neg e2,if_neg (by omega)])
    rw[e]
    exact next
   ·refine ev_neg (by omega) ?_
    have e:(tab m fun j=>if j=i then(q:Int) else if j<i then(szf n m j:Int) else 0)=tab m fun j=>if j<i+1 then(szf n m j:Int) else 0 :=
     tab_congr _ _ _ (fun j hj=>by
      by_cases e1:j=i
      ·subst e1
       rw[if_pos rfl,if_pos (by omega)]
       rw[hz];simp[h]
      ·rw[if_neg e1]
       by_cases e2:j<i
       ·rw[if_pos e2,if_pos (by omega)]
       ·rw[if_neg e2,if_neg (by omega)])
    rw[e]
    exact next
 have hr:(List.replicate ((m:Int):Int).toNat (0:Int))=tab m fun j=>if j<0 then(szf n m j:Int) else 0:=by
  simp[tab,List.map_const']
 rw[hr,tab_len]
 exact key m 0 (by omega)
theorem tab_succ (m:Nat) (f:Nat→Int):tab (m+1) f=tab m f ++ [f m]:=by simp[tab,List.range_succ]
def bnd (n:Nat):List Int:=tab n fun i=>(n:Int)-i
theorem bounds_good (n:Nat) (hn:n≤256):Ev (fun k=>braid_Bounds.f k (n:Int)) (bnd n):=by
 unfold braid_Bounds.f
 by_cases h:n<1
 ·refine ev_pos (by omega) ?_
  obtain rfl:n=0:=by omega
  exact Ev.step (f:=fun _=>some []) (fun k=>by rw[braid_Bounds.j0,if_pos rfl]) (Ev.now _)
 refine ev_neg (by omega) (Ev.step (fun k=>by rw[braid_Bounds.j0,if_neg (by simp;omega),if_pos (by omega),if_pos (by omega)]) ?_)
 have key:∀ (d i:Nat),i+d=n→Ev (fun k=>braid_Bounds.l0 k (tab i fun j=>(n:Int)-j) ((n:Int)-i)) (bnd n):=by
  intro d
  induction d with
  | zero =>
   intro i hi
   obtain rfl:i=n:=by omega
   exact Ev.step (f:=fun _=>some (bnd i)) (fun k=>by rw[braid_Bounds.l0,if_neg (by omega)];rfl) (Ev.now _)
  | succ d ih =>
   intro i hi
   have:=ih (i+1) (by omega)
   rw[tab_succ] at this
   have e:wrap64 ((n:Int)-i-1)=(n:Int)-((i+1:Nat):Int):=by rw[w64 (by omega) (by omega)];omega
   exact Ev.step (fun k=>by rw[braid_Bounds.l0,if_pos (by omega),if_pos (by rw[tab_len];omega),e]) this
 have:=key n 0 (by omega)
 simpa [tab] using this
theorem sz_get (n m j:Nat) (hj:j<m):(sz n m)[j]'(by rw[sz_len];exact hj)=(szf n m j:Int):=by simp[sz,tab]
theorem szf_le (n m j:Nat) (hn:n≤256) (h1:1≤m):szf n m j≤256:=by
 unfold szf
 have h3:=Nat.div_add_mod n m
 by_cases h:j<n % m
 ·rw[if_pos h]
  have:m*(n / m) ≥ n / m:=Nat.le_mul_of_pos_left _ h1
  omega
 ·rw[if_neg h]
  have:=Nat.div_le_self n m
  omega
theorem sz_psum (n m:Nat) (h1:1≤m):∀ j,j≤m→psum (sz n m) j=((j*(n / m)+min j (n % m):Nat):Int):=by
 intro j
 induction j with
 | zero=>intro _;simp[psum_zero]
 | succ j ih =>
  intro hj
  rw[psum_succ _ _ (by rw[sz_len];omega),ih (by omega),sz_get _ _ _ (by omega),Nat.succ_mul]
  unfold szf
  by_cases h:j<n % m
  ·rw[if_pos h];omega
  ·rw[if_neg h];omega
theorem sz_total (n m:Nat) (h1:1≤m):total (sz n m)=n:=by
 have:=sz_psum n m h1 m (Nat.le_refl _)
 rw[psum_all _ _ (by rw[sz_len];exact Nat.le_refl _)] at this
 rw[this]
 have h3:=Nat.div_add_mod n m
 have h4:=Nat.mod_lt n h1
 omega
theorem sz_ok (n m:Nat) (hn:n≤256) (h1:1≤m) (h2:m≤64):OkS (sz n m):=by
 refine⟨by rw[sz_len];exact h1,by rw[sz_len];exact h2,fun x hx=>?_,by rw[sz_total n m h1];omega⟩
 obtain⟨j,hj,rfl⟩:=List.getElem_of_mem hx
 rw[sz_len] at hj
 rw[sz_get n m j hj]
 have:=szf_le n m j hn h1
 omega
def ints (C:List Nat):List Int:=C.map fun j:Nat=>(j:Int)
theorem ints_rd (C:List Nat) (i:Nat) (h:i<C.length):rd (ints C) (i:Int)=(C[i]:Int):=by simp[rd,ints,h]
def cn (C:List Nat) (j i:Nat):Nat:=(C.take i).count j
theorem cn_zero (C:List Nat) (j:Nat):cn C j 0=0:=by simp[cn]
theorem cn_succ (C:List Nat) (j i:Nat) (h:i<C.length):cn C j (i+1)=cn C j i+if j=C[i] then 1 else 0:=by
 unfold cn
 rw[List.take_succ_eq_append_getElem h,List.count_append]
 congr 1
 rw[List.count_singleton]
 by_cases e:C[i]=j
 ·simp[e]
 ·simp[e,show ¬ j=C[i] from fun h=>e h.symm]
theorem cn_le (C:List Nat) (j i:Nat):cn C j i≤C.count j:=(List.take_sublist i C).count_le j
theorem cn_mono (C:List Nat) (j i t:Nat) (h:i≤t):cn C j i≤cn C j t:=by
 unfold cn
 have:C.take i=(C.take t).take i:=by rw[List.take_take,Nat.min_eq_left h]
 rw[this]
 exact(List.take_sublist i (C.take t)).count_le j
theorem cn_at (C:List Nat) (i:Nat) (h:i<C.length):cn C C[i] (i+1)=cn C C[i] i+1:=by rw[cn_succ C _ i h,if_pos rfl]
theorem cn_lt (C:List Nat) (i:Nat) (h:i<C.length):cn C C[i] i<C.count C[i]:=by
 have:=cn_at C i h
 have:=cn_le C C[i] (i+1)
 omega
theorem cn_len (C:List Nat) (j i:Nat):cn C j i≤i:=Nat.le_trans List.count_le_length (by simp;omega)
def seg (a:Int) (t:Nat):List Int:=tab t fun i=>a+i
end Go.Proofs.Ytbnifpfnjhdenaa.Pl
end
section
set_option linter.unusedVariables false
set_option linter.unusedSimpArgs false
namespace Go.Proofs.Ytbnifpfnjhdenaa.Pl
open Go.RowKit Go.Proofs.Ytbnifpfnjhdenaa.Q Go.Proofs.YtbnifpfnjhdenaaW.PrintWords Go.Proofs.YtbnifpfnjhdenaaW.PrintLast
theorem Good.exists {s ds:List Int} (h:OkD s ds):∃ P,Good s ds P:=by
 obtain⟨P,hP⟩:=pat_exists ds s h.1.nonneg (fun i hi=>by
  have:=h.2.2 i hi
  have e:=h.2.1
  omega)
 exact⟨P,h.1,h.2.1,hP⟩
end Go.Proofs.Ytbnifpfnjhdenaa.Pl
end
section
set_option linter.unusedVariables false
set_option linter.unusedSimpArgs false
namespace Go.Proofs.Ytbnifpfnjhdenaa.Pl
open Go.RowKit Go.Proofs.Ytbnifpfnjhdenaa.Q Go.Proofs.YtbnifpfnjhdenaaW.PrintWords Go.Proofs.YtbnifpfnjhdenaaW.PrintLast
def piece (l:List Int) (q j:Nat):List Int:=(l.take ((j+1)*q)).drop (j*q)
def pieces (l:List Int) (q c:Nat):List (List Int):=(List.range c).map (piece l q)
def noiseOf (p:List Int):List Int:=p.take 18
def restOf (p:List Int):List Int:=(p.drop 18).drop ((p.length-18) / 2)
def braidOf (p:List Int):List Int:=(p.drop 18).take ((p.length-18) / 2)
def qOf (p:List Int) (c:Nat):Nat:=(restOf p).length / c
theorem restOf_len (p:List Int):(restOf p).length=(p.length-18)-(p.length-18) / 2:=by simp[restOf];omega
theorem qmul_le (p:List Int) (c j:Nat) (hj:j≤c):j*qOf p c≤(restOf p).length :=
 Nat.le_trans (Nat.mul_le_mul_right _ hj) (by rw[Nat.mul_comm];exact Nat.div_mul_le_self _ _)
theorem piece_len (p:List Int) (c j:Nat) (hj:j<c):(piece (restOf p) (qOf p c) j).length=qOf p c:=by
 have:=qmul_le p c (j+1) hj
 unfold piece
 rw[List.length_drop,List.length_take,Nat.min_eq_left this,Nat.succ_mul]
 omega
theorem pieces_succ (l:List Int) (q c:Nat):pieces l q (c+1)=pieces l q c ++ [piece l q c]:=by
 unfold pieces
 rw[List.range_succ,List.map_append]
 rfl
def splitS (p:List Int) (c:Int):List Int×List Int×(List (List Int))×Int :=
 if c<1∨c > 64 then([],[],[],2) else if p.length<18 then([],[],[],3) else(noiseOf p,braidOf p,pieces (restOf p) (qOf p c.toNat) c.toNat,0)
theorem clone_val (l:List Int) (h:l.length<140737488355328):slices_Clone_byte_byte.f l=some l:=by
 unfold slices_Clone_byte_byte.f
 rw[if_pos h]
theorem split_ev (p:List Int) (c:Int) (hp:p.length≤140737488351232):Ev (fun k=>tape_Split.f k p c) (splitS p c):=by
 unfold tape_Split.f splitS
 by_cases h1:c<1
 ·rw[if_pos (by omega)]
  exact ev_pos h1 (Ev.step (f:=fun _=>some ([],[],[],2)) (fun k=>by rw[tape_Split.j0,if_pos rfl]) (Ev.now _))
 ·refine ev_neg h1 ?_
  by_cases h2:c > 64
  ·rw[if_pos (by omega)]
   exact Ev.step (f:=fun _=>some ([],[],[],2)) (fun k=>by rw[tape_Split.j0,if_pos (by simpa using h2)]) (Ev.now _)
  ·rw[if_neg (by omega)]
   by_cases h3:p.length<18
   ·rw[if_pos h3]
    exact Ev.step (f:=fun _=>some ([],[],[],3)) (fun k=>by rw[tape_Split.j0,if_neg (by simp;omega),if_pos (by omega)]) (Ev.now _)
   ·rw[if_neg h3]
    obtain⟨n,rfl⟩:=Int.eq_ofNat_of_zero_le (show 0≤c by omega)
    simp only[Int.toNat_natCast]
    have hrl:=restOf_len p
    have key:∀ (d j:Nat),j+d=n→Ev (fun k=>tape_Split.l0 k (restOf p) (qOf p n:Int) (n:Int) (j:Int) (noiseOf p) (braidOf p) (pieces (restOf p) (qOf p n) j)) (noiseOf p,braidOf p,pieces (restOf p) (qOf p n) n,0):=by
     intro d
     induction d with
     | zero =>
      intro j hj
      have:j=n:=by omega
      subst this
      exact Ev.step (f:=fun _=>some (noiseOf p,braidOf p,pieces (restOf p) (qOf p j) j,0)) (fun k=>by rw[tape_Split.l0,if_neg (by omega)]) (Ev.now _)
     | succ d ih =>
      intro j hj
      have a1:=qmul_le p n (j+1) (by omega)
      have a2:j*qOf p n≤(j+1)*qOf p n:=Nat.mul_le_mul_right _ (by omega)
      have hpl:=piece_len p n j (by omega)
      have hql:qOf p n≤(restOf p).length:=Nat.div_le_self _ _
      have hcl:=clone_val (piece (restOf p) (qOf p n) j) (by omega)
      have b1:(j:Int)<(n:Int):=by omega
      have b2:(0:Int)≤((j*qOf p n:Nat):Int):=by omega
      have b3:((j*qOf p n:Nat):Int)≤(((j+1)*qOf p n:Nat):Int):=by omega
      have b4:(((j+1)*qOf p n:Nat):Int)≤((restOf p).length:Int):=by omega
      have b5:j*qOf p n≤9223372036854775807:=by omega
      have b6:(j+1)*qOf p n≤9223372036854775807:=by omega
      have b8:(pieces (restOf p) (qOf p n) j).length<5864062014805:=by simp[pieces];omega
      have b10:j+1≤9223372036854775807:=by omega
      have b9:j+1+d=n:=by omega
      have b7:wrap64 ((j:Int)+1)=((j+1:Nat):Int):=w64n (x:=j+1) b10
      have e1:wrap64 ((j:Int)*(qOf p n:Int))=((j*qOf p n:Nat):Int):=by rw[←Int.natCast_mul];exact w64n b5
      have e2:wrap64 (wrap64 ((j:Int)+1)*(qOf p n:Int))=(((j+1)*qOf p n:Nat):Int):=by
       rw[b7,←Int.natCast_mul]
       exact w64n b6
      refine Ev.step (fun k=>?_) (ih (j+1) b9)
      rw[tape_Split.l0,if_pos b1,e1,e2,if_pos b2,if_pos b3,if_pos b4,Int.toNat_natCast,Int.toNat_natCast,show((restOf p).take ((j+1)*qOf p n)).drop (j*qOf p n)=piece (restOf p) (qOf p n) j from rfl,hcl,Option.bind_some,
       if_pos b8,b7,pieces_succ]
    have h0:=key n 0 (by omega)
    have hd:(p.drop 18).length=p.length-18:=by simp
    have g1:¬ ((p.length:Int)<18):=by omega
    have g2:(18:Int)≤(p.length:Int):=by omega
    have g3:(0:Int)≤(((p.length-18) / 2:Nat):Int):=by omega
    have g4:(((p.length-18) / 2:Nat):Int)≤((p.drop 18).length:Int):=by rw[hd];omega
    have g5:(p.take 18).length<140737488355328:=by simp;omega
    have g6:((p.drop 18).take ((p.length-18) / 2)).length<140737488355328:=by simp;omega
    have g7:¬ ((n:Int)=0):=by omega
    have g8:¬ (decide ((n:Int) > 64)=true):=by simpa using h2
    have g9:(restOf p).length≤9223372036854775807:=by omega
    have hw:wrap64 (((p.drop 18).length:Int) / 2)=(((p.length-18) / 2:Nat):Int):=by rw[hd,w64 (by omega) (by omega)];omega
    refine Ev.step (fun k=>?_) h0
    have hq:wrap64 (((restOf p).length:Int) / (n:Int))=(qOf p n:Int):=by
     rw[←Int.natCast_ediv]
     exact w64n (Nat.le_trans (Nat.div_le_self _ _) g9)
    rw[tape_Split.j0,if_neg g8,if_neg g1,if_pos g2,Option.bind_some,hw,clone_val _ g5,Option.bind_some,if_pos g3,if_pos g4,Int.toNat_natCast,clone_val _ g6,Option.bind_some,Option.bind_some,if_neg g7]
    show tape_Split.l0 k (restOf p) (wrap64 (((restOf p).length:Int) / (n:Int))) _ _ _ _ _=_
    rw[hq]
    rfl
end Go.Proofs.Ytbnifpfnjhdenaa.Pl
end
section
set_option linter.unusedVariables false
set_option linter.unusedSimpArgs false
namespace Go.Proofs.Ytbnifpfnjhdenaa.Pl
open Go.RowKit Go.Proofs.Ytbnifpfnjhdenaa.Q Go.Proofs.YtbnifpfnjhdenaaW.PrintWords Go.Proofs.YtbnifpfnjhdenaaW.PrintLast Go.Proofs.Ytbnifpfnjhdenaa.Pure
theorem anyOk' {bs:List Int} (h:AllOk bs):¬ (bs.any fun b => !okBound b)=true:=by
 intro hc
 obtain⟨b,hb,e⟩:=List.any_eq_true.1 hc
 have:=h b hb
 rw[okBound_of b this.1 this.2] at e
 exact absurd e (by decide)
theorem drA_some {p bs:List Int} (h:AllOk bs) {r:List Int×Nat} (e:dr p bs 0=some r):drA p bs=(r.1,(r.2:Int),0):=by
 unfold drA
 rw[if_neg (anyOk' h),e]
theorem drA_none {p bs:List Int} (h:AllOk bs) (e:dr p bs 0=none):drA p bs=([],0,3):=by
 unfold drA
 rw[if_neg (anyOk' h),e]
theorem drw_fA (p bs:List Int) (hp:Bytes p) (hl:p.length≤140737488351232) (hbl:bs.length≤17592186043904):draw_All.f p bs=some (drA p bs):=by
 rw[drw_all_f p bs hp hl hbl,allA_dr]
theorem boundsL_ok:∀ n:Nat,n≤256→AllOk (boundsL n)
 | 0,_=>fun b hb=>by simp[boundsL] at hb
 | 1,_=>fun b hb=>by simp[boundsL] at hb
 | n+2,h=>fun b hb=>by
  rw[boundsL] at hb
  rcases List.mem_cons.1 hb with rfl|hb
  ·omega
  ·exact boundsL_ok (n+1) (by omega) b hb
theorem bnd_len (n:Nat):(bnd n).length=n:=tab_len _ _
theorem bnd_rd (n i:Nat) (h:i<n):rd (bnd n) (i:Int)=(n:Int)-i:=tab_rd _ _ i h
theorem bnd_ok (n:Nat) (h:n≤256):AllOk (bnd n):=by
 intro b hb
 obtain⟨i,hi,rfl⟩:=List.mem_map.1 hb
 have:=List.mem_range.1 hi
 omega
theorem rd_cons (x:Int) (xs:List Int) (i:Nat):rd (x ::xs) ((i+1:Nat):Int)=rd xs (i:Int):=by rw[rd_nat,rd_nat,List.getD_cons_succ]
theorem valid_rd:∀ (bs ws:List Int),Valid bs ws→ws.length=bs.length∧∀ i:Nat,i<bs.length→0≤rd ws (i:Int)∧rd ws (i:Int)<rd bs (i:Int)
 | [],[],_=>⟨rfl,fun i h=>by simp at h⟩
 | b ::bs,w ::ws,h=>by
  obtain⟨h1,h2⟩:=valid_rd bs ws h.2.2
  refine⟨by simp[h1],fun i hi=>?_⟩
  cases i with
  | zero=>exact⟨h.1,h.2.1⟩
  | succ i=>rw[rd_cons,rd_cons];exact h2 i (by simpa using hi)
 | [],_ ::_,h=>h.elim
 | _ ::_,[],h=>h.elim
theorem boundsL_fit {s:Nat} {ws:List Int} (h:Valid (boundsL s) ws):ws.length=s-1∧FitD (s:Int) ws:=by
 obtain⟨h1,h2⟩:=valid_rd _ _ h
 rw[boundsL_len] at h1 h2
 refine⟨h1,fun k hk=>?_⟩
 have:=h2 k (by omega)
 rw[boundsL_at s k (by omega)] at this
 exact this
theorem bnd_okD {s ws:List Int} (hs:OkS s) (h:Valid (bnd (total s).toNat) ws):OkD s ws:=by
 obtain⟨h1,h2⟩:=valid_rd _ _ h
 have h0:=total_nonneg hs.nonneg
 rw[bnd_len] at h1 h2
 refine⟨hs,by omega,fun t ht=>?_⟩
 have:=h2 t (by omega)
 rw[bnd_rd _ t (by omega),rd_lt ws t ht] at this
 omega
def permOf (l:List Int) (s:Nat):Option (List Int):=(dr l (boundsL s) 0).map fun r=>fromL (iota s) (s-1) r.1
def permsG (f:Nat→Option (List Int)):Nat→Nat→List (List Int)→Option (List (List Int))
 | 0,_,L=>some L
 | d+1,j,L=>(f j).bind fun q=>permsG f d (j+1) (L ++ [q])
theorem permsG_some (f:Nat→Option (List Int)):∀ (d j:Nat) (L own:List (List Int)),L.length=j→permsG f d j L=some own →
  own.length=j+d∧(∀ i,i<j→own[i]? = L[i]?)∧∀ i,j≤i→i<j+d→own[i]? = f i:=by
 intro d
 induction d with
 | zero =>
  intro j L own hL h
  obtain rfl:=Option.some.inj h
  exact⟨by omega,fun i _=>rfl,fun i h1 h2=>by omega⟩
 | succ d ih =>
  intro j L own hL h
  rw[permsG] at h
  obtain⟨q,hq,h⟩:=Option.bind_eq_some_iff.1 h
  obtain⟨h1,h2,h3⟩:=ih (j+1) (L ++ [q]) own (by simp[hL]) h
  refine⟨by omega,fun i hi=>?_,fun i hi1 hi2=>?_⟩
  ·rw[h2 i (by omega),List.getElem?_append_left (by omega)]
  ·by_cases e:i=j
   ·subst e
    rw[h2 i (by omega),List.getElem?_append_right (by omega),hL,hq]
    simp
   ·exact h3 i (by omega) (by omega)
theorem permOf_fits {l:List Int} (hl:Bytes l) {s:Nat} (hs:s≤256) {q:List Int} (h:permOf l s=some q):q.length=s∧Fits q∧∃ ds u,dr l (boundsL s) 0=some (ds,u)∧Valid (boundsL s) ds∧fromL (iota s) (s-1) ds=q∧drawsL q (iota s) (s-1)=ds:=by
 unfold permOf at h
 obtain⟨⟨ds,u⟩,h1,rfl⟩:=Option.map_eq_some_iff.1 h
 have hv:=dr_valid l hl (boundsL s) 0 (boundsL_ok s hs) (by omega) _ h1
 simp only at hv
 obtain⟨f1,f2⟩:=boundsL_fit hv
 simp only[fromL_len,iota_len]
 by_cases h0:s=0
 ·subst h0
  obtain rfl:=List.eq_nil_of_length_eq_zero f1
  exact⟨trivial,⟨by simp[fromL,iota],by simp[fromL,iota]⟩,[],u,h1,hv,rfl,rfl⟩
 ·have:=draws_from (s-1) ds (iota s) f1 (by rw[show((s-1:Nat):Int)+1=(s:Int) by omega];exact f2) (fits_iota _) (by rw[iota_len];omega)
  exact⟨trivial,this.1,ds,u,h1,hv,rfl,this.2.2⟩
structure Lay (p:List Int) (n c:Nat) (ds:List Int) (P:List (Nat×Int)) (own:List (List Int)):Prop where
 long:18≤p.length
 most:n≤256
 one:1≤c
 chunks:c≤64
 draws:∃ u,dr (braidOf p) (bnd n) 0=some (ds,u)
 good:Good (sz n c) ds P
 owns:permsG (fun j=>permOf (piece (restOf p) (qOf p c) j) (szf n c j)) c 0 []=some own
theorem bytes_sub {p q:List Int} (h:Bytes p) (hs:q.Sublist p):Bytes q:=fun x hx=>h x (hs.subset hx)
theorem bytes_braid {p:List Int} (h:Bytes p):Bytes (braidOf p):=bytes_sub h ((List.take_sublist _ _).trans (List.drop_sublist _ _))
theorem bytes_rest {p:List Int} (h:Bytes p):Bytes (restOf p):=bytes_sub h ((List.drop_sublist _ _).trans (List.drop_sublist _ _))
theorem bytes_piece {p:List Int} (h:Bytes p) (q j:Nat):Bytes (piece (restOf p) q j):=bytes_sub (bytes_rest h) ((List.drop_sublist _ _).trans (List.take_sublist _ _))
theorem braid_le (p:List Int):(braidOf p).length≤p.length:=by unfold braidOf;rw[List.length_take,List.length_drop];omega
theorem piece_le (p:List Int) (q j:Nat):(piece (restOf p) q j).length≤p.length:=by
 unfold piece restOf
 rw[List.length_drop,List.length_take,List.length_drop,List.length_drop]
 omega
theorem pieces_rd (l:List Int) (q c j:Nat) (h:j<c):(pieces l q c).getD j []=piece l q j:=by simp[pieces,h]
theorem pieces_len (l:List Int) (q c:Nat):(pieces l q c).length=c:=by simp[pieces]
theorem Lay.own {p:List Int} (hp:Bytes p) {n c:Nat} {ds:List Int} {P:List (Nat×Int)} {own:List (List Int)} (h:Lay p n c ds P own) :
  own.length=c∧∀ j,j<c→permOf (piece (restOf p) (qOf p c) j) (szf n c j)=some (own.getD j [])∧(own.getD j []).length=szf n c j∧Fits (own.getD j []):=by
 obtain⟨h1,_,h3⟩:=permsG_some _ c 0 [] own rfl h.owns
 refine⟨by omega,fun j hj=>?_⟩
 have e:=h3 j (by omega) (by omega)
 have hj':j<own.length:=by omega
 have e2:own[j]? = some (own.getD j []):=by rw[List.getD_eq_getElem?_getD,List.getElem?_eq_getElem hj',Option.getD_some]
 rw[e2] at e
 obtain⟨f1,f2,_⟩:=permOf_fits (bytes_piece hp _ _) (szf_le n c j h.most h.one) e.symm
 exact⟨e.symm,f1,f2⟩
theorem perm_step_ok {l:List Int} (hl:Bytes l) (hle:l.length≤140737488351232) (s:Nat) (hs:s≤256) {q:List Int} (h:permOf l s=some q) :
  ∃ ds u,draw_All.f l (boundsL s)=some (ds,u,0)∧Ev (fun k=>perm_From.f k (s:Int) ds) (q,0):=by
 obtain⟨h1,h2,ds,u,h3,h4,h5,h6⟩:=permOf_fits hl hs h
 obtain⟨f1,f2⟩:=boundsL_fit h4
 refine⟨ds,(u:Int),?_,ev_to (from_ev (s:Int) ds (by omega) (by omega)) ?_⟩
 ·rw[drw_fA l _ hl hle (by rw[boundsL_len];omega),drA_some (boundsL_ok s hs) h3]
 ·unfold fromA
  have hm:((ds.length:Nat):Int)=mx ((s:Int)-1) 0:=by unfold mx;split <;> omega
  rw[if_neg (by omega),if_pos ⟨hm,f2⟩,Int.toNat_natCast,h5]
theorem perm_step_no {l:List Int} (hl:Bytes l) (hle:l.length≤140737488351232) (s:Nat) (hs:s≤256) (h:permOf l s=none):draw_All.f l (boundsL s)=some ([],0,3):=by
 unfold permOf at h
 rw[drw_fA l _ hl hle (by rw[boundsL_len];omega),drA_none (boundsL_ok s hs) (Option.map_eq_none_iff.1 h)]
theorem bounds_ev' (s:Nat) (hs:s≤256):Ev (fun k=>perm_Bounds.f k (s:Int)) (boundsL s):=by
 have:=bounds_ev (s:Int) (by omega)
 rwa [Int.toNat_natCast] at this
theorem sz_bounds (n c j:Nat) (hn:n≤256) (h1:1≤c) (hc:c≤64):0≤psum (sz n c) j∧psum (sz n c) j≤n:=by
 have ok:=sz_ok n c hn h1 hc
 have:=psum_total ok.nonneg j
 rw[sz_total n c h1] at this
 exact⟨psum_nonneg ok.nonneg j,this⟩
theorem sz_rd (n c j:Nat) (hj:j<c):rd (sz n c) (j:Int)=(szf n c j:Int):=tab_rd _ _ j hj
theorem read_loop {p:List Int} (hp:Bytes p) (hl:p.length≤140737488351232) (n c:Nat) (hn:n≤256) (h1:1≤c) (hc:c≤64) (ds:List Int)
  {R:List (List Int)→List Int×List Int×List (List Int)×List Int×List Int×List Int×List Int×List (List Int)×Int}
  (hR:∀ own,permsG (fun j=>permOf (piece (restOf p) (qOf p c) j) (szf n c j)) c 0 []=some own→Ev (fun k=>(braid_Pattern.f k (sz n c) ds).bind fun bt228=>(some (noiseOf p,braidOf p,pieces (restOf p) (qOf p c) c,sz n c,(tab c fun j=>psum (sz n c) j),bt228.1,bt228.2.1,own,bt228.2.2))) (R own)) :
  ∀ (d j:Nat) (L:List (List Int)),j+d=c→L.length=j→permsG (fun j=>permOf (piece (restOf p) (qOf p c) j) (szf n c j)) c 0 []=permsG (fun j=>permOf (piece (restOf p) (qOf p c) j) (szf n c j)) d j L →
  Ev (fun k=>riffle_read.l0 k L ds (psum (sz n c) j) (sz n c) (c:Int) (j:Int) (noiseOf p) (braidOf p) (pieces (restOf p) (qOf p c) c) (sz n c) (tab j fun j=>psum (sz n c) j))
   (match permsG (fun j=>permOf (piece (restOf p) (qOf p c) j) (szf n c j)) d j L with|some own=>R own|none=>([],[],[],[],[],[],[],[],3)):=by
 intro d
 induction d with
 | zero =>
  intro j L hj hL hg
  obtain rfl:j=c:=by omega
  rw[hg] at hR
  rw[permsG] at hR ⊢
  exact Ev.step (fun k=>by rw[riffle_read.l0,if_neg (by omega)]) (hR L rfl)
 | succ d ih =>
  intro j L hj hL hg
  rw[hg] at hR ih
  rw[permsG] at hR ih ⊢
  have hjc:j<c:=by omega
  have hs:=szf_le n c j hn h1
  have hsl:=sz_len n c
  have htl:=tab_len j fun j=>psum (sz n c) j
  have hpb:=sz_bounds n c j hn h1 hc
  have hrd:=sz_rd n c j hjc
  have hps:psum (sz n c) (j+1)=psum (sz n c) j+(szf n c j:Int):=by rw[psum_succ _ j (by omega),sz_get n c j hjc]
  have hby:=bytes_piece hp (qOf p c) j
  have hpl:=piece_le p (qOf p c) j
  have hpp:rd_L3 (pieces (restOf p) (qOf p c) c) (j:Int)=piece (restOf p) (qOf p c) j:=pieces_rd _ _ _ _ hjc
  have hplen:=pieces_len (restOf p) (qOf p c) c
  refine Ev.step (fun k=>by rw[riffle_read.l0,if_pos (by omega),if_pos (by omega),if_pos (by omega),if_pos (by omega),if_pos (by omega),hrd]) (ev_bind (bounds_ev' _ hs) ?_)
  cases hq:permOf (piece (restOf p) (qOf p c) j) (szf n c j) with
  | none =>
   refine ev_bind0 (a:=([],0,3)) (by
    show draw_All.f ((pieces (restOf p) (qOf p c) c).getD j []) _=_
    rw[pieces_rd _ _ _ _ hjc]
    exact perm_step_no hby (by omega) _ hs hq) (ev_neg (by decide) (Ev.now _))
  | some q =>
   obtain⟨es,u,e1,e2⟩:=perm_step_ok hby (by omega) _ hs hq
   refine ev_bind0 (a:=(es,u,0)) (by
    show draw_All.f ((pieces (restOf p) (qOf p c) c).getD j []) _=_
    rw[pieces_rd _ _ _ _ hjc]
    exact e1) (ev_pos rfl (ev_bind e2 (ev_pos rfl (ev_pos (by omega) ?_))))
   rw[w64 (x:=psum (sz n c) j+(szf n c j:Int)) (by omega) (by omega),w64 (x:=(j:Int)+1) (by omega) (by omega),←hps]
   have:=ih (j+1) (L ++ [q]) (by omega) (by simp[hL]) (by rw[hq];rfl)
   rw[tab_succ] at this
   exact this
theorem splitS_ok {p:List Int} {c:Nat} (h:18≤p.length) (h1:1≤c) (hc:c≤64):splitS p (c:Int)=(noiseOf p,braidOf p,pieces (restOf p) (qOf p c) c,0):=by
 unfold splitS
 rw[if_neg (by omega),if_neg (by omega),Int.toNat_natCast]
theorem read_bad (p:List Int) (n m:Int) (h:¬ (0≤n∧n≤256∧1≤m∧m≤64)):Ev (fun k=>riffle_read.f k p n m) ([],[],[],[],[],[],[],[],2):=by
 unfold riffle_read.f
 exact ev_bind (sizes_bad n m h) (ev_neg (by decide) (Ev.now _))
theorem sz_fit {n c:Nat} (hn:n≤256) (h1:1≤c) (hc:c≤64) {ds:List Int} (h:Valid (bnd n) ds):∃ P,Good (sz n c) ds P:=by
 refine Good.exists (bnd_okD (sz_ok n c hn h1 hc) ?_)
 rw[sz_total n c h1,Int.toNat_natCast]
 exact h
theorem read_ev {p:List Int} (hp:Bytes p) (hl:p.length≤140737488351232) (n c:Nat) (hn:n≤256) (h1:1≤c) (hc:c≤64) :
  (∃ ds P own,Lay p n c ds P own∧Ev (fun k=>riffle_read.f k p n c) (noiseOf p,braidOf p,pieces (restOf p) (qOf p c) c,sz n c,(tab c fun j=>psum (sz n c) j),fsts P,allOff c P,own,0)) ∨
  ((¬ ∃ ds P own,Lay p n c ds P own)∧Ev (fun k=>riffle_read.f k p n c) ([],[],[],[],[],[],[],[],3)):=by
 by_cases h18:p.length<18
 ·refine .inr ⟨fun⟨_,_,_,h⟩=>by have:=h.long;omega,?_⟩
  unfold riffle_read.f
  refine ev_bind (sizes_good n c hn h1 hc) (ev_pos rfl (ev_bind (split_ev p c hl) ?_))
  unfold splitS
  rw[if_neg (by omega),if_pos h18]
  exact ev_neg (by decide) (Ev.now _)
 have hbl:=braid_le p
 have hD:=drw_fA (braidOf p) (bnd n) (bytes_braid hp) (by omega) (by rw[bnd_len];omega)
 have start:∀ R,Ev (fun k=>(if(drA (braidOf p) (bnd n)).2.2=0 then(riffle_read.l0 k ([]:List (List Int)) (drA (braidOf p) (bnd n)).1 0 (sz n c) ((sz n c).length:Int) 0 (noiseOf p) (braidOf p) (pieces (restOf p) (qOf p c) c) (sz n c) ([]:List Int)) else(some (([]:List Int),([]:List Int),([]:List (List Int)),([]:List Int),([]:List Int),([]:List Int),([]:List Int),([]:List (List Int)),(drA (braidOf p) (bnd n)).2.2)))) R→Ev (fun k=>riffle_read.f k p n c) R:=by
  intro R hR
  unfold riffle_read.f
  refine ev_bind (sizes_good n c hn h1 hc) (ev_pos rfl (ev_bind (split_ev p c hl) ?_))
  rw[splitS_ok (by omega) h1 hc]
  exact ev_pos rfl (ev_bind (bounds_good n hn) (ev_bind0 hD hR))
 cases hd:dr (braidOf p) (bnd n) 0 with
 | none =>
  refine .inr ⟨fun⟨_,_,_,h⟩=>?_,start _ ?_⟩
  ·obtain⟨u,hu⟩:=h.draws
   rw[hd] at hu
   exact absurd hu (by simp)
  ·rw[drA_none (bnd_ok n hn) hd]
   exact ev_neg (by decide) (Ev.now _)
 | some r =>
  obtain⟨ds,u⟩:=r
  have hv:=dr_valid _ (bytes_braid hp) (bnd n) 0 (bnd_ok n hn) (by omega) _ hd
  obtain⟨P,g⟩:=sz_fit hn h1 hc hv
  have key:=read_loop hp hl n c hn h1 hc ds (R:=fun own=>(noiseOf p,braidOf p,pieces (restOf p) (qOf p c) c,sz n c,(tab c fun j=>psum (sz n c) j),fsts P,allOff c P,own,0))
   (fun own _=>ev_bind g.pattern (ev_some (by rw[sz_len]))) c 0 [] (by omega) rfl rfl
  have key':=start _ (by
   rw[drA_some (bnd_ok n hn) hd,sz_len]
   exact ev_pos rfl key)
  cases ho:permsG (fun j=>permOf (piece (restOf p) (qOf p c) j) (szf n c j)) c 0 [] with
  | none =>
   rw[ho] at key'
   refine .inr ⟨fun⟨_,_,_,h⟩=>?_,key'⟩
   have:=h.owns
   rw[ho] at this
   exact absurd this (by simp)
  | some own =>
   rw[ho] at key'
   exact .inl ⟨ds,P,own,⟨by omega,hn,h1,hc,⟨u,hd⟩,g,ho⟩,key'⟩
end Go.Proofs.Ytbnifpfnjhdenaa.Pl
end
section
set_option linter.unusedVariables false
set_option linter.unusedSimpArgs false
namespace Go.Proofs.Ytbnifpfnjhdenaa.Pl
open Go.RowKit Go.Proofs.Ytbnifpfnjhdenaa.Q Go.Proofs.YtbnifpfnjhdenaaW.PrintWords Go.Proofs.YtbnifpfnjhdenaaW.PrintLast Go.Proofs.Ytbnifpfnjhdenaa.Pure
def ordAt (C:List Nat) (p:Nat→Int) (own:List (List Int)) (i:Nat):Int:=p (C.getD i 0)+rd (own.getD (C.getD i 0) []) (cn C (C.getD i 0) i:Int)
def ordL (C:List Nat) (p:Nat→Int) (own:List (List Int)):List Int:=tab C.length (ordAt C p own)
theorem ordL_len (C:List Nat) (p:Nat→Int) (own:List (List Int)):(ordL C p own).length=C.length:=tab_len _ _
theorem ordL_rd (C:List Nat) (p:Nat→Int) (own:List (List Int)) (i:Nat) (h:i<C.length):rd (ordL C p own) (i:Int)=ordAt C p own i:=tab_rd _ _ i h
theorem vis_cnt (j:Nat) (P:List (Nat×Int)):(vis j P).length=(P.map (·.1)).count j:=by
 unfold vis
 rw[List.length_map,←List.countP_eq_length_filter,List.count_eq_countP,List.countP_map]
 rfl
theorem fsts_int (P:List (Nat×Int)):fsts P=ints (P.map (·.1)):=by simp[fsts,ints]
theorem cn_get (C:List Nat) (i:Nat) (h:i<C.length):C.getD i 0=C[i]:=by rw[List.getD_eq_getElem?_getD,List.getElem?_eq_getElem h,Option.getD_some]
structure PatC (C:List Nat) (n c:Nat):Prop where
 len:C.length=n
 lt:∀ j ∈ C,j<c
 cnt:∀ j,j<c→C.count j=szf n c j
theorem Good.patC {n c:Nat} {ds:List Int} {P:List (Nat×Int)} (h1:1≤c) (g:Good (sz n c) ds P):PatC (P.map (·.1)) n c:=by
 have hle:=g.le
 have hl:=g.len
 rw[sz_total n c h1] at hl
 refine⟨by rw[List.length_map];omega,fun j hj=>?_,fun j hj=>?_⟩
 ·obtain⟨x,hx,rfl⟩:=List.mem_map.1 hj
  have:=g.pat.range x hx
  rwa [sz_len] at this
 ·have:=g.pat.count g.sizes.nonneg g.len.symm j (by rw[sz_len];exact hj)
  rw[←vis_cnt]
  have e:(sz n c).getD j 0=(szf n c j:Int):=by rw[←rd_nat,sz_rd n c j hj]
  omega
theorem PatC.at_ {C:List Nat} {n c:Nat} (h:PatC C n c) (i:Nat) (hi:i<n):C.getD i 0<c∧cn C (C.getD i 0) i<szf n c (C.getD i 0):=by
 have hl:=h.len
 rw[cn_get C i (by omega)]
 have h1:=h.lt _ (List.getElem_mem (show i<C.length by omega))
 have h2:=cn_lt C i (by omega)
 rw[h.cnt _ h1] at h2
 exact⟨h1,h2⟩
theorem ordAt_bounds {p:List Int} (hp:Bytes p) {n c:Nat} {ds:List Int} {P:List (Nat×Int)} {own:List (List Int)} (h:Lay p n c ds P own) (i:Nat) (hi:i<n) :
  ∃ o:Int,ordAt (P.map (·.1)) (psum (sz n c)) own i=psum (sz n c) ((P.map (·.1)).getD i 0)+o∧rd (own.getD ((P.map (·.1)).getD i 0) []) (cn (P.map (·.1)) ((P.map (·.1)).getD i 0) i:Int)=o∧0≤o∧o<szf n c ((P.map (·.1)).getD i 0):=by
 obtain⟨h1,h2⟩:=(h.good.patC h.one).at_ i hi
 obtain⟨_,w⟩:=h.own hp
 obtain⟨_,w2,w3⟩:=w _ h1
 have:=fits_rd w3 _ (by rw[w2];exact h2)
 rw[w2] at this
 exact⟨_,rfl,rfl,this.1,this.2⟩
theorem Lay.lens {p:List Int} {n c:Nat} {ds:List Int} {P:List (Nat×Int)} {own:List (List Int)} (h:Lay p n c ds P own):P.length=n∧(P.map (·.1)).length=n∧ds.length=n:=by
 have:=(h.good.patC h.one).len
 have hle:=h.good.le
 rw[List.length_map] at this
 exact⟨this,by rw[List.length_map];exact this,by omega⟩
theorem ordL_fits {p:List Int} (hp:Bytes p) {n c:Nat} {ds:List Int} {P:List (Nat×Int)} {own:List (List Int)} (h:Lay p n c ds P own):Fits (ordL (P.map (·.1)) (psum (sz n c)) own):=by
 have hl:=h.lens.2.1
 have hC:=h.good.patC h.one
 have ok:=h.good.sizes
 have hown:=h.own hp
 have hz:=sz_len n c
 refine fits_of_rd (fun m hm=>?_) (fun i j hi hj e=>?_)
 ·rw[ordL_len,hl] at hm
  rw[ordL_rd _ _ _ m (by omega),ordL_len,hl]
  obtain⟨o,e,_,o0,o1⟩:=ordAt_bounds hp h m hm
  have hc:=(hC.at_ m hm).1
  rw[e]
  have a1:=psum_succ (sz n c) _ (show(P.map (·.1)).getD m 0<(sz n c).length by rw[hz];exact hc)
  rw[sz_get n c _ hc] at a1
  have a2:=sz_bounds n c ((P.map (·.1)).getD m 0) h.most h.one h.chunks
  have a3:=sz_bounds n c ((P.map (·.1)).getD m 0+1) h.most h.one h.chunks
  omega
 ·rw[ordL_len,hl] at hi hj
  rw[ordL_rd _ _ _ i (by omega),ordL_rd _ _ _ j (by omega)] at e
  obtain⟨o,e1,r1,o0,o1⟩:=ordAt_bounds hp h i hi
  obtain⟨q,e2,r2,q0,q1⟩:=ordAt_bounds hp h j hj
  have ci:=hC.at_ i hi
  have cj:=hC.at_ j hj
  rw[e1,e2] at e
  obtain⟨u1,u2⟩:=place_unique ok.nonneg (by rw[hz];exact ci.1) (by rw[hz];exact cj.1) o0 (by rw[sz_get n c _ ci.1];exact o1) q0 (by rw[sz_get n c _ cj.1];exact q1) e
  obtain⟨_,w2,w3⟩:=hown.2 _ ci.1
  rw[←r1,←r2,←u1] at u2
  have u3:=fits_rd_inj w3 _ _ (by rw[w2];exact ci.2) (by rw[w2,u1];exact cj.2) u2
  generalize hD:(P.map (·.1))=C at *
  have key:∀ a b:Nat,a<n→b<n→C.getD a 0=C.getD b 0→cn C (C.getD a 0) a=cn C (C.getD a 0) b→¬ a<b:=by
   intro a b ha hb hab hcn hlt
   have s1:=cn_at C a (by omega)
   rw[cn_get C a (by omega)] at hcn
   have s2:=cn_mono C C[a] (a+1) b hlt
   omega
  have k1:=key i j hi hj u1 u3
  have k2:=key j i hj hi u1.symm (by rw[←u1];exact u3.symm)
  omega
theorem order_loop {p:List Int} (hp:Bytes p) {n c:Nat} {ds:List Int} {P:List (Nat×Int)} {own:List (List Int)} (h:Lay p n c ds P own) (y0 y1:List Int) (y2:List (List Int)) (y3:List Int) :
  ∀ (d i:Nat),i+d=n→Ev (fun k=>riffle_Order.l0 k own (tab c fun j=>(cn (P.map (·.1)) j i:Int)) (tab n fun t=>if t<i then ordAt (P.map (·.1)) (psum (sz n c)) own t else 0) (fsts P) ((fsts P).length:Int) (i:Int) y0 y1 y2 y3 (tab c fun j=>psum (sz n c) j))
   (ordL (P.map (·.1)) (psum (sz n c)) own,0):=by
 have hl:=h.lens
 have hC:=h.good.patC h.one
 have hown:=h.own hp
 have hfl:(fsts P).length=n:=by simp[fsts];exact hl.1
 have hcc:=h.chunks
 have hn:=h.most
 intro d
 induction d with
 | zero =>
  intro i hi
  obtain rfl:i=n:=by omega
  have e:(tab i fun t=>if t<i then ordAt (P.map (·.1)) (psum (sz i c)) own t else 0)=ordL (P.map (·.1)) (psum (sz i c)) own:=by
   unfold ordL
   rw[hl.2.1]
   exact tab_congr _ _ _ fun j hj=>by rw[if_pos hj]
  rw[e]
  exact Ev.step (f:=fun _=>some (ordL (P.map (·.1)) (psum (sz i c)) own,0)) (fun k=>by rw[riffle_Order.l0,if_neg (by omega)]) (Ev.now _)
 | succ d ih =>
  intro i hi
  have hin:i<n:=by omega
  obtain⟨c1,c2⟩:=hC.at_ i hin
  obtain⟨o,e1,r1,o0,o1⟩:=ordAt_bounds hp h i hin
  obtain⟨_,w2,w3⟩:=hown.2 _ c1
  have hr:rd (fsts P) (i:Int)=(((P.map (·.1)).getD i 0:Nat):Int):=by
   rw[fsts_int,ints_rd _ i (by omega),cn_get _ i (by omega)]
  have hcs:∀ j,cn (P.map (·.1)) j (i+1)=cn (P.map (·.1)) j i+if j=(P.map (·.1)).getD i 0 then 1 else 0:=fun j=>by
   rw[cn_succ _ j i (by omega),cn_get _ i (by omega)]
  generalize hj:(P.map (·.1)).getD i 0=j at *
  have t1:=tab_len c fun j=>(cn (P.map (·.1)) j i:Int)
  have t2:=tab_len c fun j=>psum (sz n c) j
  have t3:=tab_len n fun t=>if t<i then ordAt (P.map (·.1)) (psum (sz n c)) own t else 0
  have g1:rd (tab c fun j=>(cn (P.map (·.1)) j i:Int)) (j:Int)=(cn (P.map (·.1)) j i:Int):=tab_rd _ _ j c1
  have g2:rd (tab c fun j=>psum (sz n c) j) (j:Int)=psum (sz n c) j:=tab_rd _ _ j c1
  have pb:=sz_bounds n c j h.most h.one h.chunks
  have sl:=szf_le n c j h.most h.one
  have ho:rd_L3 own (j:Int)=own.getD j []:=rfl
  have hcl:=cn_len (P.map (·.1)) j i
  refine Ev.step (fun k=>?_) (ih (i+1) (by omega))
  rw[riffle_Order.l0,if_pos (by omega),if_pos (by omega),if_pos (by omega),hr,if_pos (by omega),if_pos (by omega),if_pos (by omega),if_pos (by omega),g1,if_pos (by omega),ho,if_pos (by omega),if_pos (by omega),g2,r1,Int.toNat_natCast,Int.toNat_natCast,w64 (x:=(cn (P.map (·.1)) j i:Int)+1) (by omega) (by omega),w64 (x:=psum (sz n c) j+o) (by omega) (by omega),w64 (x:=(i:Int)+1) (by omega) (by omega),tab_set,tab_set,←e1]
  have q1:(tab c fun t=>if t=j then(cn (P.map (·.1)) j i:Int)+1 else(cn (P.map (·.1)) t i:Int))=tab c fun j=>(cn (P.map (·.1)) j (i+1):Int):=tab_congr _ _ _ fun t ht=>by
   rw[hcs t]
   by_cases e:t=j
   ·rw[if_pos e,if_pos e,e];omega
   ·rw[if_neg e,if_neg e];omega
  have q2:(tab n fun t=>if t=i then ordAt (P.map (·.1)) (psum (sz n c)) own i else if t<i then ordAt (P.map (·.1)) (psum (sz n c)) own t else 0)=tab n fun t=>if t<i+1 then ordAt (P.map (·.1)) (psum (sz n c)) own t else 0:=tab_congr _ _ _ fun t ht=>by
   by_cases e:t=i
   ·rw[if_pos e,if_pos (by omega),e]
   ·rw[if_neg e]
    by_cases e2:t<i
    ·rw[if_pos e2,if_pos (by omega)]
    ·rw[if_neg e2,if_neg (by omega)]
  rw[q1,q2]
  rfl
theorem tab_zero (n:Nat):List.replicate n (0:Int)=tab n fun _=>0:=by
 apply List.ext_getElem
 ·simp[tab]
 ·intro i h1 h2;simp[tab]
theorem order_bad (p:List Int) (n m:Int) (h:¬ (0≤n∧n≤256∧1≤m∧m≤64)):Ev (fun k=>riffle_Order.f k p n m) ([],2):=by
 unfold riffle_Order.f
 exact ev_bind (read_bad p n m h) (ev_neg (by decide) (Ev.now _))
theorem Lay.order {p:List Int} (hp:Bytes p) {n c:Nat} {ds:List Int} {P:List (Nat×Int)} {own:List (List Int)} (h:Lay p n c ds P own)
  (hr:Ev (fun k=>riffle_read.f k p n c) (noiseOf p,braidOf p,pieces (restOf p) (qOf p c) c,sz n c,(tab c fun j=>psum (sz n c) j),fsts P,allOff c P,own,0)):Ev (fun k=>riffle_Order.f k p n c) (ordL (P.map (·.1)) (psum (sz n c)) own,0):=by
 unfold riffle_Order.f
 have hz:=sz_len n c
 have hn:=h.most
 have hc:=h.chunks
 refine ev_bind hr (ev_pos rfl (ev_pos (show(0:Int)≤((sz n c).length:Int) by omega) (ev_pos (show(((sz n c).length:Int):Int).toNat≤35184372088832 by omega) (ev_pos (show(0:Int)≤(n:Int) by omega) (ev_pos (show((n:Int):Int).toNat≤35184372088832 by omega) ?_)))))
 have:=order_loop hp h (noiseOf p) (braidOf p) (pieces (restOf p) (qOf p c) c) (sz n c) n 0 (by omega)
 rw[hz,Int.toNat_natCast,Int.toNat_natCast,tab_zero,tab_zero]
 have e1:(tab c fun j=>(cn (P.map (·.1)) j 0:Int))=tab c fun _=>0:=tab_congr _ _ _ fun j _=>by rw[cn_zero];rfl
 have e2:(tab n fun t=>if t<0 then ordAt (P.map (·.1)) (psum (sz n c)) own t else 0)=tab n fun _=>0:=tab_congr _ _ _ fun j _=>by rw[if_neg (by omega)]
 rw[e1,e2] at this
 exact this
theorem order_ev {p:List Int} (hp:Bytes p) (hl:p.length≤140737488351232) (n c:Nat) (hn:n≤256) (h1:1≤c) (hc:c≤64) :
  (∃ ds P own,Lay p n c ds P own∧Ev (fun k=>riffle_Order.f k p n c) (ordL (P.map (·.1)) (psum (sz n c)) own,0)) ∨
  ((¬ ∃ ds P own,Lay p n c ds P own)∧Ev (fun k=>riffle_Order.f k p n c) ([],3)):=by
 rcases read_ev hp hl n c hn h1 hc with⟨ds,P,own,h,e⟩|⟨h,e⟩
 ·exact .inl ⟨ds,P,own,h,h.order hp e⟩
 ·refine .inr ⟨h,?_⟩
  unfold riffle_Order.f
  exact ev_bind e (ev_neg (by decide) (Ev.now _))
theorem Lay.same {p:List Int} {n c:Nat} {ds es:List Int} {P Q:List (Nat×Int)} {own won:List (List Int)} (h:Lay p n c ds P own) (h':Lay p n c es Q won):ds=es∧P=Q∧own=won:=by
 obtain⟨u,hu⟩:=h.draws
 obtain⟨v,hv⟩:=h'.draws
 rw[hu] at hv
 simp only[Option.some.injEq,Prod.mk.injEq] at hv
 have e:=h.owns
 rw[h'.owns] at e
 exact⟨hv.1,h.good.same h'.good hv.1,(Option.some.inj e).symm⟩
end Go.Proofs.Ytbnifpfnjhdenaa.Pl
end
section
set_option linter.unusedVariables false
set_option linter.unusedSimpArgs false
namespace Go.Proofs.Ytbnifpfnjhdenaa.Pure
open Go.RowKit Go.Proofs.Ytbnifpfnjhdenaa.Q Go.Proofs.YtbnifpfnjhdenaaW.PrintWords Go.Proofs.YtbnifpfnjhdenaaW.PrintLast Go.Proofs.Ytbnifpfnjhdenaa.Pl
theorem alive13:Ev (fun k=>churnlaw13_alive.f k) true:=Ev.of (fun k=>churnlaw13_alive.mono k) (k:=60) (by decide +kernel)
theorem same13_yes (a:List Int) (ha:a.length≤9223372036854775000):Ev (fun k=>churnlaw13_same.f k a a) true:=by
 unfold churnlaw13_same.f
 refine ev_pos rfl ?_
 have key:∀ (d i:Nat),i+d=a.length→Ev (fun k=>churnlaw13_same.l0 k a a (i:Int)) true:=by
  intro d
  induction d with
  | zero=>intro i hi;exact Ev.step (f:=fun _=>some true) (fun k=>by rw[churnlaw13_same.l0,if_neg (by omega)]) (Ev.now _)
  | succ d ih =>
   intro i hi
   refine Ev.step (fun k=>?_) (ih (i+1) (by omega))
   rw[churnlaw13_same.l0,if_pos (by omega),if_pos (by omega),if_pos (by omega),if_pos rfl,w64 (by omega) (by omega)]
   rfl
 exact key a.length 0 (by omega)
end Go.Proofs.Ytbnifpfnjhdenaa.Pure
end
section
set_option linter.unusedVariables false
set_option linter.unusedSimpArgs false
namespace Go.Proofs.Ytbnifpfnjhdenaa.Pure
open Go.RowKit Go.Proofs.Ytbnifpfnjhdenaa.Q Go.Proofs.YtbnifpfnjhdenaaW.PrintWords Go.Proofs.YtbnifpfnjhdenaaW.PrintLast Go.Proofs.Ytbnifpfnjhdenaa.Pl
theorem order_atA {p:List Int} (hp:Bytes p) (hl:p.length≤140737488351232) {n c:Nat} {ds:List Int} {P:List (Nat×Int)} {own:List (List Int)} (h:Lay p n c ds P own):Ev (fun k=>riffle_Order.f k p n c) (ordL (P.map (·.1)) (psum (sz n c)) own,0):=by
 rcases order_ev hp hl n c h.most h.one h.chunks with⟨ds',P',own',h',e⟩|⟨hn,_⟩
 ·obtain⟨rfl,rfl,rfl⟩:=h.same h'
  exact e
 ·exact absurd ⟨ds,P,own,h⟩ hn
theorem lay_noise {p q:List Int} (hl:q.length=p.length) (hd:q.drop 18=p.drop 18) {n c:Nat} {ds:List Int} {P:List (Nat×Int)} {own:List (List Int)} (h:Lay p n c ds P own):Lay q n c ds P own:=by
 have b:braidOf q=braidOf p:=by unfold braidOf;rw[hd,hl]
 have r:restOf q=restOf p:=by unfold restOf;rw[hd,hl]
 have e:qOf q c=qOf p c:=by unfold qOf;rw[r]
 exact⟨by rw[hl];exact h.long,h.most,h.one,h.chunks,by rw[b];exact h.draws,h.good,by rw[r,e];exact h.owns⟩
theorem shuffle_int_ok {p:List Int} {c:Int} {q:List Int} {o:List Int} (h:Ev (fun k=>riffle_Order.f k p (q.length:Int) c) (o,0)) (ho:o.length=q.length) (hq:q.length≤1000) (fo:Fits o):Ev (fun k=>riffle_Shuffle_int.f k p c q) (pick o q,0):=by
 unfold riffle_Shuffle_int.f perm_Apply_int.f
 refine ev_bind h (ev_pos rfl (ev_bind (a:=(pick o q,0)) ?_ (Ev.now _)))
 exact ev_pos (show(o.length:Int)=(q.length:Int) by omega) (ev_bind (fits_ev o (by omega)) (ev_pos (by simp[fo]) (ev_bind (picked_ev o q (by omega) (fun x hx=>by have:=fo.1 x hx;omega)) (Ev.now _))))
theorem shuffle_int_no {p:List Int} {c:Int} {q:List Int} {e:Int} (he:e≠0) (h:Ev (fun k=>riffle_Order.f k p (q.length:Int) c) ([],e)):Ev (fun k=>riffle_Shuffle_int.f k p c q) ([],e):=by
 unfold riffle_Shuffle_int.f
 exact ev_bind h (ev_neg he (Ev.now _))
theorem same13a_yes (a:List Int) (ha:a.length≤9223372036854775000):Ev (fun k=>churnlaw13_same.f k a a) true:=same13_yes a ha
theorem ans_of {p ys l:List Int} {ch:Int} {o s:List Int} {e:Int} (h1:Ev (fun k=>riffle_Order.f k p (l.length:Int) ch) (o,e)) (h2:Ev (fun k=>riffle_Shuffle_int.f k p ch l) (s,e)) (h3:Ev (fun k=>riffle_Order.f k (ys.take p.length ++ p.drop 18) (l.length:Int) ch) (o,e)) (ho:o.length≤1000)
  (hlen:s.length=o.length∧(e=0→o.length=l.length)∧o.length≤l.length) (hat:∀ i:Nat,i<o.length→0≤rd o i∧rd o i<(l.length:Int)∧rd s i=rd l (rd o i)):∃ k,RaAns k p ys l ch o s e:=by
 obtain⟨k1,g1⟩:=h1
 obtain⟨k2,g2⟩:=h2
 obtain⟨k3,g3⟩:=h3
 obtain⟨k4,g4⟩:=alive13
 obtain⟨k5,g5⟩:=same13a_yes o (by omega)
 obtain⟨K,hK⟩:∃ K,K=k1+k2+k3+k4+k5:=⟨_,rfl⟩
 exact⟨K,g4 K (by omega),g1 K (by omega),g2 K (by omega),g3 K (by omega),g5 K (by omega),hlen,hat⟩
theorem RiffleAlone (p ys l:List Int) (ch:Int) (hp:Bytes p) (hy:Bytes ys) (hl:ys.length=18) (hpl:p.length≤140737488351232):∃ k o s e,RaAns k p ys l ch o s e:=by
 have hq:Bytes (ys.take p.length ++ p.drop 18):=fun z hz=>by
  rcases List.mem_append.1 hz with h|h
  ·exact hy z (List.mem_of_mem_take h)
  ·exact hp z (List.mem_of_mem_drop h)
 have ql:(ys.take p.length ++ p.drop 18).length=p.length:=by simp;omega
 have qd:(ys.take p.length ++ p.drop 18).drop 18=p.drop 18:=by
  rcases Nat.lt_or_ge p.length 18 with h|h
  ·rw[List.drop_of_length_le (by omega),List.drop_of_length_le (by omega)]
  ·rw[List.take_of_length_le (by omega),List.drop_append,hl,List.drop_of_length_le (by omega),List.nil_append,Nat.sub_self,List.drop_zero]
 by_cases hfit:0≤(l.length:Int)∧(l.length:Int)≤256∧1≤ch∧ch≤64
 ·obtain⟨d,rfl⟩:∃ d:Nat,ch=(d:Int):=⟨ch.toNat,by omega⟩
  rcases order_ev hp hpl l.length d (by omega) (by omega) (by omega) with⟨ds,P,own,h,e⟩|⟨h,e⟩
  ·have fo:=ordL_fits hp h
   have lo:(ordL (P.map (·.1)) (psum (sz l.length d)) own).length=l.length:=by rw[ordL_len];exact h.lens.2.1
   obtain⟨k,hk⟩:=ans_of (ys:=ys) e (shuffle_int_ok e lo (by omega) fo) (order_atA hq (by omega) (lay_noise ql qd h)) (by omega) ⟨by simp[pick],fun _=>lo,by omega⟩ (fun i hi=>by
    have hm:=fo.1 _ (rd_mem (ordL (P.map (·.1)) (psum (sz l.length d)) own) (i:Int) (by simpa using hi))
    refine⟨hm.1,by omega,?_⟩
    rw[rd_lt (pick _ l) i (by rw[pick_len];exact hi),pick_get _ l i hi,←rd_lt _ i hi])
   exact⟨k,_,_,_,hk⟩
  ·have e2:Ev (fun k=>riffle_Order.f k (ys.take p.length ++ p.drop 18) (l.length:Int) d) ([],3):=by
    rcases order_ev hq (by omega) l.length d (by omega) (by omega) (by omega) with⟨ds,P,own,h',-⟩|⟨-,e'⟩
    ·exact absurd ⟨ds,P,own,lay_noise ql.symm qd.symm h'⟩ h
    ·exact e'
   obtain⟨k,hk⟩:=ans_of (ys:=ys) e (shuffle_int_no (by decide) e) e2 (by simp) ⟨rfl,fun h=>by omega,by simp⟩ (fun i hi=>absurd hi (by simp))
   exact⟨k,_,_,_,hk⟩
 ·have e:=order_bad p (l.length:Int) ch hfit
  obtain⟨k,hk⟩:=ans_of (ys:=ys) e (shuffle_int_no (by decide) e) (order_bad _ (l.length:Int) ch hfit) (by simp) ⟨rfl,fun h=>by omega,by simp⟩ (fun i hi=>absurd hi (by simp))
  exact⟨k,_,_,_,hk⟩
end Go.Proofs.Ytbnifpfnjhdenaa.Pure
end
