/- Functions of the program as plain Lean functions, each with a proof that its call comes to just these answers, and the row that joins them to the given statement; no condition beside the statement's own. Written for this claim by this session's programs (pf.py, pack.py) over the kit's print. -/
import Derived.Test.YtbnifpfnjhdenaaZRiffleCounts0
import Derived.Test.YtbnifpfnjhdenaaZRiffleCounts1
import Derived.Test.YtbnifpfnjhdenaaZRiffleCounts2
import Derived.Test.YtbnifpfnjhdenaaZRiffleCounts3
import Derived.Test.YtbnifpfnjhdenaaZRiffleCounts4
import Derived.Test.YtbnifpfnjhdenaaZRiffleCounts5
import Derived.Test.YtbnifpfnjhdenaaZRiffleCounts6
section
set_option linter.unusedVariables false
set_option linter.unusedSimpArgs false
namespace Go.Proofs.Ytbnifpfnjhdenaa.Pl
open Go.RowKit Go.Proofs.Ytbnifpfnjhdenaa.Q Go.Proofs.YtbnifpfnjhdenaaW.PrintWords Go.Proofs.YtbnifpfnjhdenaaW.PrintLast Go.Proofs.Ytbnifpfnjhdenaa.Pure
theorem anyOk' {bs:List Int} (h:AllOk bs):¬ (bs.any fun b => !okBound b)=true:=by
 intro hc
 obtain⟨b,hb,e⟩:=List.any_eq_true.1 hc
 have:=h b hb
 rw[okBound_of b this.1 this.2] at e
 exact absurd e (by decide)
theorem drA_some {p bs:List Int} (h:AllOk bs) {r:List Int×Nat} (e:dr p bs 0=some r):drA p bs=(r.1,(r.2:Int),0):=by
 unfold drA
 rw[if_neg (anyOk' h),e]
theorem drA_none {p bs:List Int} (h:AllOk bs) (e:dr p bs 0=none):drA p bs=([],0,3):=by
 unfold drA
 rw[if_neg (anyOk' h),e]
theorem drw_fA (p bs:List Int) (hp:Bytes p) (hl:p.length≤140737488351232) (hbl:bs.length≤17592186043904):draw_All.f p bs=some (drA p bs):=by
 rw[drw_all_f p bs hp hl hbl,allA_dr]
theorem boundsL_ok:∀ n:Nat,n≤256→AllOk (boundsL n)
 | 0,_=>fun b hb=>by simp[boundsL] at hb
 | 1,_=>fun b hb=>by simp[boundsL] at hb
 | n+2,h=>fun b hb=>by
  rw[boundsL] at hb
  rcases List.mem_cons.1 hb with rfl|hb
  ·omega
  ·exact boundsL_ok (n+1) (by omega) b hb
theorem bnd_len (n:Nat):(bnd n).length=n:=tab_len _ _
theorem bnd_rd (n i:Nat) (h:i<n):rd (bnd n) (i:Int)=(n:Int)-i:=tab_rd _ _ i h
theorem bnd_ok (n:Nat) (h:n≤256):AllOk (bnd n):=by
 intro b hb
 obtain⟨i,hi,rfl⟩:=List.mem_map.1 hb
 have:=List.mem_range.1 hi
 omega
theorem rd_cons (x:Int) (xs:List Int) (i:Nat):rd (x ::xs) ((i+1:Nat):Int)=rd xs (i:Int):=by rw[rd_nat,rd_nat,List.getD_cons_succ]
theorem valid_rd:∀ (bs ws:List Int),Valid bs ws→ws.length=bs.length∧∀ i:Nat,i<bs.length→0≤rd ws (i:Int)∧rd ws (i:Int)<rd bs (i:Int)
 | [],[],_=>⟨rfl,fun i h=>by simp at h⟩
 | b ::bs,w ::ws,h=>by
  obtain⟨h1,h2⟩:=valid_rd bs ws h.2.2
  refine⟨by simp[h1],fun i hi=>?_⟩
  cases i with
  | zero=>exact⟨h.1,h.2.1⟩
  | succ i=>rw[rd_cons,rd_cons];exact h2 i (by simpa using hi)
 | [],_ ::_,h=>h.elim
 | _ ::_,[],h=>h.elim
theorem boundsL_fit {s:Nat} {ws:List Int} (h:Valid (boundsL s) ws):ws.length=s-1∧FitD (s:Int) ws:=by
 obtain⟨h1,h2⟩:=valid_rd _ _ h
 rw[boundsL_len] at h1 h2
 refine⟨h1,fun k hk=>?_⟩
 have:=h2 k (by omega)
 rw[boundsL_at s k (by omega)] at this
 exact this
theorem bnd_okD {s ws:List Int} (hs:OkS s) (h:Valid (bnd (total s).toNat) ws):OkD s ws:=by
 obtain⟨h1,h2⟩:=valid_rd _ _ h
 have h0:=total_nonneg hs.nonneg
 rw[bnd_len] at h1 h2
 refine⟨hs,by omega,fun t ht=>?_⟩
 have:=h2 t (by omega)
 rw[bnd_rd _ t (by omega),rd_lt ws t ht] at this
 omega
def permOf (l:List Int) (s:Nat):Option (List Int):=(dr l (boundsL s) 0).map fun r=>fromL (iota s) (s-1) r.1
def permsG (f:Nat→Option (List Int)):Nat→Nat→List (List Int)→Option (List (List Int))
 | 0,_,L=>some L
 | d+1,j,L=>(f j).bind fun q=>permsG f d (j+1) (L ++ [q])
theorem permsG_some (f:Nat→Option (List Int)):∀ (d j:Nat) (L own:List (List Int)),L.length=j→permsG f d j L=some own →
  own.length=j+d∧(∀ i,i<j→own[i]? = L[i]?)∧∀ i,j≤i→i<j+d→own[i]? = f i:=by
 intro d
 induction d with
 | zero =>
  intro j L own hL h
  obtain rfl:=Option.some.inj h
  exact⟨by omega,fun i _=>rfl,fun i h1 h2=>by omega⟩
 | succ d ih =>
  intro j L own hL h
  rw[permsG] at h
  obtain⟨q,hq,h⟩:=Option.bind_eq_some_iff.1 h
  obtain⟨h1,h2,h3⟩:=ih (j+1) (L ++ [q]) own (by simp[hL]) h
  refine⟨by omega,fun i hi=>?_,fun i hi1 hi2=>?_⟩
  ·rw[h2 i (by omega),List.getElem?_append_left (by omega)]
  ·by_cases e:i=j
   ·subst e
    rw[h2 i (by omega),List.getElem?_append_right (by omega),hL,hq]
    simp
   ·exact h3 i (by omega) (by omega)
theorem permOf_fits {l:List Int} (hl:Bytes l) {s:Nat} (hs:s≤256) {q:List Int} (h:permOf l s=some q):q.length=s∧Fits q∧∃ ds u,dr l (boundsL s) 0=some (ds,u)∧Valid (boundsL s) ds∧fromL (iota s) (s-1) ds=q∧drawsL q (iota s) (s-1)=ds:=by
 unfold permOf at h
 obtain⟨⟨ds,u⟩,h1,rfl⟩:=Option.map_eq_some_iff.1 h
 have hv:=dr_valid l hl (boundsL s) 0 (boundsL_ok s hs) (by omega) _ h1
 simp only at hv
 obtain⟨f1,f2⟩:=boundsL_fit hv
 simp only[fromL_len,iota_len]
 by_cases h0:s=0
 ·subst h0
  obtain rfl:=List.eq_nil_of_length_eq_zero f1
  exact⟨trivial,⟨by simp[fromL,iota],by simp[fromL,iota]⟩,[],u,h1,hv,rfl,rfl⟩
 ·have:=draws_from (s-1) ds (iota s) f1 (by rw[show((s-1:Nat):Int)+1=(s:Int) by omega];exact f2) (fits_iota _) (by rw[iota_len];omega)
  exact⟨trivial,this.1,ds,u,h1,hv,rfl,this.2.2⟩
structure Lay (p:List Int) (n c:Nat) (ds:List Int) (P:List (Nat×Int)) (own:List (List Int)):Prop where
 long:18≤p.length
 most:n≤256
 one:1≤c
 chunks:c≤64
 draws:∃ u,dr (braidOf p) (bnd n) 0=some (ds,u)
 good:Good (sz n c) ds P
 owns:permsG (fun j=>permOf (piece (restOf p) (qOf p c) j) (szf n c j)) c 0 []=some own
theorem bytes_sub {p q:List Int} (h:Bytes p) (hs:q.Sublist p):Bytes q:=fun x hx=>h x (hs.subset hx)
theorem bytes_braid {p:List Int} (h:Bytes p):Bytes (braidOf p):=bytes_sub h ((List.take_sublist _ _).trans (List.drop_sublist _ _))
theorem bytes_rest {p:List Int} (h:Bytes p):Bytes (restOf p):=bytes_sub h ((List.drop_sublist _ _).trans (List.drop_sublist _ _))
theorem bytes_piece {p:List Int} (h:Bytes p) (q j:Nat):Bytes (piece (restOf p) q j):=bytes_sub (bytes_rest h) ((List.drop_sublist _ _).trans (List.take_sublist _ _))
theorem braid_le (p:List Int):(braidOf p).length≤p.length:=by unfold braidOf;rw[List.length_take,List.length_drop];omega
theorem piece_le (p:List Int) (q j:Nat):(piece (restOf p) q j).length≤p.length:=by
 unfold piece restOf
 rw[List.length_drop,List.length_take,List.length_drop,List.length_drop]
 omega
theorem pieces_rd (l:List Int) (q c j:Nat) (h:j<c):(pieces l q c).getD j []=piece l q j:=by simp[pieces,h]
theorem pieces_len (l:List Int) (q c:Nat):(pieces l q c).length=c:=by simp[pieces]
theorem Lay.own {p:List Int} (hp:Bytes p) {n c:Nat} {ds:List Int} {P:List (Nat×Int)} {own:List (List Int)} (h:Lay p n c ds P own) :
  own.length=c∧∀ j,j<c→permOf (piece (restOf p) (qOf p c) j) (szf n c j)=some (own.getD j [])∧(own.getD j []).length=szf n c j∧Fits (own.getD j []):=by
 obtain⟨h1,_,h3⟩:=permsG_some _ c 0 [] own rfl h.owns
 refine⟨by omega,fun j hj=>?_⟩
 have e:=h3 j (by omega) (by omega)
 have hj':j<own.length:=by omega
 have e2:own[j]? = some (own.getD j []):=by rw[List.getD_eq_getElem?_getD,List.getElem?_eq_getElem hj',Option.getD_some]
 rw[e2] at e
 obtain⟨f1,f2,_⟩:=permOf_fits (bytes_piece hp _ _) (szf_le n c j h.most h.one) e.symm
 exact⟨e.symm,f1,f2⟩
theorem perm_step_ok {l:List Int} (hl:Bytes l) (hle:l.length≤140737488351232) (s:Nat) (hs:s≤256) {q:List Int} (h:permOf l s=some q) :
  ∃ ds u,draw_All.f l (boundsL s)=some (ds,u,0)∧Ev (fun k=>perm_From.f k (s:Int) ds) (q,0):=by
 obtain⟨h1,h2,ds,u,h3,h4,h5,h6⟩:=permOf_fits hl hs h
 obtain⟨f1,f2⟩:=boundsL_fit h4
 refine⟨ds,(u:Int),?_,ev_to (from_ev (s:Int) ds (by omega) (by omega)) ?_⟩
 ·rw[drw_fA l _ hl hle (by rw[boundsL_len];omega),drA_some (boundsL_ok s hs) h3]
 ·unfold fromA
  have hm:((ds.length:Nat):Int)=mx ((s:Int)-1) 0:=by unfold mx;split <;> omega
  rw[if_neg (by omega),if_pos ⟨hm,f2⟩,Int.toNat_natCast,h5]
theorem perm_step_no {l:List Int} (hl:Bytes l) (hle:l.length≤140737488351232) (s:Nat) (hs:s≤256) (h:permOf l s=none):draw_All.f l (boundsL s)=some ([],0,3):=by
 unfold permOf at h
 rw[drw_fA l _ hl hle (by rw[boundsL_len];omega),drA_none (boundsL_ok s hs) (Option.map_eq_none_iff.1 h)]
theorem bounds_ev' (s:Nat) (hs:s≤256):Ev (fun k=>perm_Bounds.f k (s:Int)) (boundsL s):=by
 have:=bounds_ev (s:Int) (by omega)
 rwa [Int.toNat_natCast] at this
theorem sz_bounds (n c j:Nat) (hn:n≤256) (h1:1≤c) (hc:c≤64):0≤psum (sz n c) j∧psum (sz n c) j≤n:=by
 have ok:=sz_ok n c hn h1 hc
 have:=psum_total ok.nonneg j
 rw[sz_total n c h1] at this
 exact⟨psum_nonneg ok.nonneg j,this⟩
theorem sz_rd (n c j:Nat) (hj:j<c):rd (sz n c) (j:Int)=(szf n c j:Int):=tab_rd _ _ j hj
theorem read_loop {p:List Int} (hp:Bytes p) (hl:p.length≤140737488351232) (n c:Nat) (hn:n≤256) (h1:1≤c) (hc:c≤64) (ds:List Int)
  {R:List (List Int)→List Int×List Int×List (List Int)×List Int×List Int×List Int×List Int×List (List Int)×Int}
  (hR:∀ own,permsG (fun j=>permOf (piece (restOf p) (qOf p c) j) (szf n c j)) c 0 []=some own→Ev (fun k=>(braid_Pattern.f k (sz n c) ds).bind fun bt228=>(some (noiseOf p,braidOf p,pieces (restOf p) (qOf p c) c,sz n c,(tab c fun j=>psum (sz n c) j),bt228.1,bt228.2.1,own,bt228.2.2))) (R own)) :
  ∀ (d j:Nat) (L:List (List Int)),j+d=c→L.length=j→permsG (fun j=>permOf (piece (restOf p) (qOf p c) j) (szf n c j)) c 0 []=permsG (fun j=>permOf (piece (restOf p) (qOf p c) j) (szf n c j)) d j L →
  Ev (fun k=>riffle_read.l0 k L ds (psum (sz n c) j) (sz n c) (c:Int) (j:Int) (noiseOf p) (braidOf p) (pieces (restOf p) (qOf p c) c) (sz n c) (tab j fun j=>psum (sz n c) j))
   (match permsG (fun j=>permOf (piece (restOf p) (qOf p c) j) (szf n c j)) d j L with|some own=>R own|none=>([],[],[],[],[],[],[],[],3)):=by
 intro d
 induction d with
 | zero =>
  intro j L hj hL hg
  obtain rfl:j=c:=by omega
  rw[hg] at hR
  rw[permsG] at hR ⊢
  exact Ev.step (fun k=>by rw[riffle_read.l0,if_neg (by omega)]) (hR L rfl)
 | succ d ih =>
  intro j L hj hL hg
  rw[hg] at hR ih
  rw[permsG] at hR ih ⊢
  have hjc:j<c:=by omega
  have hs:=szf_le n c j hn h1
  have hsl:=sz_len n c
  have htl:=tab_len j fun j=>psum (sz n c) j
  have hpb:=sz_bounds n c j hn h1 hc
  have hrd:=sz_rd n c j hjc
  have hps:psum (sz n c) (j+1)=psum (sz n c) j+(szf n c j:Int):=by rw[psum_succ _ j (by omega),sz_get n c j hjc]
  have hby:=bytes_piece hp (qOf p c) j
  have hpl:=piece_le p (qOf p c) j
  have hpp:rd_L3 (pieces (restOf p) (qOf p c) c) (j:Int)=piece (restOf p) (qOf p c) j:=pieces_rd _ _ _ _ hjc
  have hplen:=pieces_len (restOf p) (qOf p c) c
  refine Ev.step (fun k=>by rw[riffle_read.l0,if_pos (by omega),if_pos (by omega),if_pos (by omega),if_pos (by omega),if_pos (by omega),hrd]) (ev_bind (bounds_ev' _ hs) ?_)
  cases hq:permOf (piece (restOf p) (qOf p c) j) (szf n c j) with
  | none =>
   refine ev_bind0 (a:=([],0,3)) (by
    show draw_All.f ((pieces (restOf p) (qOf p c) c).getD j []) _=_
    rw[pieces_rd _ _ _ _ hjc]
    exact perm_step_no hby (by omega) _ hs hq) (ev_neg (by decide) (Ev.now _))
  | some q =>
   obtain⟨es,u,e1,e2⟩:=perm_step_ok hby (by omega) _ hs hq
   refine ev_bind0 (a:=(es,u,0)) (by
    show draw_All.f ((pieces (restOf p) (qOf p c) c).getD j []) _=_
    rw[pieces_rd _ _ _ _ hjc]
    exact e1) (ev_pos rfl (ev_bind e2 (ev_pos rfl (ev_pos (by omega) ?_))))
   rw[w64 (x:=psum (sz n c) j+(szf n c j:Int)) (by omega) (by omega),w64 (x:=(j:Int)+1) (by omega) (by omega),←hps]
   have:=ih (j+1) (L ++ [q]) (by omega) (by simp[hL]) (by rw[hq];rfl)
   rw[tab_succ] at this
   exact this
theorem splitS_ok {p:List Int} {c:Nat} (h:18≤p.length) (h1:1≤c) (hc:c≤64):splitS p (c:Int)=(noiseOf p,braidOf p,pieces (restOf p) (qOf p c) c,0):=by
 unfold splitS
 rw[if_neg (by omega),if_neg (by omega),Int.toNat_natCast]
theorem sz_fit {n c:Nat} (hn:n≤256) (h1:1≤c) (hc:c≤64) {ds:List Int} (h:Valid (bnd n) ds):∃ P,Good (sz n c) ds P:=by
 refine Good.exists (bnd_okD (sz_ok n c hn h1 hc) ?_)
 rw[sz_total n c h1,Int.toNat_natCast]
 exact h
theorem read_ev {p:List Int} (hp:Bytes p) (hl:p.length≤140737488351232) (n c:Nat) (hn:n≤256) (h1:1≤c) (hc:c≤64) :
  (∃ ds P own,Lay p n c ds P own∧Ev (fun k=>riffle_read.f k p n c) (noiseOf p,braidOf p,pieces (restOf p) (qOf p c) c,sz n c,(tab c fun j=>psum (sz n c) j),fsts P,allOff c P,own,0)) ∨
  ((¬ ∃ ds P own,Lay p n c ds P own)∧Ev (fun k=>riffle_read.f k p n c) ([],[],[],[],[],[],[],[],3)):=by
 by_cases h18:p.length<18
 ·refine .inr ⟨fun⟨_,_,_,h⟩=>by have:=h.long;omega,?_⟩
  unfold riffle_read.f
  refine ev_bind (sizes_good n c hn h1 hc) (ev_pos rfl (ev_bind (split_ev p c hl) ?_))
  unfold splitS
  rw[if_neg (by omega),if_pos h18]
  exact ev_neg (by decide) (Ev.now _)
 have hbl:=braid_le p
 have hD:=drw_fA (braidOf p) (bnd n) (bytes_braid hp) (by omega) (by rw[bnd_len];omega)
 have start:∀ R,Ev (fun k=>(if(drA (braidOf p) (bnd n)).2.2=0 then(riffle_read.l0 k ([]:List (List Int)) (drA (braidOf p) (bnd n)).1 0 (sz n c) ((sz n c).length:Int) 0 (noiseOf p) (braidOf p) (pieces (restOf p) (qOf p c) c) (sz n c) ([]:List Int)) else(some (([]:List Int),([]:List Int),([]:List (List Int)),([]:List Int),([]:List Int),([]:List Int),([]:List Int),([]:List (List Int)),(drA (braidOf p) (bnd n)).2.2)))) R→Ev (fun k=>riffle_read.f k p n c) R:=by
  intro R hR
  unfold riffle_read.f
  refine ev_bind (sizes_good n c hn h1 hc) (ev_pos rfl (ev_bind (split_ev p c hl) ?_))
  rw[splitS_ok (by omega) h1 hc]
  exact ev_pos rfl (ev_bind (bounds_good n hn) (ev_bind0 hD hR))
 cases hd:dr (braidOf p) (bnd n) 0 with
 | none =>
  refine .inr ⟨fun⟨_,_,_,h⟩=>?_,start _ ?_⟩
  ·obtain⟨u,hu⟩:=h.draws
   rw[hd] at hu
   exact absurd hu (by simp)
  ·rw[drA_none (bnd_ok n hn) hd]
   exact ev_neg (by decide) (Ev.now _)
 | some r =>
  obtain⟨ds,u⟩:=r
  have hv:=dr_valid _ (bytes_braid hp) (bnd n) 0 (bnd_ok n hn) (by omega) _ hd
  obtain⟨P,g⟩:=sz_fit hn h1 hc hv
  have key:=read_loop hp hl n c hn h1 hc ds (R:=fun own=>(noiseOf p,braidOf p,pieces (restOf p) (qOf p c) c,sz n c,(tab c fun j=>psum (sz n c) j),fsts P,allOff c P,own,0))
   (fun own _=>ev_bind g.pattern (ev_some (by rw[sz_len]))) c 0 [] (by omega) rfl rfl
  have key':=start _ (by
   rw[drA_some (bnd_ok n hn) hd,sz_len]
   exact ev_pos rfl key)
  cases ho:permsG (fun j=>permOf (piece (restOf p) (qOf p c) j) (szf n c j)) c 0 [] with
  | none =>
   rw[ho] at key'
   refine .inr ⟨fun⟨_,_,_,h⟩=>?_,key'⟩
   have:=h.owns
   rw[ho] at this
   exact absurd this (by simp)
  | some own =>
   rw[ho] at key'
   exact .inl ⟨ds,P,own,⟨by omega,hn,h1,hc,⟨u,hd⟩,g,ho⟩,key'⟩
end Go.Proofs.Ytbnifpfnjhdenaa.Pl
end
section
set_option linter.unusedVariables false
set_option linter.unusedSimpArgs false
namespace Go.Proofs.Ytbnifpfnjhdenaa.Pl
open Go.RowKit Go.Proofs.Ytbnifpfnjhdenaa.Q Go.Proofs.YtbnifpfnjhdenaaW.PrintWords Go.Proofs.YtbnifpfnjhdenaaW.PrintLast Go.Proofs.Ytbnifpfnjhdenaa.Pure
def ordAt (C:List Nat) (p:Nat→Int) (own:List (List Int)) (i:Nat):Int:=p (C.getD i 0)+rd (own.getD (C.getD i 0) []) (cn C (C.getD i 0) i:Int)
def ordL (C:List Nat) (p:Nat→Int) (own:List (List Int)):List Int:=tab C.length (ordAt C p own)
theorem ordL_len (C:List Nat) (p:Nat→Int) (own:List (List Int)):(ordL C p own).length=C.length:=tab_len _ _
theorem ordL_rd (C:List Nat) (p:Nat→Int) (own:List (List Int)) (i:Nat) (h:i<C.length):rd (ordL C p own) (i:Int)=ordAt C p own i:=tab_rd _ _ i h
theorem vis_cnt (j:Nat) (P:List (Nat×Int)):(vis j P).length=(P.map (·.1)).count j:=by
 unfold vis
 rw[List.length_map,←List.countP_eq_length_filter,List.count_eq_countP,List.countP_map]
 rfl
theorem fsts_int (P:List (Nat×Int)):fsts P=ints (P.map (·.1)):=by simp[fsts,ints]
theorem cn_get (C:List Nat) (i:Nat) (h:i<C.length):C.getD i 0=C[i]:=by rw[List.getD_eq_getElem?_getD,List.getElem?_eq_getElem h,Option.getD_some]
structure PatC (C:List Nat) (n c:Nat):Prop where
 len:C.length=n
 lt:∀ j ∈ C,j<c
 cnt:∀ j,j<c→C.count j=szf n c j
theorem Good.patC {n c:Nat} {ds:List Int} {P:List (Nat×Int)} (h1:1≤c) (g:Good (sz n c) ds P):PatC (P.map (·.1)) n c:=by
 have hle:=g.le
 have hl:=g.len
 rw[sz_total n c h1] at hl
 refine⟨by rw[List.length_map];omega,fun j hj=>?_,fun j hj=>?_⟩
 ·obtain⟨x,hx,rfl⟩:=List.mem_map.1 hj
  have:=g.pat.range x hx
  rwa [sz_len] at this
 ·have:=g.pat.count g.sizes.nonneg g.len.symm j (by rw[sz_len];exact hj)
  rw[←vis_cnt]
  have e:(sz n c).getD j 0=(szf n c j:Int):=by rw[←rd_nat,sz_rd n c j hj]
  omega
theorem PatC.at_ {C:List Nat} {n c:Nat} (h:PatC C n c) (i:Nat) (hi:i<n):C.getD i 0<c∧cn C (C.getD i 0) i<szf n c (C.getD i 0):=by
 have hl:=h.len
 rw[cn_get C i (by omega)]
 have h1:=h.lt _ (List.getElem_mem (show i<C.length by omega))
 have h2:=cn_lt C i (by omega)
 rw[h.cnt _ h1] at h2
 exact⟨h1,h2⟩
theorem ordAt_bounds {p:List Int} (hp:Bytes p) {n c:Nat} {ds:List Int} {P:List (Nat×Int)} {own:List (List Int)} (h:Lay p n c ds P own) (i:Nat) (hi:i<n) :
  ∃ o:Int,ordAt (P.map (·.1)) (psum (sz n c)) own i=psum (sz n c) ((P.map (·.1)).getD i 0)+o∧rd (own.getD ((P.map (·.1)).getD i 0) []) (cn (P.map (·.1)) ((P.map (·.1)).getD i 0) i:Int)=o∧0≤o∧o<szf n c ((P.map (·.1)).getD i 0):=by
 obtain⟨h1,h2⟩:=(h.good.patC h.one).at_ i hi
 obtain⟨_,w⟩:=h.own hp
 obtain⟨_,w2,w3⟩:=w _ h1
 have:=fits_rd w3 _ (by rw[w2];exact h2)
 rw[w2] at this
 exact⟨_,rfl,rfl,this.1,this.2⟩
theorem Lay.lens {p:List Int} {n c:Nat} {ds:List Int} {P:List (Nat×Int)} {own:List (List Int)} (h:Lay p n c ds P own):P.length=n∧(P.map (·.1)).length=n∧ds.length=n:=by
 have:=(h.good.patC h.one).len
 have hle:=h.good.le
 rw[List.length_map] at this
 exact⟨this,by rw[List.length_map];exact this,by omega⟩
theorem order_loop {p:List Int} (hp:Bytes p) {n c:Nat} {ds:List Int} {P:List (Nat×Int)} {own:List (List Int)} (h:Lay p n c ds P own) (y0 y1:List Int) (y2:List (List Int)) (y3:List Int) :
  ∀ (d i:Nat),i+d=n→Ev (fun k=>riffle_Order.l0 k own (tab c fun j=>(cn (P.map (·.1)) j i:Int)) (tab n fun t=>if t<i then ordAt (P.map (·.1)) (psum (sz n c)) own t else 0) (fsts P) ((fsts P).length:Int) (i:Int) y0 y1 y2 y3 (tab c fun j=>psum (sz n c) j))
   (ordL (P.map (·.1)) (psum (sz n c)) own,0):=by
 have hl:=h.lens
 have hC:=h.good.patC h.one
 have hown:=h.own hp
 have hfl:(fsts P).length=n:=by simp[fsts];exact hl.1
 have hcc:=h.chunks
 have hn:=h.most
 intro d
 induction d with
 | zero =>
  intro i hi
  obtain rfl:i=n:=by omega
  have e:(tab i fun t=>if t<i then ordAt (P.map (·.1)) (psum (sz i c)) own t else 0)=ordL (P.map (·.1)) (psum (sz i c)) own:=by
   unfold ordL
   rw[hl.2.1]
   exact tab_congr _ _ _ fun j hj=>by rw[if_pos hj]
  rw[e]
  exact Ev.step (f:=fun _=>some (ordL (P.map (·.1)) (psum (sz i c)) own,0)) (fun k=>by rw[riffle_Order.l0,if_neg (by omega)]) (Ev.now _)
 | succ d ih =>
  intro i hi
  have hin:i<n:=by omega
  obtain⟨c1,c2⟩:=hC.at_ i hin
  obtain⟨o,e1,r1,o0,o1⟩:=ordAt_bounds hp h i hin
  obtain⟨_,w2,w3⟩:=hown.2 _ c1
  have hr:rd (fsts P) (i:Int)=(((P.map (·.1)).getD i 0:Nat):Int):=by
   rw[fsts_int,ints_rd _ i (by omega),cn_get _ i (by omega)]
  have hcs:∀ j,cn (P.map (·.1)) j (i+1)=cn (P.map (·.1)) j i+if j=(P.map (·.1)).getD i 0 then 1 else 0:=fun j=>by
   rw[cn_succ _ j i (by omega),cn_get _ i (by omega)]
  generalize hj:(P.map (·.1)).getD i 0=j at *
  have t1:=tab_len c fun j=>(cn (P.map (·.1)) j i:Int)
  have t2:=tab_len c fun j=>psum (sz n c) j
  have t3:=tab_len n fun t=>if t<i then ordAt (P.map (·.1)) (psum (sz n c)) own t else 0
  have g1:rd (tab c fun j=>(cn (P.map (·.1)) j i:Int)) (j:Int)=(cn (P.map (·.1)) j i:Int):=tab_rd _ _ j c1
  have g2:rd (tab c fun j=>psum (sz n c) j) (j:Int)=psum (sz n c) j:=tab_rd _ _ j c1
  have pb:=sz_bounds n c j h.most h.one h.chunks
  have sl:=szf_le n c j h.most h.one
  have ho:rd_L3 own (j:Int)=own.getD j []:=rfl
  have hcl:=cn_len (P.map (·.1)) j i
  refine Ev.step (fun k=>?_) (ih (i+1) (by omega))
  rw[riffle_Order.l0,if_pos (by omega),if_pos (by omega),if_pos (by omega),hr,if_pos (by omega),if_pos (by omega),if_pos (by omega),if_pos (by omega),g1,if_pos (by omega),ho,if_pos (by omega),if_pos (by omega),g2,r1,Int.toNat_natCast,Int.toNat_natCast,w64 (x:=(cn (P.map (·.1)) j i:Int)+1) (by omega) (by omega),w64 (x:=psum (sz n c) j+o) (by omega) (by omega),w64 (x:=(i:Int)+1) (by omega) (by omega),tab_set,tab_set,←e1]
  have q1:(tab c fun t=>if t=j then(cn (P.map (·.1)) j i:Int)+1 else(cn (P.map (·.1)) t i:Int))=tab c fun j=>(cn (P.map (·.1)) j (i+1):Int):=tab_congr _ _ _ fun t ht=>by
   rw[hcs t]
   by_cases e:t=j
   ·rw[if_pos e,if_pos e,e];omega
   ·rw[if_neg e,if_neg e];omega
  have q2:(tab n fun t=>if t=i then ordAt (P.map (·.1)) (psum (sz n c)) own i else if t<i then ordAt (P.map (·.1)) (psum (sz n c)) own t else 0)=tab n fun t=>if t<i+1 then ordAt (P.map (·.1)) (psum (sz n c)) own t else 0:=tab_congr _ _ _ fun t ht=>by
   by_cases e:t=i
   ·rw[if_pos e,if_pos (by omega),e]
   ·rw[if_neg e]
    by_cases e2:t<i
    ·rw[if_pos e2,if_pos (by omega)]
    ·rw[if_neg e2,if_neg (by omega)]
  rw[q1,q2]
  rfl
theorem tab_zero (n:Nat):List.replicate n (0:Int)=tab n fun _=>0:=by
 apply List.ext_getElem
 ·simp[tab]
 ·intro i h1 h2;simp[tab]
theorem Lay.order {p:List Int} (hp:Bytes p) {n c:Nat} {ds:List Int} {P:List (Nat×Int)} {own:List (List Int)} (h:Lay p n c ds P own)
  (hr:Ev (fun k=>riffle_read.f k p n c) (noiseOf p,braidOf p,pieces (restOf p) (qOf p c) c,sz n c,(tab c fun j=>psum (sz n c) j),fsts P,allOff c P,own,0)):Ev (fun k=>riffle_Order.f k p n c) (ordL (P.map (·.1)) (psum (sz n c)) own,0):=by
 unfold riffle_Order.f
 have hz:=sz_len n c
 have hn:=h.most
 have hc:=h.chunks
 refine ev_bind hr (ev_pos rfl (ev_pos (show(0:Int)≤((sz n c).length:Int) by omega) (ev_pos (show(((sz n c).length:Int):Int).toNat≤35184372088832 by omega) (ev_pos (show(0:Int)≤(n:Int) by omega) (ev_pos (show((n:Int):Int).toNat≤35184372088832 by omega) ?_)))))
 have:=order_loop hp h (noiseOf p) (braidOf p) (pieces (restOf p) (qOf p c) c) (sz n c) n 0 (by omega)
 rw[hz,Int.toNat_natCast,Int.toNat_natCast,tab_zero,tab_zero]
 have e1:(tab c fun j=>(cn (P.map (·.1)) j 0:Int))=tab c fun _=>0:=tab_congr _ _ _ fun j _=>by rw[cn_zero];rfl
 have e2:(tab n fun t=>if t<0 then ordAt (P.map (·.1)) (psum (sz n c)) own t else 0)=tab n fun _=>0:=tab_congr _ _ _ fun j _=>by rw[if_neg (by omega)]
 rw[e1,e2] at this
 exact this
theorem order_ev {p:List Int} (hp:Bytes p) (hl:p.length≤140737488351232) (n c:Nat) (hn:n≤256) (h1:1≤c) (hc:c≤64) :
  (∃ ds P own,Lay p n c ds P own∧Ev (fun k=>riffle_Order.f k p n c) (ordL (P.map (·.1)) (psum (sz n c)) own,0)) ∨
  ((¬ ∃ ds P own,Lay p n c ds P own)∧Ev (fun k=>riffle_Order.f k p n c) ([],3)):=by
 rcases read_ev hp hl n c hn h1 hc with⟨ds,P,own,h,e⟩|⟨h,e⟩
 ·exact .inl ⟨ds,P,own,h,h.order hp e⟩
 ·refine .inr ⟨h,?_⟩
  unfold riffle_Order.f
  exact ev_bind e (ev_neg (by decide) (Ev.now _))
theorem Lay.same {p:List Int} {n c:Nat} {ds es:List Int} {P Q:List (Nat×Int)} {own won:List (List Int)} (h:Lay p n c ds P own) (h':Lay p n c es Q won):ds=es∧P=Q∧own=won:=by
 obtain⟨u,hu⟩:=h.draws
 obtain⟨v,hv⟩:=h'.draws
 rw[hu] at hv
 simp only[Option.some.injEq,Prod.mk.injEq] at hv
 have e:=h.owns
 rw[h'.owns] at e
 exact⟨hv.1,h.good.same h'.good hv.1,(Option.some.inj e).symm⟩
end Go.Proofs.Ytbnifpfnjhdenaa.Pl
end
section
set_option linter.unusedVariables false
set_option linter.unusedSimpArgs false
namespace Go.Proofs.Ytbnifpfnjhdenaa.Pure
open Go.RowKit Go.Proofs.Ytbnifpfnjhdenaa.Q Go.Proofs.YtbnifpfnjhdenaaW.PrintWords Go.Proofs.YtbnifpfnjhdenaaW.PrintLast Go.Proofs.Ytbnifpfnjhdenaa.Pl
theorem alive13:Ev (fun k=>churnlaw13_alive.f k) true:=Ev.of (fun k=>churnlaw13_alive.mono k) (k:=60) (by decide +kernel)
end Go.Proofs.Ytbnifpfnjhdenaa.Pure
end
section
set_option linter.unusedVariables false
set_option linter.unusedSimpArgs false
namespace Go.Proofs.Ytbnifpfnjhdenaa.Pure
open Go.RowKit Go.Proofs.Ytbnifpfnjhdenaa.Q Go.Proofs.YtbnifpfnjhdenaaW.PrintWords Go.Proofs.YtbnifpfnjhdenaaW.PrintLast Go.Proofs.Ytbnifpfnjhdenaa.Pl
theorem lay_of {p:List Int} (hp:Bytes p) {n c:Nat} (h:18≤p.length) (hn:n≤256) (h1:1≤c) (hc:c≤64) (hd:(dr (braidOf p) (bnd n) 0).isSome=true) (ho:(permsG (fun j=>permOf (piece (restOf p) (qOf p c) j) (szf n c j)) c 0 []).isSome=true):∃ ds P own,Lay p n c ds P own:=by
 obtain⟨⟨ds,u⟩,hd⟩:=Option.isSome_iff_exists.1 hd
 obtain⟨own,ho⟩:=Option.isSome_iff_exists.1 ho
 have hv:=dr_valid _ (bytes_braid hp) (bnd n) 0 (bnd_ok n hn) (by omega) _ hd
 obtain⟨P,g⟩:=sz_fit hn h1 hc hv
 exact⟨ds,P,own,h,hn,h1,hc,⟨u,hd⟩,g,ho⟩
end Go.Proofs.Ytbnifpfnjhdenaa.Pure
end
section
set_option linter.unusedVariables false
set_option linter.unusedSimpArgs false
namespace Go.Proofs.Ytbnifpfnjhdenaa.Pure
open Go.RowKit Go.Proofs.Ytbnifpfnjhdenaa.Q Go.Proofs.YtbnifpfnjhdenaaW.PrintWords Go.Proofs.YtbnifpfnjhdenaaW.PrintLast Go.Proofs.Ytbnifpfnjhdenaa.Pl
theorem order_atC {p:List Int} (hp:Bytes p) (hl:p.length≤140737488351232) {n c:Nat} {ds:List Int} {P:List (Nat×Int)} {own:List (List Int)} (h:Lay p n c ds P own):Ev (fun k=>riffle_Order.f k p n c) (ordL (P.map (·.1)) (psum (sz n c)) own,0):=by
 rcases order_ev hp hl n c h.most h.one h.chunks with⟨ds',P',own',h',e⟩|⟨hn,_⟩
 ·obtain⟨rfl,rfl,rfl⟩:=h.same h'
  exact e
 ·exact absurd ⟨ds,P,own,h⟩ hn
theorem rd_one (z:Int):rd [z] 0=z:=rfl
theorem rcCnt_congr (f g:Nat→List Int) (n:Nat) (h:∀ v,v<n→rd (f v) 0=rd (g v) 0):rcCnt f n=rcCnt g n:=by
 induction n with
 | zero=>rfl
 | succ n ih=>rw[rcCnt,rcCnt,ih (fun v hv=>h v (by omega)),h n (by omega)]
theorem two_parts (ys:List Int) (a b:Int) (h:ys.length=18):braidOf (ys ++ [a,b])=[a]∧restOf (ys ++ [a,b])=[b]∧qOf (ys ++ [a,b]) 1=1∧qOf (ys ++ [a,b]) 2=0∧(ys ++ [a,b]).length=20:=by
 have e:(ys ++ [a,b]).drop 18=[a,b]:=by rw[List.drop_append_of_le_length (by omega),List.drop_of_length_le (by omega)];rfl
 have l:(ys ++ [a,b]).length=20:=by simp[h]
 have r:restOf (ys ++ [a,b])=[b]:=by unfold restOf;rw[e,l];rfl
 exact⟨by unfold braidOf;rw[e,l];rfl,r,by unfold qOf;rw[r];simp,by unfold qOf;rw[r];simp,l⟩
def own1 (v:Int):Option (List (List Int)):=permsG (fun j=>permOf (piece [v] 1 j) (szf 2 1 j)) 1 0 []
theorem own1_all:∀ v:Fin 256,(own1 (v.val:Int)).isSome=true:=by decide +kernel
theorem own1_cnt:rcCnt (fun v=>((own1 (v:Int)).getD []).getD 0 []) 256=128:=by decide +kernel
theorem draw_all2:∀ v:Fin 256,(dr [(v.val:Int)] (bnd 2) 0).isSome=true:=by decide +kernel
def fst1 (v:Int):Int:=rd ((dr [v] (bnd 2) 0).getD ([],0)).1 0
theorem fst1_cnt:rcCnt (fun v=>[fst1 (v:Int)]) 256=128:=by decide +kernel
theorem own2 (x:Int):permsG (fun j=>permOf (piece [x] 0 j) (szf 2 2 j)) 2 0 []=some [[0],[0]]:=by
 have e:(fun j=>permOf (piece [x] 0 j) (szf 2 2 j))=fun j=>permOf [] (szf 2 2 j):=by funext j;simp[piece]
 rw[e]
 decide +kernel
theorem byte_of {f:Int→Prop} (h:∀ v:Fin 256,f (v.val:Int)) (x:Int) (h0:0≤x∧x≤255):f x:=by
 have:=h ⟨x.toNat,by omega⟩
 have e:((x.toNat:Nat):Int)=x:=by omega
 simpa [e] using this
theorem ord_first {p:List Int} {n c:Nat} {ds:List Int} {P:List (Nat×Int)} {own:List (List Int)} (h:Lay p n c ds P own) (hn:0<n) :
  rd (ordL (P.map (·.1)) (psum (sz n c)) own) 0=psum (sz n c) ((P.map (·.1)).getD 0 0)+rd (own.getD ((P.map (·.1)).getD 0 0) []) 0:=by
 have:=ordL_rd (P.map (·.1)) (psum (sz n c)) own 0 (by rw[h.lens.2.1];exact hn)
 rw[show((0:Nat):Int)=0 from rfl] at this
 rw[this,ordAt,cn_zero]
 rfl
theorem RiffleCounts (x:Int) (ys:List Int) (hx:0≤x∧x≤255) (hy:Bytes ys) (hl:ys.length=18):RcTold ys x:=by
 refine⟨Ev.rounds alive13,fun way hway=>?_⟩
 have key:∀ v:Nat,v<256→∃ o:List Int,o.length=2∧(∃ k,riffle_Order.f k (rcTape ys x way v) 2 (1+(way:Int))=some (o,0))∧rd o 0=if way=1 then fst1 (v:Int) else rd (((own1 (v:Int)).getD []).getD 0 []) 0:=by
  intro v hv
  have bv:0≤(v:Int)∧(v:Int)≤255:=by omega
  obtain rfl|rfl:way=0∨way=1:=by omega
  ·have e:rcTape ys x 0 v=ys ++ [x,(v:Int)]:=rfl
   obtain⟨t1,t2,t3,-,t5⟩:=two_parts ys x (v:Int) hl
   have hp:Bytes (ys ++ [x,(v:Int)]):=fun z hz=>by
    rcases List.mem_append.1 hz with h|h
    ·exact hy z h
    ·simp only[List.mem_cons,List.not_mem_nil,or_false] at h
     rcases h with rfl|rfl
     ·exact hx
     ·exact bv
   obtain⟨ds,P,own,h⟩:=lay_of (p:=ys ++ [x,(v:Int)]) hp (n:=2) (c:=1) (by omega) (by omega) (by omega) (by omega) (by rw[t1];exact byte_of (f:=fun z=>(dr [z] (bnd 2) 0).isSome=true) draw_all2 x hx) (by rw[t2,t3];exact byte_of (f:=fun z=>(own1 z).isSome=true) own1_all _ bv)
   rw[e]
   refine⟨_,?_,Ev.rounds (order_atC hp (by omega) h),?_⟩
   ·rw[ordL_len];exact h.lens.2.1
   ·rw[ord_first h (by omega),if_neg (by omega)]
    have hc:=(h.good.patC (by omega)).at_ 0 (by omega)
    have h0:(P.map (·.1)).getD 0 0=0:=by omega
    rw[h0]
    have ho:=h.owns
    rw[t2,t3] at ho
    have ho:own1 (v:Int)=some own:=ho
    rw[ho,Option.getD_some]
    simp[psum,total]
  ·have e:rcTape ys x 1 v=ys ++ [(v:Int),x]:=rfl
   obtain⟨t1,t2,-,t4,t5⟩:=two_parts ys (v:Int) x hl
   have hp:Bytes (ys ++ [(v:Int),x]):=fun z hz=>by
    rcases List.mem_append.1 hz with h|h
    ·exact hy z h
    ·simp only[List.mem_cons,List.not_mem_nil,or_false] at h
     rcases h with rfl|rfl
     ·exact bv
     ·exact hx
   obtain⟨ds,P,own,h⟩:=lay_of (p:=ys ++ [(v:Int),x]) hp (n:=2) (c:=2) (by omega) (by omega) (by omega) (by omega) (by rw[t1];exact byte_of (f:=fun z=>(dr [z] (bnd 2) 0).isSome=true) draw_all2 _ bv) (by rw[t2,t4,own2];rfl)
   rw[e]
   refine⟨_,?_,Ev.rounds (order_atC hp (by omega) h),?_⟩
   ·rw[ordL_len];exact h.lens.2.1
   ·rw[ord_first h (by omega),if_pos rfl]
    have ho:=h.owns
    rw[t2,t4,own2] at ho
    injection ho with ho
    obtain⟨u,hd⟩:=h.draws
    rw[t1] at hd
    have hf:fst1 (v:Int)=rd ds 0:=by unfold fst1;rw[hd];rfl
    rw[hf,←ho]
    have hP:=h.good.pat
    have hlen:=h.lens.2.2
    cases hP with
    | nil=>simp at hlen
    | @cons _ ds' P' d o j hj h0 h1 hd' t =>
     have hj2:j<2:=hj
     have hsz:sz 2 2=[1,1]:=by decide
     simp only[List.map_cons,List.getD_cons_zero]
     rw[show rd (d ::ds') 0=d from rfl]
     obtain rfl|rfl:j=0∨j=1:=by omega
     ·have h1:o<1:=by simpa [hsz] using h1
      simp only[List.getD_cons_zero]
      rw[show rd [0] 0=0 from rfl]
      omega
     ·have h1:o<1:=by simpa [hsz] using h1
      simp only[List.getD_cons_succ,List.getD_cons_zero]
      rw[show rd [0] 0=0 from rfl]
      omega
 have key2:∀ v:Nat,∃ o:List Int,v<256→o.length=2∧(∃ k,riffle_Order.f k (rcTape ys x way v) 2 (1+(way:Int))=some (o,0))∧rd o 0=if way=1 then fst1 (v:Int) else rd (((own1 (v:Int)).getD []).getD 0 []) 0:=by
  intro v
  by_cases hv:v<256
  ·obtain⟨o,h⟩:=key v hv
   exact⟨o,fun _=>h⟩
  ·exact⟨[],fun h=>absurd h hv⟩
 obtain⟨os,hos⟩:=Classical.axiomOfChoice key2
 refine⟨os,?_,fun v hv=>⟨(hos v hv).1,(hos v hv).2.1⟩⟩
 obtain rfl|rfl:way=0∨way=1:=by omega
 ·rw[rcCnt_congr os (fun v=>((own1 (v:Int)).getD []).getD 0 []) 256 (fun v hv=>(hos v hv).2.2.trans (if_neg (by omega)))]
  exact own1_cnt
 ·rw[rcCnt_congr os (fun v=>[fst1 (v:Int)]) 256 (fun v hv=>((hos v hv).2.2.trans (if_pos rfl)).trans (rd_one _).symm)]
  exact fst1_cnt
end Go.Proofs.Ytbnifpfnjhdenaa.Pure
end
