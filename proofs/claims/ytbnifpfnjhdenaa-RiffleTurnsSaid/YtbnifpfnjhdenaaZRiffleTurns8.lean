/- Functions of the program as plain Lean functions, each with a proof that its call comes to just these answers, and the row that joins them to the given statement; no condition beside the statement's own. Written for this claim by this session's programs (pf.py, pack.py) over the kit's print. -/
import Derived.Test.YtbnifpfnjhdenaaZRiffleTurns0
import Derived.Test.YtbnifpfnjhdenaaZRiffleTurns1
import Derived.Test.YtbnifpfnjhdenaaZRiffleTurns2
import Derived.Test.YtbnifpfnjhdenaaZRiffleTurns3
import Derived.Test.YtbnifpfnjhdenaaZRiffleTurns4
import Derived.Test.YtbnifpfnjhdenaaZRiffleTurns5
import Derived.Test.YtbnifpfnjhdenaaZRiffleTurns6
import Derived.Test.YtbnifpfnjhdenaaZRiffleTurns7
section
set_option linter.unusedVariables false
set_option linter.unusedSimpArgs false
namespace Go.Proofs.Ytbnifpfnjhdenaa.Pl
open Go.RowKit Go.Proofs.Ytbnifpfnjhdenaa.Q Go.Proofs.YtbnifpfnjhdenaaW.PrintWords Go.Proofs.YtbnifpfnjhdenaaW.PrintLast Go.Proofs.Ytbnifpfnjhdenaa.Pure
theorem anyOk' {bs:List Int} (h:AllOk bs):¬ (bs.any fun b => !okBound b)=true:=by
 intro hc
 obtain⟨b,hb,e⟩:=List.any_eq_true.1 hc
 have:=h b hb
 rw[okBound_of b this.1 this.2] at e
 exact absurd e (by decide)
theorem drA_some {p bs:List Int} (h:AllOk bs) {r:List Int×Nat} (e:dr p bs 0=some r):drA p bs=(r.1,(r.2:Int),0):=by
 unfold drA
 rw[if_neg (anyOk' h),e]
theorem drA_none {p bs:List Int} (h:AllOk bs) (e:dr p bs 0=none):drA p bs=([],0,3):=by
 unfold drA
 rw[if_neg (anyOk' h),e]
theorem drw_fA (p bs:List Int) (hp:Bytes p) (hl:p.length≤140737488351232) (hbl:bs.length≤17592186043904):draw_All.f p bs=some (drA p bs):=by
 rw[drw_all_f p bs hp hl hbl,allA_dr]
theorem boundsL_ok:∀ n:Nat,n≤256→AllOk (boundsL n)
 | 0,_=>fun b hb=>by simp[boundsL] at hb
 | 1,_=>fun b hb=>by simp[boundsL] at hb
 | n+2,h=>fun b hb=>by
  rw[boundsL] at hb
  rcases List.mem_cons.1 hb with rfl|hb
  ·omega
  ·exact boundsL_ok (n+1) (by omega) b hb
theorem bnd_len (n:Nat):(bnd n).length=n:=tab_len _ _
theorem bnd_rd (n i:Nat) (h:i<n):rd (bnd n) (i:Int)=(n:Int)-i:=tab_rd _ _ i h
theorem bnd_ok (n:Nat) (h:n≤256):AllOk (bnd n):=by
 intro b hb
 obtain⟨i,hi,rfl⟩:=List.mem_map.1 hb
 have:=List.mem_range.1 hi
 omega
theorem rd_cons (x:Int) (xs:List Int) (i:Nat):rd (x ::xs) ((i+1:Nat):Int)=rd xs (i:Int):=by rw[rd_nat,rd_nat,List.getD_cons_succ]
theorem valid_rd:∀ (bs ws:List Int),Valid bs ws→ws.length=bs.length∧∀ i:Nat,i<bs.length→0≤rd ws (i:Int)∧rd ws (i:Int)<rd bs (i:Int)
 | [],[],_=>⟨rfl,fun i h=>by simp at h⟩
 | b ::bs,w ::ws,h=>by
  obtain⟨h1,h2⟩:=valid_rd bs ws h.2.2
  refine⟨by simp[h1],fun i hi=>?_⟩
  cases i with
  | zero=>exact⟨h.1,h.2.1⟩
  | succ i=>rw[rd_cons,rd_cons];exact h2 i (by simpa using hi)
 | [],_ ::_,h=>h.elim
 | _ ::_,[],h=>h.elim
theorem rd_valid:∀ (bs ws:List Int),ws.length=bs.length→(∀ i:Nat,i<bs.length→0≤rd ws (i:Int)∧rd ws (i:Int)<rd bs (i:Int))→Valid bs ws
 | [],[],_,_=>trivial
 | b ::bs,w ::ws,hl,h=>by
  have h0:=h 0 (by simp)
  refine⟨h0.1,h0.2,rd_valid bs ws (by simpa using hl) fun i hi=>?_⟩
  have:=h (i+1) (by simpa using hi)
  rwa [rd_cons,rd_cons] at this
 | [],_ ::_,hl,_=>by simp at hl
 | _ ::_,[],hl,_=>by simp at hl
theorem boundsL_fit {s:Nat} {ws:List Int} (h:Valid (boundsL s) ws):ws.length=s-1∧FitD (s:Int) ws:=by
 obtain⟨h1,h2⟩:=valid_rd _ _ h
 rw[boundsL_len] at h1 h2
 refine⟨h1,fun k hk=>?_⟩
 have:=h2 k (by omega)
 rw[boundsL_at s k (by omega)] at this
 exact this
theorem fit_boundsL {s:Nat} {ws:List Int} (h1:ws.length=s-1) (h:FitD (s:Int) ws):Valid (boundsL s) ws:=by
 refine rd_valid _ _ (by rw[boundsL_len];exact h1) fun k hk=>?_
 rw[boundsL_len] at hk
 rw[boundsL_at s k (by omega)]
 exact h k (by omega)
theorem bnd_okD {s ws:List Int} (hs:OkS s) (h:Valid (bnd (total s).toNat) ws):OkD s ws:=by
 obtain⟨h1,h2⟩:=valid_rd _ _ h
 have h0:=total_nonneg hs.nonneg
 rw[bnd_len] at h1 h2
 refine⟨hs,by omega,fun t ht=>?_⟩
 have:=h2 t (by omega)
 rw[bnd_rd _ t (by omega),rd_lt ws t ht] at this
 omega
theorem okD_bnd {s ws:List Int} (h:OkD s ws):Valid (bnd (total s).toNat) ws:=by
 have h1:=h.2.1
 refine rd_valid _ _ (by rw[bnd_len];omega) fun k hk=>?_
 rw[bnd_len] at hk
 have:=h.2.2 k (by omega)
 rw[bnd_rd _ k hk,rd_lt ws k (by omega)]
 omega
def permOf (l:List Int) (s:Nat):Option (List Int):=(dr l (boundsL s) 0).map fun r=>fromL (iota s) (s-1) r.1
def permsG (f:Nat→Option (List Int)):Nat→Nat→List (List Int)→Option (List (List Int))
 | 0,_,L=>some L
 | d+1,j,L=>(f j).bind fun q=>permsG f d (j+1) (L ++ [q])
theorem permsG_some (f:Nat→Option (List Int)):∀ (d j:Nat) (L own:List (List Int)),L.length=j→permsG f d j L=some own →
  own.length=j+d∧(∀ i,i<j→own[i]? = L[i]?)∧∀ i,j≤i→i<j+d→own[i]? = f i:=by
 intro d
 induction d with
 | zero =>
  intro j L own hL h
  obtain rfl:=Option.some.inj h
  exact⟨by omega,fun i _=>rfl,fun i h1 h2=>by omega⟩
 | succ d ih =>
  intro j L own hL h
  rw[permsG] at h
  obtain⟨q,hq,h⟩:=Option.bind_eq_some_iff.1 h
  obtain⟨h1,h2,h3⟩:=ih (j+1) (L ++ [q]) own (by simp[hL]) h
  refine⟨by omega,fun i hi=>?_,fun i hi1 hi2=>?_⟩
  ·rw[h2 i (by omega),List.getElem?_append_left (by omega)]
  ·by_cases e:i=j
   ·subst e
    rw[h2 i (by omega),List.getElem?_append_right (by omega),hL,hq]
    simp
   ·exact h3 i (by omega) (by omega)
theorem permOf_fits {l:List Int} (hl:Bytes l) {s:Nat} (hs:s≤256) {q:List Int} (h:permOf l s=some q):q.length=s∧Fits q∧∃ ds u,dr l (boundsL s) 0=some (ds,u)∧Valid (boundsL s) ds∧fromL (iota s) (s-1) ds=q∧drawsL q (iota s) (s-1)=ds:=by
 unfold permOf at h
 obtain⟨⟨ds,u⟩,h1,rfl⟩:=Option.map_eq_some_iff.1 h
 have hv:=dr_valid l hl (boundsL s) 0 (boundsL_ok s hs) (by omega) _ h1
 simp only at hv
 obtain⟨f1,f2⟩:=boundsL_fit hv
 simp only[fromL_len,iota_len]
 by_cases h0:s=0
 ·subst h0
  obtain rfl:=List.eq_nil_of_length_eq_zero f1
  exact⟨trivial,⟨by simp[fromL,iota],by simp[fromL,iota]⟩,[],u,h1,hv,rfl,rfl⟩
 ·have:=draws_from (s-1) ds (iota s) f1 (by rw[show((s-1:Nat):Int)+1=(s:Int) by omega];exact f2) (fits_iota _) (by rw[iota_len];omega)
  exact⟨trivial,this.1,ds,u,h1,hv,rfl,this.2.2⟩
structure Lay (p:List Int) (n c:Nat) (ds:List Int) (P:List (Nat×Int)) (own:List (List Int)):Prop where
 long:18≤p.length
 most:n≤256
 one:1≤c
 chunks:c≤64
 draws:∃ u,dr (braidOf p) (bnd n) 0=some (ds,u)
 good:Good (sz n c) ds P
 owns:permsG (fun j=>permOf (piece (restOf p) (qOf p c) j) (szf n c j)) c 0 []=some own
theorem bytes_sub {p q:List Int} (h:Bytes p) (hs:q.Sublist p):Bytes q:=fun x hx=>h x (hs.subset hx)
theorem bytes_braid {p:List Int} (h:Bytes p):Bytes (braidOf p):=bytes_sub h ((List.take_sublist _ _).trans (List.drop_sublist _ _))
theorem bytes_rest {p:List Int} (h:Bytes p):Bytes (restOf p):=bytes_sub h ((List.drop_sublist _ _).trans (List.drop_sublist _ _))
theorem bytes_piece {p:List Int} (h:Bytes p) (q j:Nat):Bytes (piece (restOf p) q j):=bytes_sub (bytes_rest h) ((List.drop_sublist _ _).trans (List.take_sublist _ _))
theorem braid_le (p:List Int):(braidOf p).length≤p.length:=by unfold braidOf;rw[List.length_take,List.length_drop];omega
theorem piece_le (p:List Int) (q j:Nat):(piece (restOf p) q j).length≤p.length:=by
 unfold piece restOf
 rw[List.length_drop,List.length_take,List.length_drop,List.length_drop]
 omega
theorem pieces_rd (l:List Int) (q c j:Nat) (h:j<c):(pieces l q c).getD j []=piece l q j:=by simp[pieces,h]
theorem pieces_len (l:List Int) (q c:Nat):(pieces l q c).length=c:=by simp[pieces]
theorem Lay.own {p:List Int} (hp:Bytes p) {n c:Nat} {ds:List Int} {P:List (Nat×Int)} {own:List (List Int)} (h:Lay p n c ds P own) :
  own.length=c∧∀ j,j<c→permOf (piece (restOf p) (qOf p c) j) (szf n c j)=some (own.getD j [])∧(own.getD j []).length=szf n c j∧Fits (own.getD j []):=by
 obtain⟨h1,_,h3⟩:=permsG_some _ c 0 [] own rfl h.owns
 refine⟨by omega,fun j hj=>?_⟩
 have e:=h3 j (by omega) (by omega)
 have hj':j<own.length:=by omega
 have e2:own[j]? = some (own.getD j []):=by rw[List.getD_eq_getElem?_getD,List.getElem?_eq_getElem hj',Option.getD_some]
 rw[e2] at e
 obtain⟨f1,f2,_⟩:=permOf_fits (bytes_piece hp _ _) (szf_le n c j h.most h.one) e.symm
 exact⟨e.symm,f1,f2⟩
theorem perm_step_ok {l:List Int} (hl:Bytes l) (hle:l.length≤140737488351232) (s:Nat) (hs:s≤256) {q:List Int} (h:permOf l s=some q) :
  ∃ ds u,draw_All.f l (boundsL s)=some (ds,u,0)∧Ev (fun k=>perm_From.f k (s:Int) ds) (q,0):=by
 obtain⟨h1,h2,ds,u,h3,h4,h5,h6⟩:=permOf_fits hl hs h
 obtain⟨f1,f2⟩:=boundsL_fit h4
 refine⟨ds,(u:Int),?_,ev_to (from_ev (s:Int) ds (by omega) (by omega)) ?_⟩
 ·rw[drw_fA l _ hl hle (by rw[boundsL_len];omega),drA_some (boundsL_ok s hs) h3]
 ·unfold fromA
  have hm:((ds.length:Nat):Int)=mx ((s:Int)-1) 0:=by unfold mx;split <;> omega
  rw[if_neg (by omega),if_pos ⟨hm,f2⟩,Int.toNat_natCast,h5]
theorem perm_step_no {l:List Int} (hl:Bytes l) (hle:l.length≤140737488351232) (s:Nat) (hs:s≤256) (h:permOf l s=none):draw_All.f l (boundsL s)=some ([],0,3):=by
 unfold permOf at h
 rw[drw_fA l _ hl hle (by rw[boundsL_len];omega),drA_none (boundsL_ok s hs) (Option.map_eq_none_iff.1 h)]
theorem bounds_ev' (s:Nat) (hs:s≤256):Ev (fun k=>perm_Bounds.f k (s:Int)) (boundsL s):=by
 have:=bounds_ev (s:Int) (by omega)
 rwa [Int.toNat_natCast] at this
theorem sz_bounds (n c j:Nat) (hn:n≤256) (h1:1≤c) (hc:c≤64):0≤psum (sz n c) j∧psum (sz n c) j≤n:=by
 have ok:=sz_ok n c hn h1 hc
 have:=psum_total ok.nonneg j
 rw[sz_total n c h1] at this
 exact⟨psum_nonneg ok.nonneg j,this⟩
theorem sz_rd (n c j:Nat) (hj:j<c):rd (sz n c) (j:Int)=(szf n c j:Int):=tab_rd _ _ j hj
theorem read_loop {p:List Int} (hp:Bytes p) (hl:p.length≤140737488351232) (n c:Nat) (hn:n≤256) (h1:1≤c) (hc:c≤64) (ds:List Int)
  {R:List (List Int)→List Int×List Int×List (List Int)×List Int×List Int×List Int×List Int×List (List Int)×Int}
  (hR:∀ own,permsG (fun j=>permOf (piece (restOf p) (qOf p c) j) (szf n c j)) c 0 []=some own→Ev (fun k=>(braid_Pattern.f k (sz n c) ds).bind fun bt228=>(some (noiseOf p,braidOf p,pieces (restOf p) (qOf p c) c,sz n c,(tab c fun j=>psum (sz n c) j),bt228.1,bt228.2.1,own,bt228.2.2))) (R own)) :
  ∀ (d j:Nat) (L:List (List Int)),j+d=c→L.length=j→permsG (fun j=>permOf (piece (restOf p) (qOf p c) j) (szf n c j)) c 0 []=permsG (fun j=>permOf (piece (restOf p) (qOf p c) j) (szf n c j)) d j L →
  Ev (fun k=>riffle_read.l0 k L ds (psum (sz n c) j) (sz n c) (c:Int) (j:Int) (noiseOf p) (braidOf p) (pieces (restOf p) (qOf p c) c) (sz n c) (tab j fun j=>psum (sz n c) j))
   (match permsG (fun j=>permOf (piece (restOf p) (qOf p c) j) (szf n c j)) d j L with|some own=>R own|none=>([],[],[],[],[],[],[],[],3)):=by
 intro d
 induction d with
 | zero =>
  intro j L hj hL hg
  obtain rfl:j=c:=by omega
  rw[hg] at hR
  rw[permsG] at hR ⊢
  exact Ev.step (fun k=>by rw[riffle_read.l0,if_neg (by omega)]) (hR L rfl)
 | succ d ih =>
  intro j L hj hL hg
  rw[hg] at hR ih
  rw[permsG] at hR ih ⊢
  have hjc:j<c:=by omega
  have hs:=szf_le n c j hn h1
  have hsl:=sz_len n c
  have htl:=tab_len j fun j=>psum (sz n c) j
  have hpb:=sz_bounds n c j hn h1 hc
  have hrd:=sz_rd n c j hjc
  have hps:psum (sz n c) (j+1)=psum (sz n c) j+(szf n c j:Int):=by rw[psum_succ _ j (by omega),sz_get n c j hjc]
  have hby:=bytes_piece hp (qOf p c) j
  have hpl:=piece_le p (qOf p c) j
  have hpp:rd_L3 (pieces (restOf p) (qOf p c) c) (j:Int)=piece (restOf p) (qOf p c) j:=pieces_rd _ _ _ _ hjc
  have hplen:=pieces_len (restOf p) (qOf p c) c
  refine Ev.step (fun k=>by rw[riffle_read.l0,if_pos (by omega),if_pos (by omega),if_pos (by omega),if_pos (by omega),if_pos (by omega),hrd]) (ev_bind (bounds_ev' _ hs) ?_)
  cases hq:permOf (piece (restOf p) (qOf p c) j) (szf n c j) with
  | none =>
   refine ev_bind0 (a:=([],0,3)) (by
    show draw_All.f ((pieces (restOf p) (qOf p c) c).getD j []) _=_
    rw[pieces_rd _ _ _ _ hjc]
    exact perm_step_no hby (by omega) _ hs hq) (ev_neg (by decide) (Ev.now _))
  | some q =>
   obtain⟨es,u,e1,e2⟩:=perm_step_ok hby (by omega) _ hs hq
   refine ev_bind0 (a:=(es,u,0)) (by
    show draw_All.f ((pieces (restOf p) (qOf p c) c).getD j []) _=_
    rw[pieces_rd _ _ _ _ hjc]
    exact e1) (ev_pos rfl (ev_bind e2 (ev_pos rfl (ev_pos (by omega) ?_))))
   rw[w64 (x:=psum (sz n c) j+(szf n c j:Int)) (by omega) (by omega),w64 (x:=(j:Int)+1) (by omega) (by omega),←hps]
   have:=ih (j+1) (L ++ [q]) (by omega) (by simp[hL]) (by rw[hq];rfl)
   rw[tab_succ] at this
   exact this
theorem splitS_ok {p:List Int} {c:Nat} (h:18≤p.length) (h1:1≤c) (hc:c≤64):splitS p (c:Int)=(noiseOf p,braidOf p,pieces (restOf p) (qOf p c) c,0):=by
 unfold splitS
 rw[if_neg (by omega),if_neg (by omega),Int.toNat_natCast]
theorem sz_fit {n c:Nat} (hn:n≤256) (h1:1≤c) (hc:c≤64) {ds:List Int} (h:Valid (bnd n) ds):∃ P,Good (sz n c) ds P:=by
 refine Good.exists (bnd_okD (sz_ok n c hn h1 hc) ?_)
 rw[sz_total n c h1,Int.toNat_natCast]
 exact h
theorem read_ev {p:List Int} (hp:Bytes p) (hl:p.length≤140737488351232) (n c:Nat) (hn:n≤256) (h1:1≤c) (hc:c≤64) :
  (∃ ds P own,Lay p n c ds P own∧Ev (fun k=>riffle_read.f k p n c) (noiseOf p,braidOf p,pieces (restOf p) (qOf p c) c,sz n c,(tab c fun j=>psum (sz n c) j),fsts P,allOff c P,own,0)) ∨
  ((¬ ∃ ds P own,Lay p n c ds P own)∧Ev (fun k=>riffle_read.f k p n c) ([],[],[],[],[],[],[],[],3)):=by
 by_cases h18:p.length<18
 ·refine .inr ⟨fun⟨_,_,_,h⟩=>by have:=h.long;omega,?_⟩
  unfold riffle_read.f
  refine ev_bind (sizes_good n c hn h1 hc) (ev_pos rfl (ev_bind (split_ev p c hl) ?_))
  unfold splitS
  rw[if_neg (by omega),if_pos h18]
  exact ev_neg (by decide) (Ev.now _)
 have hbl:=braid_le p
 have hD:=drw_fA (braidOf p) (bnd n) (bytes_braid hp) (by omega) (by rw[bnd_len];omega)
 have start:∀ R,Ev (fun k=>(if(drA (braidOf p) (bnd n)).2.2=0 then(riffle_read.l0 k ([]:List (List Int)) (drA (braidOf p) (bnd n)).1 0 (sz n c) ((sz n c).length:Int) 0 (noiseOf p) (braidOf p) (pieces (restOf p) (qOf p c) c) (sz n c) ([]:List Int)) else(some (([]:List Int),([]:List Int),([]:List (List Int)),([]:List Int),([]:List Int),([]:List Int),([]:List Int),([]:List (List Int)),(drA (braidOf p) (bnd n)).2.2)))) R→Ev (fun k=>riffle_read.f k p n c) R:=by
  intro R hR
  unfold riffle_read.f
  refine ev_bind (sizes_good n c hn h1 hc) (ev_pos rfl (ev_bind (split_ev p c hl) ?_))
  rw[splitS_ok (by omega) h1 hc]
  exact ev_pos rfl (ev_bind (bounds_good n hn) (ev_bind0 hD hR))
 cases hd:dr (braidOf p) (bnd n) 0 with
 | none =>
  refine .inr ⟨fun⟨_,_,_,h⟩=>?_,start _ ?_⟩
  ·obtain⟨u,hu⟩:=h.draws
   rw[hd] at hu
   exact absurd hu (by simp)
  ·rw[drA_none (bnd_ok n hn) hd]
   exact ev_neg (by decide) (Ev.now _)
 | some r =>
  obtain⟨ds,u⟩:=r
  have hv:=dr_valid _ (bytes_braid hp) (bnd n) 0 (bnd_ok n hn) (by omega) _ hd
  obtain⟨P,g⟩:=sz_fit hn h1 hc hv
  have key:=read_loop hp hl n c hn h1 hc ds (R:=fun own=>(noiseOf p,braidOf p,pieces (restOf p) (qOf p c) c,sz n c,(tab c fun j=>psum (sz n c) j),fsts P,allOff c P,own,0))
   (fun own _=>ev_bind g.pattern (ev_some (by rw[sz_len]))) c 0 [] (by omega) rfl rfl
  have key':=start _ (by
   rw[drA_some (bnd_ok n hn) hd,sz_len]
   exact ev_pos rfl key)
  cases ho:permsG (fun j=>permOf (piece (restOf p) (qOf p c) j) (szf n c j)) c 0 [] with
  | none =>
   rw[ho] at key'
   refine .inr ⟨fun⟨_,_,_,h⟩=>?_,key'⟩
   have:=h.owns
   rw[ho] at this
   exact absurd this (by simp)
  | some own =>
   rw[ho] at key'
   exact .inl ⟨ds,P,own,⟨by omega,hn,h1,hc,⟨u,hd⟩,g,ho⟩,key'⟩
end Go.Proofs.Ytbnifpfnjhdenaa.Pl
end
section
set_option linter.unusedVariables false
set_option linter.unusedSimpArgs false
namespace Go.Proofs.Ytbnifpfnjhdenaa.Pl
open Go.RowKit Go.Proofs.Ytbnifpfnjhdenaa.Q Go.Proofs.YtbnifpfnjhdenaaW.PrintWords Go.Proofs.YtbnifpfnjhdenaaW.PrintLast Go.Proofs.Ytbnifpfnjhdenaa.Pure
theorem fsts_int (P:List (Nat×Int)):fsts P=ints (P.map (·.1)):=by simp[fsts,ints]
theorem cn_get (C:List Nat) (i:Nat) (h:i<C.length):C.getD i 0=C[i]:=by rw[List.getD_eq_getElem?_getD,List.getElem?_eq_getElem h,Option.getD_some]
structure PatC (C:List Nat) (n c:Nat):Prop where
 len:C.length=n
 lt:∀ j ∈ C,j<c
 cnt:∀ j,j<c→C.count j=szf n c j
theorem PatC.at_ {C:List Nat} {n c:Nat} (h:PatC C n c) (i:Nat) (hi:i<n):C.getD i 0<c∧cn C (C.getD i 0) i<szf n c (C.getD i 0):=by
 have hl:=h.len
 rw[cn_get C i (by omega)]
 have h1:=h.lt _ (List.getElem_mem (show i<C.length by omega))
 have h2:=cn_lt C i (by omega)
 rw[h.cnt _ h1] at h2
 exact⟨h1,h2⟩
theorem tab_zero (n:Nat):List.replicate n (0:Int)=tab n fun _=>0:=by
 apply List.ext_getElem
 ·simp[tab]
 ·intro i h1 h2;simp[tab]
theorem Lay.same {p:List Int} {n c:Nat} {ds es:List Int} {P Q:List (Nat×Int)} {own won:List (List Int)} (h:Lay p n c ds P own) (h':Lay p n c es Q won):ds=es∧P=Q∧own=won:=by
 obtain⟨u,hu⟩:=h.draws
 obtain⟨v,hv⟩:=h'.draws
 rw[hu] at hv
 simp only[Option.some.injEq,Prod.mk.injEq] at hv
 have e:=h.owns
 rw[h'.owns] at e
 exact⟨hv.1,h.good.same h'.good hv.1,(Option.some.inj e).symm⟩
end Go.Proofs.Ytbnifpfnjhdenaa.Pl
end
section
set_option linter.unusedVariables false
set_option linter.unusedSimpArgs false
namespace Go.Proofs.Ytbnifpfnjhdenaa.Pl
open Go.RowKit Go.Proofs.Ytbnifpfnjhdenaa.Q Go.Proofs.YtbnifpfnjhdenaaW.PrintWords Go.Proofs.YtbnifpfnjhdenaaW.PrintLast Go.Proofs.Ytbnifpfnjhdenaa.Pure
def trn (p bs ws:List Int):List Int:=(turnA p bs ws).1
theorem trn_spec {p bs ws vs:List Int} {m:Nat} (hp:Bytes p) (hB:AllOk bs) (hV:Valid bs ws) (hr:dr p bs 0=some (vs,m)) :
  turnA p bs ws=(trn p bs ws,0)∧Bytes (trn p bs ws)∧(trn p bs ws).length=p.length∧Tn p (trn p bs ws) bs vs ws 0 m∧∀ i:Nat,m≤i→rd (trn p bs ws) (i:Int)=rd p (i:Int):=by
 obtain⟨q,eq,bq,lq,tq,sq⟩:=turnA_some p bs ws hp hB hV hr
 have e:trn p bs ws=q:=by unfold trn;rw[eq]
 rw[e]
 exact⟨eq,bq,lq,tq,sq⟩
theorem drw_trn {p bs ws vs:List Int} {m:Nat} (hp:Bytes p) (hl:p.length≤140737488351232) (hbl:bs.length≤17592186043904) (hB:AllOk bs) (hV:Valid bs ws) (hr:dr p bs 0=some (vs,m)):draw_Turn.f p bs ws=some (trn p bs ws,0):=by
 rw[drw_turn_f p bs ws hp hl hbl,(trn_spec hp hB hV hr).1]
def mkk (p B F:List Int):List Int:=p.take 18 ++ (B ++ (F ++ (restOf p).drop F.length))
theorem rest_eq (p:List Int):restOf p=p.drop (18+(p.length-18) / 2):=by unfold restOf;rw[List.drop_drop]
theorem len3 {p:List Int} (h:18≤p.length):(p.take 18).length=18∧(braidOf p).length=(p.length-18) / 2∧18+(braidOf p).length+(restOf p).length=p.length:=by
 have:=restOf_len p
 have b:(braidOf p).length=(p.length-18) / 2:=by unfold braidOf;rw[List.length_take,List.length_drop];omega
 exact⟨by rw[List.length_take];omega,b,by omega⟩
theorem mkk_len {p B F:List Int} (h:18≤p.length) (hB:B.length=(braidOf p).length) (hF:F.length≤(restOf p).length):(mkk p B F).length=p.length:=by
 obtain⟨h1,h2,h3⟩:=len3 h
 unfold mkk
 rw[List.length_append,List.length_append,List.length_append,List.length_drop,h1]
 omega
theorem mkk_drop {p B F:List Int} (h:18≤p.length):(mkk p B F).drop 18=B ++ (F ++ (restOf p).drop F.length):=by
 have h1:=(len3 h).1
 unfold mkk
 rw[List.drop_append_of_le_length (by omega),List.drop_of_length_le (by omega),List.nil_append]
theorem mkk_braid {p B F:List Int} (h:18≤p.length) (hB:B.length=(braidOf p).length) (hF:F.length≤(restOf p).length):braidOf (mkk p B F)=B:=by
 obtain⟨h1,h2,h3⟩:=len3 h
 have hl:=mkk_len h hB hF
 unfold braidOf
 rw[hl,mkk_drop h,List.take_append_of_le_length (by omega),List.take_of_length_le (by omega)]
theorem bytes_app {a b:List Int} (ha:Bytes a) (hb:Bytes b):Bytes (a ++ b):=fun x hx=>(List.mem_append.1 hx).elim (ha x) (hb x)
theorem mkk_bytes {p B F:List Int} (hp:Bytes p) (hB:Bytes B) (hF:Bytes F):Bytes (mkk p B F) :=
 bytes_app (bytes_sub hp (List.take_sublist _ _)) (bytes_app hB (bytes_app hF (bytes_sub (bytes_rest hp) (List.drop_sublist _ _))))
theorem cpy_at {F y T:List Int} {off:Nat} (ho:off=F.length) (hy:y.length≤T.length):cpy (F ++ T) off y=F ++ (y ++ T.drop y.length)∧cpn (F ++ T) off y=y.length:=by
 subst ho
 have e:y.take ((F ++ T).length-F.length)=y:=List.take_of_length_le (by rw[List.length_append];omega)
 unfold cpy cpn
 rw[e]
 refine⟨?_,rfl⟩
 rw[List.take_append_of_le_length (by omega),List.take_of_length_le (by omega),List.drop_append,List.drop_of_length_le (by omega),List.nil_append,show F.length+y.length-F.length=y.length by omega]
theorem cpy_first {p B:List Int} (h:18≤p.length) (hB:B.length=(braidOf p).length):cpy p 18 B=mkk p B []∧cpn p 18 B=B.length:=by
 obtain⟨h1,h2,h3⟩:=len3 h
 have e:p=p.take 18 ++ p.drop 18:=(List.take_append_drop 18 p).symm
 have hd:(p.drop 18).length=p.length-18:=by simp
 obtain⟨c1,c2⟩:=cpy_at (F:=p.take 18) (y:=B) (T:=p.drop 18) (off:=18) h1.symm (by omega)
 rw[←e] at c1 c2
 refine⟨?_,c2⟩
 rw[c1,hB,h2]
 rfl
theorem cpy_next {p B F y:List Int} (h:18≤p.length) (hy:F.length+y.length≤(restOf p).length):cpy (mkk p B F) (18+B.length+F.length) y=mkk p B (F ++ y)∧cpn (mkk p B F) (18+B.length+F.length) y=y.length:=by
 have h1:=(len3 h).1
 have e:mkk p B F=(p.take 18 ++ (B ++ F)) ++ (restOf p).drop F.length:=by unfold mkk;simp[List.append_assoc]
 obtain⟨c1,c2⟩:=cpy_at (F:=p.take 18 ++ (B ++ F)) (y:=y) (T:=(restOf p).drop F.length) (off:=18+B.length+F.length) (by simp only[List.length_append,h1];omega) (by rw[List.length_drop];omega)
 rw[←e] at c1 c2
 refine⟨?_,c2⟩
 rw[c1]
 unfold mkk
 rw[List.drop_drop,List.length_append]
 simp[List.append_assoc]
theorem flat_len (q:Nat):∀ (R:List (List Int)),(∀ x ∈ R,x.length=q)→R.flatten.length=R.length*q
 | [],_=>by simp
 | x ::R,h=>by
  rw[List.flatten_cons,List.length_append,flat_len q R (fun y hy=>h y (List.mem_cons_of_mem _ hy)),h x List.mem_cons_self,List.length_cons,Nat.succ_mul]
  omega
def tapeOf (p B:List Int) (R:List (List Int)):List Int:=mkk p B R.flatten
structure Fitting (p:List Int) (c:Nat) (B:List Int) (R:List (List Int)):Prop where
 long:18≤p.length
 braid:B.length=(braidOf p).length
 num:R.length=c
 each:∀ x ∈ R,x.length=qOf p c
theorem Fitting.flat {p B:List Int} {c:Nat} {R:List (List Int)} (h:Fitting p c B R):R.flatten.length=c*qOf p c∧R.flatten.length≤(restOf p).length:=by
 have:=flat_len (qOf p c) R h.each
 rw[h.num] at this
 exact⟨this,by rw[this];exact qmul_le p c c (Nat.le_refl _)⟩
theorem mk_len {p B:List Int} {c:Nat} {R:List (List Int)} (h:Fitting p c B R):(tapeOf p B R).length=p.length:=mkk_len h.long h.braid h.flat.2
theorem mk_braid {p B:List Int} {c:Nat} {R:List (List Int)} (h:Fitting p c B R):braidOf (tapeOf p B R)=B:=mkk_braid h.long h.braid h.flat.2
theorem mk_q {p B:List Int} {c:Nat} {R:List (List Int)} (h:Fitting p c B R):qOf (tapeOf p B R) c=qOf p c:=by
 unfold qOf
 rw[restOf_len,restOf_len,mk_len h]
theorem Fitting.on {p B B':List Int} {c:Nat} {R R':List (List Int)} (h:Fitting p c B R) (h':Fitting p c B' R'):Fitting (tapeOf p B R) c B' R' :=
 ⟨by rw[mk_len h];exact h.long,by rw[mk_braid h,h.braid,h'.braid],h'.num,fun x hx=>by rw[mk_q h];exact h'.each x hx⟩
open Classical in
noncomputable def chk (n c:Nat) (x:Int):Nat:=if h:∃ j,j<c∧psum (sz n c) j≤x∧x<psum (sz n c) j+szf n c j then h.choose else 0
structure Fit3 (n c:Nat):Prop where
 most:n≤256
 one:1≤c
 chunks:c≤64
theorem Lay.fit3 {p:List Int} {n c:Nat} {ds:List Int} {P:List (Nat×Int)} {own:List (List Int)} (h:Lay p n c ds P own):Fit3 n c:=⟨h.most,h.one,h.chunks⟩
theorem Fit3.ok {n c:Nat} (h:Fit3 n c):OkS (sz n c):=sz_ok n c h.most h.one h.chunks
theorem chk_spec {n c:Nat} (h:Fit3 n c) (x:Int) (h0:0≤x) (h1:x<n):chk n c x<c∧psum (sz n c) (chk n c x)≤x∧x<psum (sz n c) (chk n c x)+szf n c (chk n c x):=by
 have hz:=sz_len n c
 obtain⟨j,hj,o,o0,o1,e⟩:=place_exists h.ok.nonneg x h0 (by rw[sz_total n c h.one];exact h1)
 have hjc:j<c:=by omega
 rw[sz_get n c j hjc] at o1
 have hex:∃ j,j<c∧psum (sz n c) j≤x∧x<psum (sz n c) j+szf n c j:=⟨j,hjc,by omega,by omega⟩
 unfold chk
 rw[dif_pos hex]
 exact hex.choose_spec
theorem chk_unique {n c:Nat} (h:Fit3 n c) (x:Int) (h0:0≤x) (h1:x<n) (j:Nat) (hj:j<c) (hx0:psum (sz n c) j≤x) (hx1:x<psum (sz n c) j+szf n c j):chk n c x=j:=by
 obtain⟨a,b,d⟩:=chk_spec h x h0 h1
 have hz:=sz_len n c
 exact(place_unique h.ok.nonneg (i:=chk n c x) (j:=j) (o:=x-psum (sz n c) (chk n c x)) (p:=x-psum (sz n c) j) (by omega) (by omega) (by omega) (by rw[sz_get n c _ a];omega) (by omega) (by rw[sz_get n c _ hj];omega) (by omega)).1
noncomputable def chOf (n c:Nat) (w:List Int):List Nat:=w.map (chk n c)
noncomputable def ownOf (n c:Nat) (w:List Int) (j:Nat):List Int:=(w.filter fun x=>chk n c x == j).map fun x=>x-psum (sz n c) j
theorem ownOf_append (n c:Nat) (a b:List Int) (j:Nat):ownOf n c (a ++ b) j=ownOf n c a j ++ ownOf n c b j:=by simp[ownOf]
theorem ownOf_one (n c:Nat) (x:Int) (j:Nat):ownOf n c [x] j=if chk n c x=j then [x-psum (sz n c) j] else []:=by
 unfold ownOf
 by_cases h:chk n c x=j
 ·rw[if_pos h];simp[h]
 ·rw[if_neg h];simp[h]
theorem ownOf_len (n c:Nat) (w:List Int) (j:Nat):(ownOf n c w j).length=(chOf n c w).count j:=by
 unfold ownOf chOf
 rw[List.length_map,←List.countP_eq_length_filter,List.count_eq_countP,List.countP_map]
 rfl
theorem ownOf_le (n c:Nat) (w:List Int) (j:Nat):(ownOf n c w j).length≤w.length:=by
 unfold ownOf
 rw[List.length_map]
 exact List.length_filter_le _ _
theorem nodup_sub_len:∀ (a l:List Int),a.Nodup→(∀ x ∈ a,x ∈ l)→a.length≤l.length
 | [],_,_,_=>by simp
 | x ::a,l,hn,hs=>by
  have hx:=hs x List.mem_cons_self
  have hn':=List.nodup_cons.1 hn
  have ih:=nodup_sub_len a (l.erase x) hn'.2 (fun y hy=>(List.mem_erase_of_ne (fun e:y=x=>hn'.1 (by rw[←e];exact hy))).2 (hs y (List.mem_cons_of_mem _ hy)))
  rw[List.length_erase_of_mem hx] at ih
  have:0<l.length:=List.length_pos_of_mem hx
  rw[List.length_cons]
  omega
theorem ownOf_fits {n c:Nat} (h:Fit3 n c) {w:List Int} (fw:Fits w) (hl:w.length=n) (j:Nat) (hj:j<c):(ownOf n c w j).length=szf n c j∧Fits (ownOf n c w j):=by
 have hb:=fw.1
 rw[hl] at hb
 have range:∀ y ∈ ownOf n c w j,0≤y∧y<(szf n c j:Int):=by
  intro y hy
  obtain⟨x,hx,rfl⟩:=List.mem_map.1 hy
  obtain⟨hxw,hxj⟩:=List.mem_filter.1 hx
  have:=chk_spec h x (hb x hxw).1 (hb x hxw).2
  rw[beq_iff_eq.1 hxj] at this
  omega
 have nod:(ownOf n c w j).Nodup:=by
  unfold ownOf List.Nodup
  rw[List.pairwise_map]
  exact(fw.2.filter _).imp fun hab=>by omega
 have le1:=nodup_bound (szf n c j) _ nod range
 have le2:szf n c j≤(ownOf n c w j).length:=by
  have:=nodup_sub_len (iota (szf n c j)) (ownOf n c w j) (fits_iota _).2 (by
   intro v hv
   obtain⟨m,hm,rfl⟩:=List.mem_map.1 hv
   have hm:=List.mem_range.1 hm
   have a1:=psum_succ (sz n c) j (by rw[sz_len];exact hj)
   rw[sz_get n c j hj] at a1
   have a2:=sz_bounds n c (j+1) h.most h.one h.chunks
   have a3:=sz_bounds n c j h.most h.one h.chunks
   obtain⟨i,hi,e⟩:=fits_all fw (psum (sz n c) j+m).toNat (by omega)
   have hx:w[i]=psum (sz n c) j+m:=by rw[e];omega
   refine List.mem_map.2 ⟨psum (sz n c) j+m,List.mem_filter.2 ⟨hx ▸ List.getElem_mem hi,?_⟩,by omega⟩
   rw[beq_iff_eq]
   exact chk_unique h _ (by omega) (by omega) j hj (by omega) (by omega))
  rwa [iota_len] at this
 exact⟨by omega,fun y hy=>by have:=range y hy;omega,nod⟩
theorem Good.with {n c:Nat} (h:Fit3 n c) {w es:List Int} {Q:List (Nat×Int)} (fw:Fits w) (hl:w.length=n) (g':Good (sz n c) es Q):∃ xs R,Good (sz n c) xs R∧R.map (·.1)=chOf n c w∧allOff c R=allOff c Q:=by
 have hz:=sz_len n c
 have hn:=g'.sizes.nonneg
 have hc':=g'.pat.count hn g'.len.symm
 have hgd:∀ j,j<c→(sz n c).getD j 0=(szf n c j:Int):=fun j hj=>by rw[←rd_nat,sz_rd n c j hj]
 obtain⟨xs,R,h1,h2,h3⟩:=draws_exist (allOff (sz n c).length Q) (chOf n c w) (sz n c) (start (sz n c)) hn (by
  intro j hj
  obtain⟨x,hx,rfl⟩:=List.mem_map.1 hj
  have:=fw.1 x hx
  rw[hz]
  exact(chk_spec h x this.1 (by omega)).1) (by
  intro j hj
  rw[hz] at hj
  have e:((chOf n c w).filter (· == j)).length=(chOf n c w).count j:=(List.count_eq_length_filter ..).symm
  rw[e,←ownOf_len,(ownOf_fits h fw hl j hj).1,hgd j hj]
  omega) (by
  intro j k hj hk
  have h4:=hc' j hj
  have hk':k<(vis j Q).length:=by omega
  rw[allOff_at (sz n c).length Q (sz n c) hn (Nat.le_refl _) hc' j k hj hk']
  exact g'.pat.offs hn j k hj hk')
 have hlen:xs.length=n:=by
  have a:=h1.len
  have b:=congrArg List.length h2
  simp[chOf,hl] at b
  omega
 have G:Good (sz n c) xs R:=⟨g'.sizes,by rw[hlen,sz_total n c h.one],h1⟩
 have:=g'.le
 have h5:=G.len
 have h6:=g'.len
 have h7:=all_rdo hn h1 G.len.symm (by omega) h3
 rw[hz] at h7
 exact⟨xs,R,G,h2,h7⟩
end Go.Proofs.Ytbnifpfnjhdenaa.Pl
end
section
set_option linter.unusedVariables false
set_option linter.unusedSimpArgs false
namespace Go.Proofs.Ytbnifpfnjhdenaa.Pl
open Go.RowKit Go.Proofs.Ytbnifpfnjhdenaa.Q Go.Proofs.YtbnifpfnjhdenaaW.PrintWords Go.Proofs.YtbnifpfnjhdenaaW.PrintLast Go.Proofs.Ytbnifpfnjhdenaa.Pure
noncomputable def dlOf (n c:Nat) (w:List Int) (j:Nat):List Int:=drawsL (ownOf n c w j) (iota (szf n c j)) (szf n c j-1)
noncomputable def partsOf (p:List Int) (n c:Nat) (w:List Int):List (List Int):=(List.range c).map fun j=>trn (piece (restOf p) (qOf p c) j) (boundsL (szf n c j)) (dlOf n c w j)
noncomputable def turnT (p:List Int) (n c:Nat) (es w:List Int):List Int:=tapeOf p (trn (braidOf p) (bnd n) es) (partsOf p n c w)
theorem dlOf_fit {n c:Nat} (h:Fit3 n c) {w:List Int} (fw:Fits w) (hl:w.length=n) (j:Nat) (hj:j<c):Valid (boundsL (szf n c j)) (dlOf n c w j)∧fromL (iota (szf n c j)) (szf n c j-1) (dlOf n c w j)=ownOf n c w j:=by
 obtain⟨l1,f1⟩:=ownOf_fits h fw hl j hj
 have hd:=from_draws (ownOf n c w j) f1 (szf n c j-1) (iota (szf n c j)) (by omega) (fits_iota _) (by rw[iota_len,l1]) (fun m h1 h2=>by omega)
 refine⟨fit_boundsL (drawsL_len _ _ _) fun k hk=>?_,hd.2⟩
 unfold dlOf at hk ⊢
 have:=hd.1 k hk
 rw[drawsL_len] at hk
 omega
theorem Lay.part {p:List Int} (hp:Bytes p) {n c:Nat} {ds:List Int} {P:List (Nat×Int)} {own:List (List Int)} (h:Lay p n c ds P own) (j:Nat) (hj:j<c):∃ vs m,dr (piece (restOf p) (qOf p c) j) (boundsL (szf n c j)) 0=some (vs,m)∧vs=drawsL (own.getD j []) (iota (szf n c j)) (szf n c j-1):=by
 obtain⟨e1,_,_⟩:=(h.own hp).2 j hj
 obtain⟨_,_,vs,m,d1,d2,d3,d4⟩:=permOf_fits (bytes_piece hp _ _) (szf_le n c j h.most h.one) e1
 exact⟨vs,m,d1,d4.symm⟩
theorem Lay.valid {p:List Int} {n c:Nat} {ds:List Int} {P:List (Nat×Int)} {own:List (List Int)} (h:Lay p n c ds P own) {es:List Int} {R:List (Nat×Int)} (g:Good (sz n c) es R):Valid (bnd n) es:=by
 have hd:OkD (sz n c) es:=⟨g.sizes,g.len,fun t ht=>by
  have:=g.pat.bound g.sizes.nonneg t ht
  rw[←g.len] at this
  exact this⟩
 have:=okD_bnd hd
 rwa [sz_total n c h.one,Int.toNat_natCast] at this
theorem turn_fitting {p:List Int} (hp:Bytes p) {n c:Nat} {ds:List Int} {P:List (Nat×Int)} {own:List (List Int)} (h:Lay p n c ds P own) {es:List Int} {R:List (Nat×Int)} (g:Good (sz n c) es R) {w:List Int} (fw:Fits w) (hl:w.length=n) :
  Fitting p c (trn (braidOf p) (bnd n) es) (partsOf p n c w)∧Bytes (turnT p n c es w):=by
 obtain⟨u,hd⟩:=h.draws
 obtain⟨_,b1,b2,_⟩:=trn_spec (bytes_braid hp) (bnd_ok n h.most) (h.valid g) hd
 have each:∀ x ∈ partsOf p n c w,x.length=qOf p c∧Bytes x:=by
  intro x hx
  obtain⟨j,hj,rfl⟩:=List.mem_map.1 hx
  have hj:=List.mem_range.1 hj
  obtain⟨vs,m,d1,_⟩:=h.part hp j hj
  obtain⟨_,c1,c2,_⟩:=trn_spec (bytes_piece hp _ _) (boundsL_ok _ (szf_le n c j h.most h.one)) (dlOf_fit h.fit3 fw hl j hj).1 d1
  exact⟨by rw[c2];exact piece_len p c j hj,c1⟩
 refine⟨⟨h.long,b2,by simp[partsOf],fun x hx=>(each x hx).1⟩,mkk_bytes hp b1 fun x hx=>?_⟩
 obtain⟨y,hy,hxy⟩:=List.mem_flatten.1 hx
 exact(each y hy).2 x hxy
theorem partsOf_getD (p:List Int) (n c:Nat) (w:List Int) (j:Nat) (hj:j<c):(partsOf p n c w).getD j []=trn (piece (restOf p) (qOf p c) j) (boundsL (szf n c j)) (dlOf n c w j):=by simp[partsOf,hj]
theorem cut_of_ev {n c:Nat} (h:Fit3 n c) (y0 y1:List Int) (y2:List (List Int)) (x:Int) (h0:0≤x) (h1:x<n):Ev (fun k=>riffle_cut_of.f k y0 y1 y2 (sz n c) (tab c fun j=>psum (sz n c) j) x) (chk n c x:Int):=by
 obtain⟨s1,s2,s3⟩:=chk_spec h x h0 h1
 have hz:=sz_len n c
 have ht:=tab_len c fun j=>psum (sz n c) j
 have hm:=h.most
 have hc:=h.chunks
 unfold riffle_cut_of.f
 have key:∀ (d a:Nat),a+d=chk n c x→Ev (fun k=>riffle_cut_of.l0 k x (a:Int) y0 y1 y2 (sz n c) (tab c fun j=>psum (sz n c) j)) (chk n c x:Int):=by
  intro d
  induction d with
  | zero =>
   intro a ha
   obtain rfl:a=chk n c x:=by omega
   have b:=sz_bounds n c (chk n c x) h.most h.one h.chunks
   have l:=szf_le n c (chk n c x) h.most h.one
   refine Ev.step (f:=fun _=>some (chk n c x:Int)) (fun k=>?_) (Ev.now _)
   rw[riffle_cut_of.l0,if_pos (by omega),if_pos (by omega),if_pos (by omega),tab_rd _ _ _ s1,sz_rd n c _ s1,w64 (by omega) (by omega),if_neg (by omega)]
  | succ d ih =>
   intro a ha
   have hac:a<c:=by omega
   have b:=sz_bounds n c a h.most h.one h.chunks
   have b':=sz_bounds n c (a+1) h.most h.one h.chunks
   have e:=psum_succ (sz n c) a (by omega)
   rw[sz_get n c a hac] at e
   have le:=psum_le h.ok.nonneg (a+1) (chk n c x) (by omega)
   refine Ev.step (fun k=>?_) (ih (a+1) (by omega))
   rw[riffle_cut_of.l0,if_pos (by omega),if_pos (by omega),if_pos (by omega),tab_rd _ _ _ hac,sz_rd n c _ hac,w64 (by omega) (by omega),if_pos (by omega),w64 (by omega) (by omega)]
   rfl
 exact key (chk n c x) 0 (by omega)
theorem ownTo_rd (n c:Nat) (w:List Int) (j:Nat) (hj:j<c):((List.range c).map (ownOf n c w)).getD j []=ownOf n c w j:=by simp[hj]
theorem wq (b x q:Nat) (h:18+b+x+q≤9223372036854775807):wrap64 (((18+b+x:Nat):Int)+(q:Int))=((18+b+(x+q):Nat):Int):=by
 rw[w64 (by omega) (by omega)]
 omega
theorem w18 (x q:Nat) (h:x≤140737488351232):wrap64 ((18:Int)+(x:Int))=((18+x+0*q:Nat):Int):=by
 rw[w64 (by omega) (by omega),Nat.zero_mul]
 omega
theorem turn_l1 {p:List Int} (hp:Bytes p) (hpl:p.length≤140737488351232) {n c:Nat} {ds:List Int} {P:List (Nat×Int)} {own:List (List Int)} (h:Lay p n c ds P own) {es:List Int} {R:List (Nat×Int)} (g:Good (sz n c) es R) {w:List Int} (fw:Fits w) (hl:w.length=n) (y0 y1 y3 y4:List Int) :
  ∀ (d j:Nat),j+d=c→Ev (fun k=>riffle_Turn.l1 k ((List.range c).map (ownOf n c w)) (mkk p (trn (braidOf p) (bnd n) es) ((partsOf p n c w).take j).flatten) ((18+(braidOf p).length+j*qOf p c:Nat):Int) (sz n c) (c:Int) (j:Int) y0 y1 (pieces (restOf p) (qOf p c) c) y3 y4) (turnT p n c es w,0):=by
 obtain⟨F,hb⟩:=turn_fitting hp h g fw hl
 have hz:=sz_len n c
 have hm:=h.most
 have hc:=h.chunks
 have hpn:=F.num
 obtain⟨t1,t2,t3⟩:=len3 h.long
 have flat:∀ j,j≤c→((partsOf p n c w).take j).flatten.length=j*qOf p c:=fun j hj=>by
  rw[flat_len (qOf p c) _ (fun x hx=>F.each x (List.mem_of_mem_take hx)),List.length_take]
  congr 1
  omega
 intro d
 induction d with
 | zero =>
  intro j hj
  obtain rfl:j=c:=by omega
  have e:(partsOf p n j w).take j=partsOf p n j w:=List.take_of_length_le (by omega)
  rw[e]
  exact Ev.step (f:=fun _=>some (turnT p n j es w,0)) (fun k=>by rw[riffle_Turn.l1,if_neg (by omega)];rfl) (Ev.now _)
 | succ d ih =>
  intro j hj
  have hjc:j<c:=by omega
  obtain⟨l1,f1⟩:=ownOf_fits h.fit3 fw hl j hjc
  have sl:=szf_le n c j h.most h.one
  obtain⟨vs,m,d1,_⟩:=h.part hp j hjc
  have hv:=(dlOf_fit h.fit3 fw hl j hjc).1
  have hpl':=piece_le p (qOf p c) j
  have htn:=drw_trn (bytes_piece hp _ _) (by omega) (by rw[boundsL_len];omega) (boundsL_ok _ sl) hv d1
  have hq:=qmul_le p c (j+1) hjc
  have hsm:(j+1)*qOf p c=j*qOf p c+qOf p c:=Nat.succ_mul _ _
  have hdr:=draws_all (ownOf n c w j) (by omega)
  unfold drawsA at hdr
  rw[if_pos f1,l1] at hdr
  have ylen:(trn (piece (restOf p) (qOf p c) j) (boundsL (szf n c j)) (dlOf n c w j)).length=qOf p c:=by
   rw[←partsOf_getD p n c w j hjc]
   refine F.each _ ?_
   rw[List.getD_eq_getElem?_getD,List.getElem?_eq_getElem (by omega),Option.getD_some]
   exact List.getElem_mem _
  have fl:=flat j (by omega)
  obtain⟨c1,c2⟩:=cpy_next (p:=p) (B:=trn (braidOf p) (bnd n) es) (F:=((partsOf p n c w).take j).flatten) (y:=trn (piece (restOf p) (qOf p c) j) (boundsL (szf n c j)) (dlOf n c w j)) h.long (by rw[fl,ylen];omega)
  rw[F.braid,fl] at c1 c2
  have hnext:((partsOf p n c w).take j).flatten ++ trn (piece (restOf p) (qOf p c) j) (boundsL (szf n c j)) (dlOf n c w j)=((partsOf p n c w).take (j+1)).flatten:=by
   rw[List.take_succ_eq_append_getElem (by omega),List.flatten_append,List.flatten_cons,List.flatten_nil,List.append_nil]
   congr 1
   rw[←partsOf_getD p n c w j hjc,List.getD_eq_getElem?_getD,List.getElem?_eq_getElem (by omega),Option.getD_some]
  have olen:(mkk p (trn (braidOf p) (bnd n) es) ((partsOf p n c w).take j).flatten).length=p.length:=mkk_len h.long F.braid (by rw[fl];omega)
  have hol:((List.range c).map (ownOf n c w)).length=c:=by simp
  have hplen:=pieces_len (restOf p) (qOf p c) c
  refine Ev.step (fun k=>by rw[riffle_Turn.l1,if_pos (by omega),if_pos (by omega),if_pos (by omega),if_pos (by omega)]) ?_
  refine ev_bind (a:=(dlOf n c w j,0)) (by
   show Ev (fun k=>perm_Draws.f k (((List.range c).map (ownOf n c w)).getD j [])) _
   rw[ownTo_rd n c w j hjc]
   exact hdr) (ev_pos rfl (ev_pos (by omega) ?_))
  rw[sz_rd n c j hjc]
  refine ev_bind (bounds_ev' _ sl) (ev_bind0 (a:=(trn (piece (restOf p) (qOf p c) j) (boundsL (szf n c j)) (dlOf n c w j),0)) (by
   show draw_Turn.f ((pieces (restOf p) (qOf p c) c).getD j []) _ _=_
   rw[pieces_rd _ _ _ _ hjc]
   exact htn) (ev_pos rfl (ev_pos (by omega) (ev_pos (by omega) ?_))))
  rw[Int.toNat_natCast,c1,c2,hnext,ylen,w64 (x:=(j:Int)+1) (by omega) (by omega),wq _ _ _ (by omega)]
  have:=ih (j+1) (by omega)
  rw[hsm] at this
  exact this
theorem turn_l0 {p:List Int} (hp:Bytes p) (hpl:p.length≤140737488351232) {n c:Nat} {ds:List Int} {P:List (Nat×Int)} {own:List (List Int)} (h:Lay p n c ds P own) {es:List Int} {R:List (Nat×Int)} (g:Good (sz n c) es R) {w:List Int} (fw:Fits w) (hl:w.length=n) (hR:R.map (·.1)=chOf n c w) (hO:allOff c R=allOff c P) :
  ∀ (d i:Nat),i+d=n→Ev (fun k=>riffle_Turn.l0 k p (n:Int) (allOff c P) (tab n fun t=>if t<i then(chk n c (rd w (t:Int)):Int) else 0) ((List.range c).map (ownOf n c (w.take i))) w (n:Int) (i:Int) (noiseOf p) (braidOf p) (pieces (restOf p) (qOf p c) c) (sz n c) (tab c fun j=>psum (sz n c) j)) (turnT p n c es w,0):=by
 obtain⟨F,hb⟩:=turn_fitting hp h g fw hl
 have hz:=sz_len n c
 have hm:=h.most
 have hc:=h.chunks
 obtain⟨t1,t2,t3⟩:=len3 h.long
 obtain⟨u,hd⟩:=h.draws
 intro d
 induction d with
 | zero =>
  intro i hi
  obtain rfl:i=n:=by omega
  have e1:(tab i fun t=>if t<i then(chk i c (rd w (t:Int)):Int) else 0)=fsts R:=by
   rw[fsts_int,hR]
   apply ext_rd (by rw[tab_len,ints_len];simp[chOf,hl])
   intro t ht
   rw[tab_len] at ht
   rw[tab_rd _ _ t ht,if_pos ht,ints_rd _ t (by simp[chOf,hl];exact ht),rd_lt w t (by omega)]
   simp[chOf]
  have e2:w.take i=w:=List.take_of_length_le (by omega)
  rw[e1,e2]
  have hbk:=g.back
  rw[hz,hO] at hbk
  have hbl:=braid_le p
  have htn:=drw_trn (bytes_braid hp) (by omega) (by rw[bnd_len];omega) (bnd_ok i h.most) (h.valid g) hd
  obtain⟨c1,c2⟩:=cpy_first (p:=p) (B:=trn (braidOf p) (bnd i) es) h.long F.braid
  refine Ev.step (fun k=>by rw[riffle_Turn.l0,if_neg (by omega)]) (ev_bind hbk (ev_pos rfl (ev_bind (bounds_good i hm) (ev_bind0 htn (ev_pos rfl (ev_bind0 rfl (ev_pos (show([]:List Int).length+p.length<140737488355328 by simp;omega) (ev_bind0 rfl ?_))))))))
  have hn18:(noiseOf p).length=18:=t1
  rw[List.nil_append,hn18,show(((18:Nat):Int)).toNat=18 from rfl,c1,c2]
  refine ev_pos (by omega) (ev_pos (by have:=h.long;omega) ?_)
  rw[show((18:Nat):Int)=(18:Int) from rfl,F.braid,w18 _ (qOf p c) (by omega),hz]
  exact turn_l1 hp hpl h g fw hl (noiseOf p) (braidOf p) (sz i c) (tab c fun j=>psum (sz i c) j) c 0 (by omega)
 | succ d ih =>
  intro i hi
  have hin:i<n:=by omega
  have hb1:=fw.1 _ (rd_mem w (i:Int) (by simp;omega))
  rw[hl] at hb1
  have hcut:=cut_of_ev h.fit3 (noiseOf p) (braidOf p) (pieces (restOf p) (qOf p c) c) (rd w (i:Int)) hb1.1 hb1.2
  obtain⟨s1,s2,s3⟩:=chk_spec h.fit3 _ hb1.1 hb1.2
  have b1:=sz_bounds n c (chk n c (rd w (i:Int))) h.most h.one h.chunks
  have ht1:=tab_len n fun t=>if t<i then(chk n c (rd w (t:Int)):Int) else 0
  have ht2:=tab_len c fun j=>psum (sz n c) j
  have hol:((List.range c).map (ownOf n c (w.take i))).length=c:=by simp
  have hle:(ownOf n c (w.take i) (chk n c (rd w (i:Int)))).length≤n:=Nat.le_trans (ownOf_le _ _ _ _) (by rw[List.length_take];omega)
  have hro:rd_L3 ((List.range c).map (ownOf n c (w.take i))) (chk n c (rd w (i:Int)):Int)=ownOf n c (w.take i) (chk n c (rd w (i:Int))):=ownTo_rd n c _ _ s1
  refine Ev.step (fun k=>by rw[riffle_Turn.l0,if_pos (by omega),if_pos (by omega),if_pos (by omega)]) (ev_bind hcut ?_)
  refine ev_pos (by omega) (ev_pos (by omega) (ev_pos (by omega) (ev_pos (by omega) ?_)))
  rw[hro,tab_rd _ _ _ s1,w64 (x:=rd w (i:Int)-psum (sz n c) (chk n c (rd w (i:Int)))) (by omega) (by omega),w64 (x:=(i:Int)+1) (by omega) (by omega),Int.toNat_natCast,Int.toNat_natCast]
  refine ev_pos (by omega) ?_
  have q1:(tab n fun t=>if t<i then(chk n c (rd w (t:Int)):Int) else 0).set i (chk n c (rd w (i:Int)):Int)=tab n fun t=>if t<i+1 then(chk n c (rd w (t:Int)):Int) else 0:=by
   rw[tab_set]
   exact tab_congr _ _ _ fun t ht=>by
    by_cases e:t=i
    ·rw[if_pos e,if_pos (by omega),e]
    ·rw[if_neg e]
     by_cases e2:t<i
     ·rw[if_pos e2,if_pos (by omega)]
     ·rw[if_neg e2,if_neg (by omega)]
  have q2:((List.range c).map (ownOf n c (w.take i))).set (chk n c (rd w (i:Int))) (ownOf n c (w.take i) (chk n c (rd w (i:Int))) ++ [rd w (i:Int)-psum (sz n c) (chk n c (rd w (i:Int)))])=(List.range c).map (ownOf n c (w.take (i+1))):=by
   rw[take_rd w i (by omega)]
   apply List.ext_getElem (by simp)
   intro j h1 h2
   rw[List.getElem_set]
   simp only[List.getElem_map,List.getElem_range]
   rw[ownOf_append,ownOf_one]
   by_cases e:chk n c (rd w (i:Int))=j
   ·rw[if_pos e,if_pos e,e]
   ·rw[if_neg e,if_neg e,List.append_nil]
  rw[q1,q2]
  exact ih (i+1) (by omega)
theorem turn_bad (p:List Int) (n m:Int) (w:List Int) (h:¬ ((0≤n∧n≤256∧1≤m∧m≤64)∧(w.length:Int)=n)):Ev (fun k=>riffle_Turn.f k p n m w) ([],2):=by
 have bad:∀ b,b=true→Ev (fun k=>riffle_Turn.j0 k p n m w b) ([],2):=fun b hb=>Ev.step (f:=fun _=>some ([],2)) (fun k=>by rw[riffle_Turn.j0,if_pos hb]) (Ev.now _)
 unfold riffle_Turn.f
 by_cases hf:0≤n∧n≤256∧1≤m∧m≤64
 ·obtain⟨a,rfl⟩:∃ a:Nat,n=(a:Int):=⟨n.toNat,by omega⟩
  obtain⟨b,rfl⟩:∃ b:Nat,m=(b:Int):=⟨m.toNat,by omega⟩
  exact ev_bind (sizes_good a b (by omega) (by omega) (by omega)) (ev_pos rfl (bad _ (by rw[bne_iff_ne];exact fun e=>h ⟨hf,e⟩)))
 ·exact ev_bind (sizes_bad n m hf) (ev_neg (by decide) (bad _ rfl))
theorem turn_start {p w:List Int} {n c:Nat} (h3:Fit3 n c) (hl:w.length=n) {R:List Int×Int} (hR:Ev (fun k=>((perm_Check.f k w).bind fun t383=>(if t383=0 then((riffle_read.f k p n c).bind fun bt384=>(if bt384.2.2.2.2.2.2.2.2=0 then(if 0≤(n:Int) then(if((n:Int):Int).toNat≤35184372088832 then(if 0≤(bt384.2.2.2.1.length:Int) then(if((bt384.2.2.2.1.length:Int):Int).toNat≤11728124029610 then(riffle_Turn.l0 k p n bt384.2.2.2.2.2.2.1 (List.replicate ((n:Int):Int).toNat 0) (List.replicate ((bt384.2.2.2.1.length:Int):Int).toNat []) w (w.length:Int) 0 bt384.1 bt384.2.1 bt384.2.2.1 bt384.2.2.2.1 bt384.2.2.2.2.1) else(none)) else(none)) else(none)) else(none)) else(some (([]:List Int),bt384.2.2.2.2.2.2.2.2)))) else(some (([]:List Int),t383))))) R):Ev (fun k=>riffle_Turn.f k p n c w) R:=by
 unfold riffle_Turn.f
 refine ev_bind (sizes_good n c h3.most h3.one h3.chunks) (ev_pos rfl (Ev.step (fun k=>?_) hR))
 rw[riffle_Turn.j0,if_neg (by simp[hl])]
theorem turn_ev {p:List Int} (hp:Bytes p) (hpl:p.length≤140737488351232) {n c:Nat} (h3:Fit3 n c) {w:List Int} (hl:w.length=n) :
  (¬ Fits w→Ev (fun k=>riffle_Turn.f k p n c w) ([],110)) ∧
  (Fits w→(¬ ∃ ds P own,Lay p n c ds P own)→Ev (fun k=>riffle_Turn.f k p n c w) ([],3)) ∧
  (Fits w→∀ ds P own,Lay p n c ds P own→∃ es R,Good (sz n c) es R∧R.map (·.1)=chOf n c w∧allOff c R=allOff c P∧Ev (fun k=>riffle_Turn.f k p n c w) (turnT p n c es w,0)):=by
 have hck:=perm_check_ev w (by have:=h3.most;omega)
 refine⟨fun fw=>?_,fun fw hn=>?_,fun fw ds P own h=>?_⟩
 ·rw[if_neg fw] at hck
  exact turn_start h3 hl (ev_bind hck (ev_neg (by decide) (Ev.now _)))
 ·rw[if_pos fw] at hck
  rcases read_ev hp hpl n c h3.most h3.one h3.chunks with⟨ds,P,own,h,e⟩|⟨_,e⟩
  ·exact absurd ⟨ds,P,own,h⟩ hn
  ·exact turn_start h3 hl (ev_bind hck (ev_pos rfl (ev_bind e (ev_neg (by decide) (Ev.now _)))))
 ·rw[if_pos fw] at hck
  obtain⟨es,R,g,g1,g2⟩:=Good.with h3 fw hl h.good
  refine⟨es,R,g,g1,g2,?_⟩
  rcases read_ev hp hpl n c h3.most h3.one h3.chunks with⟨ds',P',own',h',e⟩|⟨hn,e⟩
  ·obtain⟨rfl,rfl,rfl⟩:=h.same h'
   have hz:=sz_len n c
   have hm:=h3.most
   have hc:=h3.chunks
   refine turn_start h3 hl (ev_bind hck (ev_pos rfl (ev_bind e (ev_pos rfl ?_))))
   dsimp only
   refine ev_pos (by omega) (ev_pos (by omega) (ev_pos (by omega) (ev_pos (by omega) ?_)))
   have:=turn_l0 hp hpl h g fw hl g1 g2 n 0 (by omega)
   have e1:(tab n fun t=>if t<0 then(chk n c (rd w (t:Int)):Int) else 0)=List.replicate n 0:=by
    rw[tab_zero]
    exact tab_congr _ _ _ fun t _=>by rw[if_neg (by omega)]
   have e2:(List.range c).map (ownOf n c (w.take 0))=List.replicate c []:=by
    apply List.ext_getElem (by simp)
    intro j h1 h2
    simp[ownOf]
   rw[e1,e2] at this
   rw[hz,Int.toNat_natCast,Int.toNat_natCast,hl]
   exact this
  ·exact absurd ⟨ds,P,own,h⟩ hn
end Go.Proofs.Ytbnifpfnjhdenaa.Pl
end
section
set_option linter.unusedVariables false
set_option linter.unusedSimpArgs false
namespace Go.Proofs.Ytbnifpfnjhdenaa.Pl
open Go.RowKit Go.Proofs.Ytbnifpfnjhdenaa.Q Go.Proofs.YtbnifpfnjhdenaaW.PrintWords Go.Proofs.YtbnifpfnjhdenaaW.PrintLast
theorem copied_f (l:List Int) (h:l.length<140737488355328):churnref09_copied.f l=some l:=by
 unfold churnref09_copied.f
 rw[if_pos (by simpa using h),List.nil_append]
theorem ref_split_ev (p:List Int) (c:Int) (hp:p.length≤140737488351232):Ev (fun k=>churnref09_Split.f k p c) (splitS p c):=by
 unfold churnref09_Split.f splitS
 have bad:∀ b,b=true→Ev (fun k=>churnref09_Split.j0 k p c b) ([],[],[],2):=fun b hb=>Ev.step (f:=fun _=>some ([],[],[],2)) (fun k=>by rw[churnref09_Split.j0,if_pos hb]) (Ev.now _)
 by_cases h1:c<1
 ·rw[if_pos (Or.inl h1)]
  exact ev_pos h1 (bad _ rfl)
 refine ev_neg h1 ?_
 by_cases h2:c > 64
 ·rw[if_pos (Or.inr h2)]
  exact bad _ (by simp;omega)
 rw[if_neg (by omega)]
 by_cases h3:p.length<18
 ·rw[if_pos h3]
  exact Ev.step (f:=fun _=>some ([],[],[],3)) (fun k=>by rw[churnref09_Split.j0,if_neg (by simp;omega),if_pos (by omega)]) (Ev.now _)
 rw[if_neg h3]
 obtain⟨n,rfl⟩:=Int.eq_ofNat_of_zero_le (show 0≤c by omega)
 simp only[Int.toNat_natCast]
 have hrl:=restOf_len p
 have key:∀ (d j:Nat),j+d=n→Ev (fun k=>churnref09_Split.l0 k (n:Int) (restOf p) (qOf p n:Int) (j:Int) (noiseOf p) (braidOf p) (pieces (restOf p) (qOf p n) j)) (noiseOf p,braidOf p,pieces (restOf p) (qOf p n) n,0):=by
  intro d
  induction d with
  | zero =>
   intro j hj
   have:j=n:=by omega
   subst this
   exact Ev.step (f:=fun _=>some (noiseOf p,braidOf p,pieces (restOf p) (qOf p j) j,0)) (fun k=>by rw[churnref09_Split.l0,if_neg (by omega)]) (Ev.now _)
  | succ d ih =>
   intro j hj
   have a1:=qmul_le p n (j+1) (by omega)
   have a2:j*qOf p n≤(j+1)*qOf p n:=Nat.mul_le_mul_right _ (by omega)
   have a3:(j+1)*qOf p n=j*qOf p n+qOf p n:=Nat.succ_mul _ _
   have hpl:=piece_len p n j (by omega)
   have hql:qOf p n≤(restOf p).length:=Nat.div_le_self _ _
   have hcl:=copied_f (piece (restOf p) (qOf p n) j) (by omega)
   have b1:(j:Int)<(n:Int):=by omega
   have b2:(0:Int)≤((j*qOf p n:Nat):Int):=by omega
   have b3:((j*qOf p n:Nat):Int)≤(((j+1)*qOf p n:Nat):Int):=by omega
   have b4:(((j+1)*qOf p n:Nat):Int)≤((restOf p).length:Int):=by omega
   have b5:j*qOf p n≤9223372036854775807:=by omega
   have b6:(j+1)*qOf p n≤9223372036854775807:=by omega
   have b8:(pieces (restOf p) (qOf p n) j).length<5864062014805:=by simp[pieces];omega
   have b10:j+1≤9223372036854775807:=by omega
   have b9:j+1+d=n:=by omega
   have b7:wrap64 ((j:Int)+1)=((j+1:Nat):Int):=w64n (x:=j+1) b10
   have e1:wrap64 ((j:Int)*(qOf p n:Int))=((j*qOf p n:Nat):Int):=by rw[←Int.natCast_mul];exact w64n b5
   have e2:wrap64 (((j*qOf p n:Nat):Int)+(qOf p n:Int))=(((j+1)*qOf p n:Nat):Int):=by
    rw[←Int.natCast_add,←a3]
    exact w64n b6
   refine Ev.step (fun k=>?_) (ih (j+1) b9)
   rw[churnref09_Split.l0,if_pos b1,e1,e2,if_pos b2,if_pos b3,if_pos b4,Int.toNat_natCast,Int.toNat_natCast,show((restOf p).take ((j+1)*qOf p n)).drop (j*qOf p n)=piece (restOf p) (qOf p n) j from rfl,hcl,Option.bind_some,
    if_pos b8,b7,pieces_succ]
 have h0:=key n 0 (by omega)
 have hd:(p.drop 18).length=p.length-18:=by simp
 have g1:¬ ((p.length:Int)<18):=by omega
 have g2:(18:Int)≤(p.length:Int):=by omega
 have g3:(0:Int)≤(((p.length-18) / 2:Nat):Int):=by omega
 have g4:(((p.length-18) / 2:Nat):Int)≤((p.drop 18).length:Int):=by rw[hd];omega
 have g5:(p.take 18).length<140737488355328:=by simp;omega
 have g6:((p.drop 18).take ((p.length-18) / 2)).length<140737488355328:=by simp;omega
 have g7:¬ ((n:Int)=0):=by omega
 have g8:¬ (decide ((n:Int) > 64)=true):=by simpa using h2
 have g9:(restOf p).length≤9223372036854775807:=by omega
 have hw:wrap64 (((p.drop 18).length:Int) / 2)=(((p.length-18) / 2:Nat):Int):=by rw[hd,w64 (by omega) (by omega)];omega
 refine Ev.step (fun k=>?_) h0
 have hq:wrap64 (((restOf p).length:Int) / (n:Int))=(qOf p n:Int):=by
  rw[←Int.natCast_ediv]
  exact w64n (Nat.le_trans (Nat.div_le_self _ _) g9)
 rw[churnref09_Split.j0,if_neg g8,if_neg g1,if_pos g2,copied_f _ g5,Option.bind_some,Option.bind_some,hw,if_pos g3,if_pos g4,Int.toNat_natCast,copied_f _ g6,Option.bind_some,Option.bind_some,if_neg g7]
 show churnref09_Split.l0 k (n:Int) (restOf p) (wrap64 (((restOf p).length:Int) / (n:Int))) _ _ _ _=_
 rw[hq]
 rfl
end Go.Proofs.Ytbnifpfnjhdenaa.Pl
end
section
set_option linter.unusedVariables false
set_option linter.unusedSimpArgs false
namespace Go.Proofs.Ytbnifpfnjhdenaa.Pl
open Go.RowKit Go.Proofs.Ytbnifpfnjhdenaa.Q Go.Proofs.YtbnifpfnjhdenaaW.PrintWords Go.Proofs.YtbnifpfnjhdenaaW.PrintLast
theorem ref_identity_ev (n:Nat) (hn:n≤17592186044415):Ev (fun k=>churnref11_Identity.f k (n:Int)) (iota n):=by
  unfold churnref11_Identity.f
  have key:∀ (d i:Nat),i+d=n→Ev (fun k=>churnref11_Identity.l0 k (n:Int) (iota i) (i:Int)) (iota n):=by
    intro d
    induction d with
    | zero =>
      intro i hi
      obtain rfl:i=n:=by omega
      exact Ev.step (f:=fun _=>some (iota i)) (fun k=>by rw[churnref11_Identity.l0,if_neg (by omega)]) (Ev.now _)
    | succ d ih =>
      intro i hi
      refine Ev.step (fun k=>by rw[churnref11_Identity.l0,if_pos (by omega),if_pos (by rw[iota_len];omega),w64 (by omega) (by omega),←iota_succ];rfl) (ih (i+1) (by omega))
  exact key n 0 (by omega)
theorem ref_bounds_ev (n:Int) (hn:n≤17592186044415):Ev (fun k=>churnref11_Bounds.f k n) (boundsL n.toNat):=by
  unfold churnref11_Bounds.f
  by_cases h0:n≤1
  · have:boundsL n.toNat=[]:=List.eq_nil_of_length_eq_zero (by rw[boundsL_len];omega)
    rw[this]
    exact Ev.step (f:=fun _=>some []) (fun k=>by rw[churnref11_Bounds.l0,if_neg (by omega)]) (Ev.now _)
  · obtain⟨m,rfl⟩:∃ m:Nat,n=(m:Int):=⟨n.toNat,by omega⟩
    have key:∀ (j:Nat) (acc:List Int),acc.length+j≤17592186044415→Ev (fun k=>churnref11_Bounds.l0 k acc (j:Int)) (acc ++ boundsL j):=by
      intro j
      induction j with
      | zero=>intro acc h;exact Ev.step (f:=fun _=>some acc) (fun k=>by rw[churnref11_Bounds.l0,if_neg (by omega)]) (ev_some (by simp[boundsL]))
      | succ j ih =>
        intro acc h
        by_cases hj:j=0
        · subst hj
          exact Ev.step (f:=fun _=>some acc) (fun k=>by rw[churnref11_Bounds.l0,if_neg (by omega)]) (ev_some (by simp[boundsL]))
        · obtain⟨j,rfl⟩:∃ i,j=i+1:=⟨j-1,by omega⟩
          refine Ev.step (f:=fun k=>churnref11_Bounds.l0 k (acc ++ [((j+1+1:Nat):Int)]) ((j+1:Nat):Int)) (fun k=>?_) (ev_to (ih _ (by simp;omega)) (by simp[boundsL];omega))
          rw[churnref11_Bounds.l0,if_pos (by omega),if_pos (by omega),w64 (by omega) (by omega),show((j+1+1:Nat):Int)-1=((j+1:Nat):Int) by omega]
    exact key m [] (by simp;omega)
theorem ref_from_walk (n:Nat) (l:List Int) (hn:l.length+1=n∨l=[]) (hl:n≤17592186044000) (hf:FitD (n:Int) l) :
    ∀ (d i:Nat) (a:List Int),i+d=l.length→a.length=n→Ev (fun k=>churnref11_From.l0 k (n:Int) l a (i:Int)) (fromL a (n-1-i) (l.drop i),0):=by
  intro d
  induction d with
  | zero =>
    intro i a hi ha
    rw[List.drop_eq_nil_of_le (by omega)]
    exact Ev.step (f:=fun _=>some (a,0)) (fun k=>by rw[churnref11_From.l0,if_neg (by omega)]) (Ev.now _)
  | succ d ih =>
    intro i a hi ha
    have hn' : l.length + 1 = n := by rcases hn with h | h; · exact h
                                      · subst h;simp at hi
    obtain⟨f1,f2⟩:=hf i (by omega)
    rw[drop_rd l i (by omega),fromL,show n-1-i-1=n-1-(i+1) by omega]
    refine Ev.step (f:=fun k=>churnref11_From.l0 k (n:Int) l (swp a (n-1-i) (rd l (i:Int)).toNat) ((i+1:Nat):Int)) (fun k=>?_) (ih (i+1) _ (by omega) (by rw[swp_len,ha]))
    have e:wrap64 (wrap64 ((n:Int)-1)-(i:Int))=((n-1-i:Nat):Int):=by rw[w64 (x:=(n:Int)-1) (by omega) (by omega),w64 (by omega) (by omega)];omega
    rw[churnref11_From.l0,if_pos (by omega),if_pos (by omega),e,if_pos (by omega),if_pos (by omega),if_pos (by omega),if_pos (by omega),w64 (by omega) (by omega)]
    unfold swp
    rw[Int.toNat_of_nonneg f1]
    rfl
theorem ref_fit (n:Nat) (l:List Int) (hl:l.length≤17592186044000) (hl2:n≤17592186044000) :
    ∀ (d i:Nat),i+d=l.length→(∀ k:Nat,k<i→0≤rd l (k:Int)∧rd l (k:Int)<(n:Int)-(k:Int))→Ev (fun k=>churnref11_Fit.l0 k (n:Int) l (i:Int)) (decide (FitD (n:Int) l)):=by
  intro d
  induction d with
  | zero =>
    intro i hi hk
    have hf:FitD (n:Int) l:=fun k h=>hk k (by omega)
    rw[decide_eq_true hf]
    exact Ev.step (f:=fun _=>some true) (fun k=>by rw[churnref11_Fit.l0,if_neg (by omega)]) (Ev.now _)
  | succ d ih =>
    intro i hi hk
    by_cases h1:rd l (i:Int)<0
    · rw[decide_eq_false (fun hf:FitD _ l=>by have:=(hf i (by omega)).1;omega)]
      exact Ev.step (f:=fun _=>some false) (fun k=>by rw[churnref11_Fit.l0,if_pos (by omega),if_pos (by omega),if_pos h1]) (Ev.now _)
    · by_cases h2:rd l (i:Int) ≥ (n:Int)-(i:Int)
      · rw[decide_eq_false (fun hf:FitD _ l=>by have:=(hf i (by omega)).2;omega)]
        exact Ev.step (f:=fun _=>some false) (fun k=>by rw[churnref11_Fit.l0,if_pos (by omega),if_pos (by omega),if_neg h1,w64 (x:=(n:Int)-(i:Int)) (by omega) (by omega),if_pos h2]) (Ev.now _)
      · refine Ev.step (fun k=>?_) (ih (i+1) (by omega) (fun k h=>?_))
        · rw[churnref11_Fit.l0,if_pos (by omega),if_pos (by omega),if_neg h1,w64 (x:=(n:Int)-(i:Int)) (by omega) (by omega),if_neg h2,w64 (by omega) (by omega)]
          rfl
        · by_cases hki:k=i
          · subst hki;exact⟨by omega,by omega⟩
          · exact hk k (by omega)
theorem ref_fit_ev (n:Nat) (l:List Int) (hl:l.length≤17592186044000) (hl2:n≤17592186044000) (hm:l.length=n-1):Ev (fun k=>churnref11_Fit.f k (n:Int) l) (decide (FitD (n:Int) l)):=by
  unfold churnref11_Fit.f
  refine ev_bind (ref_bounds_ev (n:Int) (by omega)) (ev_pos (by rw[boundsL_len];omega) ?_)
  exact ref_fit n l hl hl2 l.length 0 (by omega) (fun k h=>by omega)
theorem ref_from_j0 (m:Nat) (l:List Int) (hn:l.length+1=m∨l=[]) (hl:m≤17592186044000):Ev (fun k=>churnref11_From.j0 k (m:Int) l (!(decide (FitD (m:Int) l)))) (if FitD (m:Int) l then(fromL (iota m) (m-1) l,0) else([],110)):=by
  by_cases hf:FitD (m:Int) l
  · rw[decide_eq_true hf,if_pos hf]
    refine Ev.step (fun k=>by rw[churnref11_From.j0,if_neg (by decide)]) (ev_bind (ref_identity_ev m (by omega)) ?_)
    exact ref_from_walk m l hn hl hf l.length 0 _ (by omega) (iota_len m)
  · rw[decide_eq_false hf,if_neg hf]
    exact Ev.step (f:=fun _=>some ([],110)) (fun k=>by rw[churnref11_From.j0,if_pos (by decide)]) (Ev.now _)
theorem ref_from_ev (n:Int) (l:List Int) (hn: -9223372036854775808≤n∧n≤9223372036854775807) (hl:l.length≤17592186043904):Ev (fun k=>churnref11_From.f k n l) (fromA n l):=by
  unfold churnref11_From.f fromA
  have out:Ev (fun k=>churnref11_From.j0 k n l true) ([],110):=Ev.step (f:=fun _=>some ([],110)) (fun k=>by rw[churnref11_From.j0,if_pos rfl]) (Ev.now _)
  by_cases h0:n<0
  · rw[if_pos h0];exact ev_pos h0 (Ev.now _)
  · rw[if_neg h0]
    refine ev_neg h0 ?_
    rw[w64 (by omega) (by omega)]
    by_cases h1:n=(l.length:Int)+1
    · have hm:(l.length:Int)=mx (n-1) 0:=by rw[mx_pos _ (by omega)];omega
      obtain⟨m,rfl⟩:∃ m:Nat,n=(m:Int):=⟨n.toNat,by omega⟩
      refine ev_pos h1 (ev_bind (ref_fit_ev m l (by omega) (by omega) (by omega)) (ev_to (ref_from_j0 m l (Or.inl (by omega)) (by omega)) ?_))
      by_cases hf:FitD (m:Int) l
      · rw[if_pos hf,if_pos ⟨hm,hf⟩]
        rfl
      · rw[if_neg hf,if_neg (fun h=>hf h.2)]
    · refine ev_neg h1 ?_
      by_cases h2:n=0
      · refine ev_pos h2 ?_
        by_cases h3:(l.length:Int)=0
        · have hm:(l.length:Int)=mx (n-1) 0:=by rw[mx_neg _ (by omega)];omega
          obtain⟨m,rfl⟩:∃ m:Nat,n=(m:Int):=⟨n.toNat,by omega⟩
          refine ev_pos h3 (ev_bind (ref_fit_ev m l (by omega) (by omega) (by omega)) (ev_to (ref_from_j0 m l (Or.inr (List.eq_nil_of_length_eq_zero (by omega))) (by omega)) ?_))
          by_cases hf:FitD (m:Int) l
          · rw[if_pos hf,if_pos ⟨hm,hf⟩]
            rfl
          · rw[if_neg hf,if_neg (fun h=>hf h.2)]
        · have hm:¬ (l.length:Int)=mx (n-1) 0:=by rw[mx_neg _ (by omega)];omega
          rw[if_neg (fun h=>hm h.1)]
          exact ev_neg h3 out
      · have hm:¬ (l.length:Int)=mx (n-1) 0:=by rw[mx_pos _ (by omega)];omega
        rw[if_neg (fun h=>hm h.1)]
        exact ev_neg h2 out
end Go.Proofs.Ytbnifpfnjhdenaa.Pl
end
section
set_option linter.unusedVariables false
set_option linter.unusedSimpArgs false
namespace Go.Proofs.Ytbnifpfnjhdenaa.Pl
open Go.RowKit Go.Proofs.Ytbnifpfnjhdenaa.Q Go.Proofs.YtbnifpfnjhdenaaW.PrintWords Go.Proofs.YtbnifpfnjhdenaaW.PrintLast Go.Proofs.Ytbnifpfnjhdenaa.Pure
theorem ref_fA (p bs:List Int) (hp:Bytes p) (hl:p.length≤140737488351232) (hbl:bs.length≤17592186043904):Ev (fun k=>churnref10_All.f k p bs) (drA p bs):=by
 rw[←allA_dr]
 exact ref_all_ev p bs hp hl hbl
theorem ref_step_ok {l:List Int} (hl:Bytes l) (hle:l.length≤140737488351232) (s:Nat) (hs:s≤256) {q:List Int} (h:permOf l s=some q) :
  ∃ ds u,Ev (fun k=>churnref10_All.f k l (boundsL s)) (ds,u,0)∧Ev (fun k=>churnref11_From.f k (s:Int) ds) (q,0):=by
 obtain⟨h1,h2,ds,u,h3,h4,h5,h6⟩:=permOf_fits hl hs h
 obtain⟨f1,f2⟩:=boundsL_fit h4
 refine⟨ds,(u:Int),?_,ev_to (ref_from_ev (s:Int) ds (by omega) (by omega)) ?_⟩
 ·have:=ref_fA l (boundsL s) hl hle (by rw[boundsL_len];omega)
  rwa [drA_some (boundsL_ok s hs) h3] at this
 ·unfold fromA
  have hm:((ds.length:Nat):Int)=mx ((s:Int)-1) 0:=by unfold mx;split <;> omega
  rw[if_neg (by omega),if_pos ⟨hm,f2⟩,Int.toNat_natCast,h5]
theorem ref_step_no {l:List Int} (hl:Bytes l) (hle:l.length≤140737488351232) (s:Nat) (hs:s≤256) (h:permOf l s=none):Ev (fun k=>churnref10_All.f k l (boundsL s)) ([],0,3):=by
 unfold permOf at h
 have:=ref_fA l (boundsL s) hl hle (by rw[boundsL_len];omega)
 rwa [drA_none (boundsL_ok s hs) (Option.map_eq_none_iff.1 h)] at this
theorem ref_bounds_ev' (s:Nat) (hs:s≤256):Ev (fun k=>churnref11_Bounds.f k (s:Int)) (boundsL s):=by
 have:=ref_bounds_ev (s:Int) (by omega)
 rwa [Int.toNat_natCast] at this
theorem laid_loop {p:List Int} (hp:Bytes p) (hl:p.length≤140737488351232) (n c:Nat) (hn:n≤256) (h1:1≤c) (hc:c≤64) (C O y0 y1:List Int) :
  ∀ (d j:Nat) (L:List (List Int)),j+d=c→L.length=j →
  ∃ L',Ev (fun k=>churnref13_laid.l0 k (c:Int) (j:Int) (sz n c) C O L y0 y1 (pieces (restOf p) (qOf p c) c))
   (match permsG (fun j=>permOf (piece (restOf p) (qOf p c) j) (szf n c j)) d j L with|some own=>(sz n c,C,O,own,true)|none=>(sz n c,C,O,L',false)):=by
 intro d
 induction d with
 | zero =>
  intro j L hj hL
  obtain rfl:j=c:=by omega
  rw[permsG]
  exact⟨L,Ev.step (f:=fun _=>some (sz n j,C,O,L,true)) (fun k=>by rw[churnref13_laid.l0,if_neg (by omega)]) (Ev.now _)⟩
 | succ d ih =>
  intro j L hj hL
  rw[permsG]
  have hjc:j<c:=by omega
  have hs:=szf_le n c j hn h1
  have hsl:=sz_len n c
  have hrd:=sz_rd n c j hjc
  have hby:=bytes_piece hp (qOf p c) j
  have hpl:=piece_le p (qOf p c) j
  have hplen:=pieces_len (restOf p) (qOf p c) c
  have st:∀ R,Ev (fun k=>(churnref10_All.f k ((pieces (restOf p) (qOf p c) c).getD j []) (boundsL (szf n c j))).bind fun bt716=>(if bt716.2.2=0 then((churnref11_From.f k (szf n c j:Int) bt716.1).bind fun bt722=>(if L.length<5864062014805 then(churnref13_laid.l0 k (c:Int) (wrap64 ((j:Int)+1)) (sz n c) C O (L ++ [bt722.1]) y0 y1 (pieces (restOf p) (qOf p c) c)) else(none))) else(some (sz n c,C,O,L,false)))) R→Ev (fun k=>churnref13_laid.l0 k (c:Int) (j:Int) (sz n c) C O L y0 y1 (pieces (restOf p) (qOf p c) c)) R:=by
   intro R hR
   exact Ev.step (fun k=>by rw[churnref13_laid.l0,if_pos (by omega),if_pos (by omega),if_pos (by omega),if_pos (by omega),hrd]) (ev_bind (ref_bounds_ev' _ hs) hR)
  rw[pieces_rd _ _ _ _ hjc] at st
  cases hq:permOf (piece (restOf p) (qOf p c) j) (szf n c j) with
  | none=>exact⟨L,st _ (ev_bind (ref_step_no hby (by omega) _ hs hq) (ev_neg (by decide) (Ev.now _)))⟩
  | some q =>
   obtain⟨es,u,e1,e2⟩:=ref_step_ok hby (by omega) _ hs hq
   obtain⟨L',hE⟩:=ih (j+1) (L ++ [q]) (by omega) (by simp[hL])
   refine⟨L',st _ (ev_bind e1 (ev_pos rfl (ev_bind e2 (ev_pos (by omega) ?_))))⟩
   rw[w64 (x:=(j:Int)+1) (by omega) (by omega)]
   exact hE
theorem laid_ev {p:List Int} (hp:Bytes p) (hl:p.length≤140737488351232) (n c:Nat) (hn:n≤256) (h1:1≤c) (hc:c≤64) :
  (∀ ds P own,Lay p n c ds P own→Ev (fun k=>churnref13_laid.f k p n c) (sz n c,fsts P,allOff c P,own,true)) ∧
  ((¬ ∃ ds P own,Lay p n c ds P own)→∃ r,r.2.2.2.2=false∧Ev (fun k=>churnref13_laid.f k p n c) r):=by
 by_cases h18:p.length<18
 ·refine⟨fun ds P own h=>by have:=h.long;omega,fun _=>⟨([],[],[],[],false),rfl,?_⟩⟩
  unfold churnref13_laid.f
  refine ev_bind (ref_split_ev p c hl) ?_
  unfold splitS
  rw[if_neg (by omega),if_pos h18]
  exact ev_neg (by decide) (Ev.now _)
 have hbl:=braid_le p
 have hD:=ref_fA (braidOf p) (bnd n) (bytes_braid hp) (by omega) (by rw[bnd_len];omega)
 have start:∀ R,Ev (fun k=>(if(drA (braidOf p) (bnd n)).2.2=0 then((churnref12_Pattern.f k (sz n c) (drA (braidOf p) (bnd n)).1).bind fun bt704=>(churnref13_laid.l0 k (c:Int) 0 (sz n c) bt704.1 bt704.2.1 ([]:List (List Int)) (noiseOf p) (braidOf p) (pieces (restOf p) (qOf p c) c))) else(some (sz n c,([]:List Int),([]:List Int),([]:List (List Int)),false)))) R→Ev (fun k=>churnref13_laid.f k p n c) R:=by
  intro R hR
  unfold churnref13_laid.f
  refine ev_bind (ref_split_ev p c hl) ?_
  rw[splitS_ok (by omega) h1 hc]
  exact ev_pos rfl (ev_bind (ref_sizes_good n c hn h1 hc) (ev_bind (ref_bounds_good n hn) (ev_bind hD hR)))
 cases hd:dr (braidOf p) (bnd n) 0 with
 | none =>
  refine⟨fun ds P own h=>?_,fun _=>⟨(sz n c,[],[],[],false),rfl,start _ ?_⟩⟩
  ·obtain⟨u,hu⟩:=h.draws
   rw[hd] at hu
   exact absurd hu (by simp)
  ·rw[drA_none (bnd_ok n hn) hd]
   exact ev_neg (by decide) (Ev.now _)
 | some r =>
  obtain⟨ds,u⟩:=r
  have hv:=dr_valid _ (bytes_braid hp) (bnd n) 0 (bnd_ok n hn) (by omega) _ hd
  obtain⟨P,g⟩:=sz_fit hn h1 hc hv
  obtain⟨L',key⟩:=laid_loop hp hl n c hn h1 hc (fsts P) (allOff c P) (noiseOf p) (braidOf p) c 0 [] (by omega) rfl
  have key':=start _ (by
   rw[drA_some (bnd_ok n hn) hd]
   have hgr:=g.ref
   rw[sz_len] at hgr
   exact ev_pos rfl (ev_bind hgr key))
  cases ho:permsG (fun j=>permOf (piece (restOf p) (qOf p c) j) (szf n c j)) c 0 [] with
  | none =>
   rw[ho] at key'
   refine⟨fun es Q own h=>?_,fun _=>⟨_,rfl,key'⟩⟩
   have:=h.owns
   rw[ho] at this
   exact absurd this (by simp)
  | some own =>
   rw[ho] at key'
   have hL:Lay p n c ds P own:=⟨by omega,hn,h1,hc,⟨u,hd⟩,g,ho⟩
   refine⟨fun es Q won h=>?_,fun h=>absurd ⟨ds,P,own,hL⟩ h⟩
   obtain⟨_,e2,e3⟩:=hL.same h
   rw[←e2,←e3]
   exact key'
theorem ref_fit_f (n c:Int):churnref13_fit.f n c=some (decide (0≤n∧n≤256∧1≤c∧c≤64)):=by
 unfold churnref13_fit.f
 by_cases h1:n ≥ 0
 ·rw[if_pos h1]
  by_cases h2:n≤256
  ·rw[if_pos h2]
   by_cases h3:c ≥ 1
   ·rw[if_pos h3]
    congr 1
    simp[h1,h2,h3]
   ·rw[if_neg h3,decide_eq_false (by omega)]
  ·rw[if_neg h2,decide_eq_false (by omega)]
 ·rw[if_neg h1,decide_eq_false (by omega)]
end Go.Proofs.Ytbnifpfnjhdenaa.Pl
end
section
set_option linter.unusedVariables false
set_option linter.unusedSimpArgs false
namespace Go.Proofs.Ytbnifpfnjhdenaa.Pl
open Go.RowKit Go.Proofs.Ytbnifpfnjhdenaa.Q Go.Proofs.YtbnifpfnjhdenaaW.PrintWords Go.Proofs.YtbnifpfnjhdenaaW.PrintLast
theorem at_swp_ref {a r:List Int} (fa:Fits a) (h:At a r) (i j:Nat) (hi:i<a.length) (hj:j<a.length):At (swp a i j) ((r.set (rd a (i:Int)).toNat (j:Int)).set (rd a (j:Int)).toNat (i:Int)):=by
 have bi:=fits_rd fa i hi
 have bj:=fits_rd fa j hj
 refine⟨by rw[swp_len];simp[h.1],fun m hm=>?_⟩
 rw[swp_len] at hm
 have bm:=fits_rd fa m hm
 have hl:=h.1
 rw[swp_get a i j m hi hj hm]
 by_cases h1:m=j
 ·rw[if_pos h1]
  by_cases e:rd a (i:Int)=rd a (j:Int)
  ·have:=fits_rd_inj fa i j hi hj e
   rw[e,rd_set_same _ _ _ bj.1 (by rw[List.length_set];omega)]
   omega
  ·rw[rd_set_ne _ _ _ _ bi.1 (by rw[List.length_set];omega) bj.1 e,rd_set_same _ _ _ bi.1 (by omega)]
   omega
 ·rw[if_neg h1]
  by_cases h2:m=i
  ·rw[if_pos h2,rd_set_same _ _ _ bj.1 (by rw[List.length_set];omega)]
   omega
  ·rw[if_neg h2,rd_set_ne _ _ _ _ bm.1 (by rw[List.length_set];omega) bj.1 (fun e=>h1 (fits_rd_inj fa m j hm hj e)),rd_set_ne _ _ _ _ bm.1 (by omega) bi.1 (fun e=>h2 (fits_rd_inj fa m i hm hi e))]
   exact h.2 m hm
theorem ref_draws_walk (p:List Int) (hl:p.length≤17592186043904) (fp:Fits p):∀ (i:Nat) (a r D:List Int),(i<p.length∨i=0)→Fits a→a.length=p.length→At a r→D.length+i≤p.length →
  Ev (fun k=>churnref11_Draws.l0 k p a r D (i:Int)) (D ++ drawsL p a i,0):=by
 intro i
 induction i with
 | zero =>
  intro a r D hi fa ha hr hD
  exact Ev.step (f:=fun _=>some (D,0)) (fun k=>by rw[churnref11_Draws.l0,if_neg (by omega)]) (ev_some (by simp[drawsL]))
 | succ i ih =>
  intro a r D hi fa ha hr hD
  have hip:i+1<p.length:=by omega
  have bp:=fits_rd fp (i+1) hip
  obtain⟨p1,p2⟩:=pos_spec fa (rd p ((i+1:Nat):Int)) bp.1 (by omega)
  have hpos:=pos_at fa hr (rd p ((i+1:Nat):Int)) bp.1 (by omega)
  have hrl:=hr.1
  have f2:=fits_swp fa (i+1) _ (by omega) p1
  have h2:=at_swp_ref fa hr (i+1) (pos a (rd p ((i+1:Nat):Int))) (by omega) p1
  have:=ih (swp a (i+1) (pos a (rd p ((i+1:Nat):Int)))) _ (D ++ [(pos a (rd p ((i+1:Nat):Int)):Int)]) (by omega) f2 (by rw[swp_len,ha]) h2 (by simp;omega)
  rw[List.append_assoc] at this
  rw[drawsL]
  refine Ev.step (fun k=>?_) this
  have b1:=fits_rd fa (i+1) (by omega)
  have b2:=fits_rd fa _ p1
  have esw:((a.set ((i+1:Nat):Int).toNat (rd a (pos a (rd p ((i+1:Nat):Int)):Int))).set ((pos a (rd p ((i+1:Nat):Int)):Int)).toNat (rd a ((i+1:Nat):Int)):List Int)=swp a (i+1) (pos a (rd p ((i+1:Nat):Int))):=by unfold swp;simp
  rw[churnref11_Draws.l0,if_pos (by omega),if_pos (by omega),if_pos (by omega),if_pos (by omega),if_pos (by omega),if_pos (by omega),if_pos (by omega),hpos,if_pos (by omega),if_pos (by omega),if_pos (by omega),if_pos (by omega),if_pos (by omega),if_pos (by omega),esw,w64 (by omega) (by omega),show((i+1:Nat):Int)-1=(i:Int) by omega]
theorem ref_draws_all (p:List Int) (hl:p.length≤17592186043904):Ev (fun k=>churnref11_Draws.f k p) (drawsA p):=by
 unfold churnref11_Draws.f drawsA
 refine ev_bind (check_ev p (by omega)) ?_
 by_cases fp:Fits p
 ·rw[if_pos fp,if_pos fp]
  refine ev_pos rfl (ev_bind (ref_identity_ev p.length (by omega)) (ev_bind (ref_identity_ev p.length (by omega)) ?_))
  rw[w64 (by omega) (by omega)]
  by_cases h0:p.length=0
  ·rw[h0]
   exact Ev.step (f:=fun _=>some ([],0)) (fun k=>by rw[churnref11_Draws.l0,if_neg (by omega)]) (Ev.now _)
  ·have:=ref_draws_walk p hl fp (p.length-1) (iota p.length) (iota p.length) [] (by omega) (fits_iota _) (iota_len _) (at_iota _) (by simp)
   rw[show((p.length-1:Nat):Int)=(p.length:Int)-1 by omega] at this
   exact this
 ·rw[if_neg fp,if_neg fp]
  exact ev_neg (by decide) (Ev.now _)
end Go.Proofs.Ytbnifpfnjhdenaa.Pl
end
section
set_option linter.unusedVariables false
set_option linter.unusedSimpArgs false
namespace Go.Proofs.Ytbnifpfnjhdenaa.Pl
open Go.RowKit Go.Proofs.Ytbnifpfnjhdenaa.Q Go.Proofs.YtbnifpfnjhdenaaW.PrintWords Go.Proofs.YtbnifpfnjhdenaaW.PrintLast
theorem ref_draws_sum (s off left nxl out c:List Int) (j:Nat) (o:Int) (n i:Int) (R:List Int×Int) (hj:j<left.length) (hn:Nonneg left) (hb:total left≤256) (hm:left.length≤64) (h0:0≤o) (h1:o≤256)
  (next:Ev (fun k=>if out.length<17592186044416 then(if 0≤(j:Int) then(if(j:Int)<(left.length:Int) then(if(j:Int)<(nxl.length:Int) then(churnref12_Draws.l1 k s c off n (left.set ((j:Int):Int).toNat (wrap64 ((rd left (j:Int))-1))) (nxl.set ((j:Int):Int).toNat (wrap64 ((rd nxl (j:Int))+1))) (out ++ [psum left j+o]) (wrap64 (i+1))) else(none)) else(none)) else(none)) else(none)) R) :
  Ev (fun k=>churnref12_Draws.l2 k s c off n left nxl out i (j:Int) o 0) R:=by
 have key:∀ (t a:Nat),a+t=j→Ev (fun k=>churnref12_Draws.l2 k s c off n left nxl out i (j:Int) (psum left a+o) (a:Int)) R:=by
  intro t
  induction t with
  | zero =>
   intro a ha
   have:a=j:=by omega
   subst this
   refine Ev.step (fun k=>?_) next
   rw[churnref12_Draws.l2,if_neg (by omega)]
  | succ t ih =>
   intro a ha
   have hr:rd left (a:Int)=left[a]:=rd_lt left a (by omega)
   have h2:=psum_succ left a (by omega)
   have h3:=psum_nonneg hn a
   have h4:=psum_total hn (a+1)
   have h5:=hn.at_ a (by omega)
   refine Ev.step (fun k=>?_) (ih (a+1) (by omega))
   rw[churnref12_Draws.l2,if_pos (by omega),if_pos (by omega),if_pos (by omega),hr,w64 (by omega) (by omega),w64 (by omega) (by omega),h2,show psum left a+o+left[a]=psum left a+left[a]+o from by omega]
   rfl
 have:=key j 0 (by omega)
 rw[psum_zero,Int.zero_add] at this
 exact this
theorem ref_draws_loop (s off c:List Int) (m:Nat) (hs:s.length=m) (hm:m≤64) (hc:c.length≤256) (hoff:off.length≤256) (hsn:Nonneg s) (hso:total s≤off.length) :
  ∀ (rem i:Nat) (left:List Int) (nx:Nat→Nat) (out:List Int),i+rem=c.length→Nonneg left→total left≤256→left.length=m→out.length≤256→(∀ x ∈ left,x≤256)→(∀ j,j<m→(nx j:Int)+left.getD j 0=psum s (j+1))→out.length=i →
  (∃ ds P,Told left nx (c.drop i) off ds P∧Ev (fun k=>churnref12_Draws.l1 k s c off (c.length:Int) left (tab m fun j=>nx j) out (i:Int)) (out ++ ds,0)) ∨
  ((¬ ∃ ds P,Told left nx (c.drop i) off ds P)∧Ev (fun k=>churnref12_Draws.l1 k s c off (c.length:Int) left (tab m fun j=>nx j) out (i:Int)) ([],2)):=by
 intro rem
 induction rem with
 | zero =>
  intro i left nx out hi hn hb hl ho hmx hnx hout
  left
  refine⟨[],[],⟨.nil left,by rw[List.drop_of_length_le (by omega)];rfl,fun j k hk=>by simp[vis_nil] at hk⟩,?_⟩
  rw[List.append_nil]
  exact Ev.step (f:=fun _=>some (out,0)) (fun k=>by rw[churnref12_Draws.l1,if_neg (by omega)]) (Ev.now _)
 | succ rem ih =>
  intro i left nx out hi hn hb hl ho hmx hnx hout
  have hlt:i<c.length:=by omega
  have hr:rd c (i:Int)=c[i]:=rd_lt c i hlt
  have hdrop:c.drop i=c[i] ::c.drop (i+1):=List.drop_eq_getElem_cons hlt
  have bad3:∀ x:Bool,x=true→Ev (fun k=>churnref12_Draws.j3 k s c off (c.length:Int) left (tab m fun j=>nx j) out (i:Int) c[i] x) ([],2):=fun x hx=>Ev.step (f:=fun _=>some ([],2)) (fun k=>by rw[churnref12_Draws.j3,if_pos hx]) (Ev.now _)
  by_cases c1:c[i]<0
  ·right
   refine⟨?_,Ev.step (fun k=>?_) (bad3 true rfl)⟩
   ·rintro⟨ds,P,h⟩
    rw[hdrop] at h
    obtain⟨j,hj,o,es,Q,e,_⟩:=h.head
    omega
   ·rw[churnref12_Draws.l1,if_pos (by omega),if_pos (by omega),if_pos (by omega),hr,if_pos c1]
  ·by_cases c2:c[i] ≥ (s.length:Int)
   ·right
    refine⟨?_,Ev.step (fun k=>?_) (bad3 true rfl)⟩
    ·rintro⟨ds,P,h⟩
     rw[hdrop] at h
     obtain⟨j,hj,o,es,Q,e,_⟩:=h.head
     omega
    ·rw[churnref12_Draws.l1,if_pos (by omega),if_pos (by omega),if_pos (by omega),hr,if_neg c1,if_pos c2]
   ·obtain⟨j,hj⟩:∃ j:Nat,c[i]=(j:Int):=⟨c[i].toNat,by omega⟩
    have hjm:j<m:=by omega
    have hjl:j<left.length:=by omega
    have hrl:rd left (j:Int)=left[j]:=rd_lt left j hjl
    have hrn:rd (tab m fun j=>(nx j:Int)) (j:Int)=(nx j:Int):=tab_rd m _ j hjm
    have htl:=tab_len m fun j=>(nx j:Int)
    have hgl:left.getD j 0=left[j]:=by simp[List.getD_eq_getElem?_getD,hjl]
    have hpos:=hn.at_ j hjl
    have hjx:=hnx j hjm
    have hps:=psum_total hsn (j+1)
    have hmj:=hmx _ (List.getElem_mem hjl)
    have step3:∀ R,Ev (fun k=>churnref12_Draws.j3 k s c off (c.length:Int) left (tab m fun j=>nx j) out (i:Int) (j:Int) (left[j] == 0)) R→Ev (fun k=>churnref12_Draws.l1 k s c off (c.length:Int) left (tab m fun j=>nx j) out (i:Int)) R:=by
     intro R hR
     refine Ev.step (fun k=>?_) hR
     rw[churnref12_Draws.l1,if_pos (by omega),if_pos (by omega),if_pos (by omega),hr,hj,if_neg (by omega),if_neg (by omega),if_pos (by omega),if_pos (by omega),hrl]
    by_cases c3:left[j]=0
    ·right
     refine⟨?_,step3 _ (by rw[←hj];exact bad3 _ (by simpa using c3))⟩
     rintro⟨ds,P,h⟩
     rw[hdrop] at h
     obtain⟨j',hj',o,es,Q,e,eo,o0,o1,_⟩:=h.head
     have:j'=j:=by omega
     subst this
     omega
    ·have hno:nx j<off.length:=by omega
     have hro:rd off (nx j:Int)=off[nx j]:=rd_lt off (nx j) hno
     have hgo:off.getD (nx j) 0=off[nx j]:=by simp[List.getD_eq_getElem?_getD,hno]
     have bad4:∀ x:Bool,x=true→Ev (fun k=>churnref12_Draws.j4 k s c off (c.length:Int) left (tab m fun j=>nx j) out (i:Int) (j:Int) off[nx j] x) ([],2):=fun x hx=>Ev.step (f:=fun _=>some ([],2)) (fun k=>by rw[churnref12_Draws.j4,if_pos hx]) (Ev.now _)
     by_cases c4:off[nx j]<0
     ·right
      refine⟨?_,step3 _ (Ev.step (fun k=>?_) (bad4 true rfl))⟩
      ·rintro⟨ds,P,h⟩
       rw[hdrop] at h
       obtain⟨j',hj',o,es,Q,e,eo,o0,o1,_⟩:=h.head
       have:j'=j:=by omega
       subst this
       omega
      ·rw[churnref12_Draws.j3,if_neg (by simp[c3]),if_pos (by omega),if_pos (by omega),hrn,if_pos (by omega),if_pos (by omega),hro,if_pos c4]
     ·have step4:∀ R,Ev (fun k=>churnref12_Draws.j4 k s c off (c.length:Int) left (tab m fun j=>nx j) out (i:Int) (j:Int) off[nx j] (decide (off[nx j] ≥ left[j]))) R→Ev (fun k=>churnref12_Draws.l1 k s c off (c.length:Int) left (tab m fun j=>nx j) out (i:Int)) R:=by
       intro R hR
       refine step3 _ (Ev.step (fun k=>?_) hR)
       rw[churnref12_Draws.j3,if_neg (by simp[c3]),if_pos (by omega),if_pos (by omega),hrn,if_pos (by omega),if_pos (by omega),hro,if_neg c4,if_pos (by omega),hrl]
      by_cases c5:off[nx j] ≥ left[j]
      ·right
       refine⟨?_,step4 _ (bad4 _ (by simpa using c5))⟩
       rintro⟨ds,P,h⟩
       rw[hdrop] at h
       obtain⟨j',hj',o,es,Q,e,eo,o0,o1,_⟩:=h.head
       have:j'=j:=by omega
       subst this
       omega
      ·have hdec:left.set j (wrap64 (left[j]-1))=dec left j:=by
        rw[w64 (by omega) (by omega)]
        unfold dec
        rw[hgl]
       have hnxs:(tab m fun j=>(nx j:Int)).set j (wrap64 ((nx j:Int)+1))=tab m (fun i=>((if i=j then nx j+1 else nx i:Nat):Int)):=by
        rw[w64 (by omega) (by omega),tab_set]
        refine tab_congr m _ _ fun a ha=>?_
        by_cases e:a=j
        ·simp[e]
        ·simp[e]
       have step5:∀ R,Ev (fun k=>churnref12_Draws.l1 k s c off (c.length:Int) (dec left j) (tab m (fun i=>((if i=j then nx j+1 else nx i:Nat):Int))) (out ++ [psum left j+off[nx j]]) ((i+1:Nat):Int)) R →
         Ev (fun k=>churnref12_Draws.l1 k s c off (c.length:Int) left (tab m fun j=>nx j) out (i:Int)) R:=by
        intro R hR
        have h6:=ref_draws_sum s off left (tab m fun j=>(nx j:Int)) out c j off[nx j] (c.length:Int) (i:Int) R hjl hn hb (by omega) (by omega) (by omega) (by
         refine ev_pos (by omega) (ev_pos (by omega) (ev_pos (by omega) (ev_pos (by omega) ?_)))
         rw[hrl,hrn,show((j:Int):Int).toNat=j from by omega,hdec,hnxs,w64 (by omega) (by omega)]
         exact hR)
        refine step4 _ (Ev.step (fun k=>?_) h6)
        rw[churnref12_Draws.j4,if_neg (by simp;omega)]
       have hnn:=dec_nonneg hn j hjl (by omega)
       rcases ih (i+1) (dec left j) (fun a=>if a=j then nx j+1 else nx a) (out ++ [psum left j+off[nx j]]) (by omega) hnn (by rw[dec_total left j hjl];omega) (by rw[dec_length];exact hl) (by simp;omega) (by
         intro x hx
         obtain⟨a,ha,rfl⟩:=List.getElem_of_mem hx
         rw[dec_length] at ha
         rw[dec_get left j a ha]
         have:=hmx _ (List.getElem_mem ha)
         split <;> omega) (by
         intro a ha
         rw[dec_getD left j a (by omega)]
         have:=hnx a ha
         by_cases e:a=j
         ·subst e
          simp only[if_true]
          omega
         ·simp only[if_neg e,if_neg (Ne.symm e)]
          exact this) (by simp;omega) with⟨ds,P,hP,hE⟩|⟨hP,hE⟩
       ·left
        refine⟨(psum left j+off[nx j]) ::ds,(j,off[nx j]) ::P,?_,?_⟩
        ·rw[hdrop]
         exact⟨.cons hjl (by omega) (by omega) rfl hP.1,by simp only[fsts,List.map_cons];rw[←hj];have:=hP.2.1;unfold fsts at this;rw[this],Rdo.cons hgo.symm hP.2.2⟩
        ·have:=step5 _ hE
         rwa [List.append_assoc,List.singleton_append] at this
       ·right
        refine⟨?_,step5 _ hE⟩
        rintro⟨ds,P,h⟩
        rw[hdrop] at h
        obtain⟨j',hj',o,es,Q,e,eo,o0,o1,_,_,ht⟩:=h.head
        have:j'=j:=by omega
        subst this
        exact hP ⟨es,Q,ht⟩
theorem ref_draws_bad (s c off:List Int) (hs:s.length≤17592186044000) (h:¬ (OkS s∧(c.length:Int)=total s∧(off.length:Int)=total s)):Ev (fun k=>churnref12_Draws.f k s c off) ([],2):=by
 obtain⟨n,e,h1,h2⟩:=ref12_total_ev s (by omega)
 unfold churnref12_Draws.f
 refine ev_bind e ?_
 have hend:∀ (x:Bool),x=true→Ev (fun k=>churnref12_Draws.j0 k s c off n x) ([],2):=fun x hx=>Ev.step (f:=fun _=>some ([],2)) (fun k=>by rw[churnref12_Draws.j0,if_pos hx]) (Ev.now _)
 by_cases hO:OkS s
 ·have hN:=h1 hO
  have:=total_nonneg hO.nonneg
  refine ev_neg (by omega) ?_
  by_cases hc:(c.length:Int)=n
  ·refine ev_pos hc (hend _ ?_)
   rw[bne_iff_ne]
   intro ho
   exact h ⟨hO,by omega,by omega⟩
  ·exact ev_neg hc (hend _ rfl)
 ·have hN:=h2 hO
  exact ev_pos (by omega) (hend _ rfl)
theorem ref_draws_good (s c off:List Int) (hs:OkS s) (hc:(c.length:Int)=total s) (ho:(off.length:Int)=total s) :
  (∃ ds P,Told s (start s) c off ds P∧Ev (fun k=>churnref12_Draws.f k s c off) (ds,0))∨((¬ ∃ ds P,Told s (start s) c off ds P)∧Ev (fun k=>churnref12_Draws.f k s c off) ([],2)):=by
 have hm:=hs.most
 have hal:=hs.all
 have hone:=hs.one
 obtain⟨n,e,h1,h2⟩:=ref12_total_ev s (by omega)
 have hnt:=h1 hs
 have hnn:=hs.nonneg
 have h0:=total_nonneg hnn
 have hin:∀ R,Ev (fun k=>churnref12_Draws.l1 k s c off (c.length:Int) s (tab s.length fun j=>(start s j:Nat)) [] ((0:Nat):Int)) R→Ev (fun k=>churnref12_Draws.f k s c off) R:=by
  intro R hR
  have key:∀ (d a:Nat),a+d=s.length→Ev (fun k=>churnref12_Draws.l0 k s c off n (s.take a) (tab a fun j=>(start s j:Nat)) (psum s a) (a:Int)) R:=by
   intro d
   induction d with
   | zero =>
    intro a ha
    obtain rfl:a=s.length:=by omega
    rw[List.take_length]
    refine Ev.step (fun k=>?_) hR
    rw[churnref12_Draws.l0,if_neg (by omega),show n=(c.length:Int) by omega]
    rfl
   | succ d ih =>
    intro a ha
    have htl:=tab_len a fun j=>((start s j:Nat):Int)
    have h2:=psum_succ s a (by omega)
    have h3:=psum_nonneg hnn a
    have h4:=psum_total hnn (a+1)
    have h5:=hnn.at_ a (by omega)
    have hst:psum s a=((start s a:Nat):Int):=by unfold start;omega
    have htk:(s.take a).length=a:=by rw[List.length_take];omega
    refine Ev.step (fun k=>?_) (ih (a+1) (by omega))
    rw[churnref12_Draws.l0,if_pos (by omega),if_pos (by omega),if_pos (by omega),if_pos (by omega),take_rd s a (by omega),tab_succ,←hst,h2,rd_lt s a (by omega),w64 (by omega) (by omega),w64 (by omega) (by omega)]
    rfl
  unfold churnref12_Draws.f
  refine ev_bind e (ev_neg (by omega) (ev_pos (by omega) (Ev.step (fun k=>?_) (key s.length 0 (by omega)))))
  rw[churnref12_Draws.j0,if_neg (by simp;omega),psum_zero]
  rfl
 have hmx:∀ x ∈ s,x≤256:=fun x hx=>(hs.each x hx).2
 have hst:∀ j,j<s.length→((start s j:Nat):Int)+s.getD j 0=psum s (j+1):=by
  intro j hj
  have:=psum_nonneg hnn j
  have e2:=psum_succ s j hj
  have e3:s.getD j 0=s[j]:=by simp[List.getD_eq_getElem?_getD,hj]
  unfold start
  omega
 rcases ref_draws_loop s off c s.length rfl hm (by omega) (by omega) hnn (by omega) c.length 0 s (start s) [] (by omega) hnn (by omega) rfl (by simp) hmx hst rfl with⟨ds,P,hP,hE⟩|⟨hP,hE⟩
 ·left
  rw[List.nil_append] at hE
  exact⟨ds,P,by simpa using hP,hin _ hE⟩
 ·right
  exact⟨by simpa using hP,hin _ hE⟩
theorem ref_draws_same (s c off:List Int) (hs:s.length≤17592186044000) (hc:c.length≤17592186044000) (ho:off.length≤17592186044000):∃ r,Ev (fun k=>braid_Draws.f k s c off) r∧Ev (fun k=>churnref12_Draws.f k s c off) r:=by
 by_cases h:OkS s∧(c.length:Int)=total s∧(off.length:Int)=total s
 ·rcases draws_good s c off h.1 h.2.1 h.2.2 with⟨ds,P,t,e⟩|⟨t,e⟩
  ·rcases ref_draws_good s c off h.1 h.2.1 h.2.2 with⟨ds',P',t',e'⟩|⟨t',_⟩
   ·have hPP:P=P':=told_unique off P P' (start s) (by
     have a:=t.2.1
     have b:=t'.2.1
     rw[←b] at a
     unfold fsts at a
     have h3:∀ (A B:List (Nat×Int)),A.map (fun x=>(x.1:Int))=B.map (fun x=>(x.1:Int))→A.map (·.1)=B.map (·.1):=by
      intro A
      induction A with
      | nil=>intro B h;cases B with
       | nil=>rfl
       | cons b B=>simp at h
      | cons a A ih =>
       intro B h
       cases B with
       | nil=>simp at h
       | cons b B =>
        simp only[List.map_cons,List.cons.injEq] at h ⊢
        exact⟨by omega,ih B h.2⟩
     exact h3 P P' a) t.2.2 t'.2.2
    subst hPP
    obtain rfl:=t.1.draws t'.1
    exact⟨_,e,e'⟩
   ·exact absurd ⟨ds,P,t⟩ t'
  ·rcases ref_draws_good s c off h.1 h.2.1 h.2.2 with⟨ds',P',t',_⟩|⟨_,e'⟩
   ·exact absurd ⟨ds',P',t'⟩ t
   ·exact⟨_,e,e'⟩
 ·exact⟨_,draws_bad s c off hs hc ho h,ref_draws_bad s c off hs h⟩
theorem Good.refBack {s ds:List Int} {P:List (Nat×Int)} (g:Good s ds P):Ev (fun k=>churnref12_Draws.f k s (fsts P) (allOff s.length P)) (ds,0):=by
 have hle:=g.le
 have hm:=g.sizes.most
 obtain⟨r,e,e'⟩:=ref_draws_same s (fsts P) (allOff s.length P) (by omega) (by omega) (by omega)
 obtain⟨K1,a⟩:=e
 obtain⟨K2,b⟩:=g.back
 have h1:=a (max K1 K2) (Nat.le_max_left _ _)
 have h2:=b (max K1 K2) (Nat.le_max_right _ _)
 rw[h1] at h2
 obtain rfl:=Option.some.inj h2
 exact e'
end Go.Proofs.Ytbnifpfnjhdenaa.Pl
end
section
set_option linter.unusedVariables false
set_option linter.unusedSimpArgs false
namespace Go.Proofs.Ytbnifpfnjhdenaa.Pure
open Go.RowKit Go.Proofs.Ytbnifpfnjhdenaa.Q Go.Proofs.YtbnifpfnjhdenaaW.PrintWords Go.Proofs.YtbnifpfnjhdenaaW.PrintLast Go.Proofs.Ytbnifpfnjhdenaa.Pl
theorem alive13t:Ev (fun k=>churnlaw13_alive.f k) true:=Ev.of (fun k=>churnlaw13_alive.mono k) (k:=60) (by decide +kernel)
theorem ref_turn_bad (p:List Int) (n m:Int) (w:List Int) (h:¬ ((0≤n∧n≤256∧1≤m∧m≤64)∧(w.length:Int)=n)):Ev (fun k=>churnref13_Turn.f k p n m w) ([],2):=by
 have bad:∀ b,b=true→Ev (fun k=>churnref13_Turn.j0 k p n m w b) ([],2):=fun b hb=>Ev.step (f:=fun _=>some ([],2)) (fun k=>by rw[churnref13_Turn.j0,if_pos hb]) (Ev.now _)
 unfold churnref13_Turn.f
 by_cases hf:0≤n∧n≤256∧1≤m∧m≤64
 ·exact ev_bind0 (by rw[ref_fit_f,decide_eq_true hf]) (ev_pos rfl (bad _ (by rw[bne_iff_ne];exact fun e=>h ⟨hf,e⟩)))
 ·exact ev_bind0 (by rw[ref_fit_f,decide_eq_false hf]) (ev_neg (by decide) (bad _ rfl))
theorem ref_turn_l1 {n c:Nat} (h3:Fit3 n c) (p w:List Int) (y1 y2:List Int) (y3:List (List Int)) (R:List Int×Int) (j:Nat) (hj:j<c) (a:Nat) (ha:psum (sz n c) j=(a:Int))
  (next:Ev (fun k=>churnref13_Turn.l0 k p (n:Int) (c:Int) w (tab (a+szf n c j) fun t=>(chk n c (t:Int):Int)) (tab (a+szf n c j) fun t=>psum (sz n c) (chk n c (t:Int))) ((j+1:Nat):Int) (sz n c) y1 y2 y3) R) :
  ∀ (d m:Nat),m+d=szf n c j→Ev (fun k=>churnref13_Turn.l1 k p (n:Int) (c:Int) w (tab (a+m) fun t=>(chk n c (t:Int):Int)) (tab (a+m) fun t=>psum (sz n c) (chk n c (t:Int))) (j:Int) (a:Int) (m:Int) (sz n c) y1 y2 y3) R:=by
 have hz:=sz_len n c
 have hm:=h3.most
 have hc:=h3.chunks
 have sl:=szf_le n c j h3.most h3.one
 have b:=sz_bounds n c j h3.most h3.one h3.chunks
 have b':=sz_bounds n c (j+1) h3.most h3.one h3.chunks
 have e:=psum_succ (sz n c) j (by omega)
 rw[sz_get n c j hj] at e
 intro d
 induction d with
 | zero =>
  intro m hmm
  obtain rfl:m=szf n c j:=by omega
  refine Ev.step (fun k=>?_) next
  rw[churnref13_Turn.l1,if_pos (by omega),if_pos (by omega),sz_rd n c j hj,if_neg (by omega),w64 (by omega) (by omega)]
  rfl
 | succ d ih =>
  intro m hmm
  have t1:=tab_len (a+m) fun t=>(chk n c (t:Int):Int)
  have t2:=tab_len (a+m) fun t=>psum (sz n c) (chk n c (t:Int))
  have hch:chk n c ((a+m:Nat):Int)=j:=chk_unique h3 _ (by omega) (by omega) j hj (by omega) (by omega)
  refine Ev.step (fun k=>?_) (ih (m+1) (by omega))
  rw[churnref13_Turn.l1,if_pos (by omega),if_pos (by omega),sz_rd n c j hj,if_pos (by omega),if_pos (by omega),if_pos (by omega),w64 (by omega) (by omega),show a+(m+1)=a+m+1 by omega,tab_succ,tab_succ,hch,ha]
  rfl
theorem ref_turn_l0 {n c:Nat} (h3:Fit3 n c) (p w:List Int) (y1 y2:List Int) (y3:List (List Int)) (R:List Int×Int)
  (next:Ev (fun k=>churnref13_Turn.l2 k p (n:Int) (c:Int) w (tab n fun t=>(chk n c (t:Int):Int)) (tab n fun t=>psum (sz n c) (chk n c (t:Int))) (([]:List Int)) (List.replicate c []) 0 (sz n c) y1 y2 y3) R) :
  ∀ (d j:Nat),j+d=c→∀ a:Nat,psum (sz n c) j=(a:Int)→Ev (fun k=>churnref13_Turn.l0 k p (n:Int) (c:Int) w (tab a fun t=>(chk n c (t:Int):Int)) (tab a fun t=>psum (sz n c) (chk n c (t:Int))) (j:Int) (sz n c) y1 y2 y3) R:=by
 have hz:=sz_len n c
 have hm:=h3.most
 have hc:=h3.chunks
 intro d
 induction d with
 | zero =>
  intro j hj a ha
  obtain rfl:j=c:=by omega
  have:a=n:=by
   have:=psum_all (sz n j) j (by omega)
   rw[sz_total n j h3.one] at this
   omega
  subst this
  refine Ev.step (fun k=>?_) next
  rw[churnref13_Turn.l0,if_neg (by omega),if_pos (by omega),if_pos (by omega),if_pos (by omega),if_pos (by omega),Int.toNat_natCast]
 | succ d ih =>
  intro j hj a ha
  have hjc:j<c:=by omega
  have e:=psum_succ (sz n c) j (by omega)
  rw[sz_get n c j hjc] at e
  have t1:=tab_len a fun t=>(chk n c (t:Int):Int)
  have:=ref_turn_l1 h3 p w y1 y2 y3 R j hjc a ha (ih (j+1) (by omega) (a+szf n c j) (by omega)) (szf n c j) 0 (by omega)
  refine Ev.step (fun k=>?_) this
  rw[churnref13_Turn.l0,if_pos (by omega),t1]
  rfl
theorem drop_rest (p:List Int) (m:Nat):p.drop (18+(p.length-18) / 2+m)=(restOf p).drop m:=by rw[rest_eq,List.drop_drop]
theorem ref_turn_l3 {p:List Int} (hp:Bytes p) (hpl:p.length≤140737488351232) {n c:Nat} {ds:List Int} {P:List (Nat×Int)} {own:List (List Int)} (h:Lay p n c ds P own) {es:List Int} {R:List (Nat×Int)} (g:Pl.Good (sz n c) es R) {w:List Int} (fw:Fits w) (hl:w.length=n) (y1 y2:List Int) (y3:List (List Int)) (z0 z1:List Int) :
  ∀ (d j:Nat),j+d=c→Ev (fun k=>churnref13_Turn.l3 k p (c:Int) ((List.range c).map (ownOf n c w)) (noiseOf p ++ (trn (braidOf p) (bnd n) es ++ ((partsOf p n c w).take j).flatten)) (j:Int) (sz n c) y1 y2 y3 z0 z1 (pieces (restOf p) (qOf p c) c)) (turnT p n c es w,0):=by
 obtain⟨F,hb⟩:=turn_fitting hp h g fw hl
 have hz:=sz_len n c
 have hm:=h.most
 have hc:=h.chunks
 have hpn:=F.num
 obtain⟨t1,t2,t3⟩:=len3 h.long
 have flat:∀ j,j≤c→((partsOf p n c w).take j).flatten.length=j*qOf p c:=fun j hj=>by
  rw[flat_len (qOf p c) _ (fun x hx=>F.each x (List.mem_of_mem_take hx)),List.length_take]
  congr 1
  omega
 have hnl:(noiseOf p).length=18:=t1
 have xlen:∀ j,j≤c→(noiseOf p ++ (trn (braidOf p) (bnd n) es ++ ((partsOf p n c w).take j).flatten)).length=18+(p.length-18) / 2+j*qOf p c:=fun j hj=>by
  have a:=flat j hj
  have b:=F.braid
  rw[List.length_append,List.length_append,hnl,a]
  omega
 intro d
 induction d with
 | zero =>
  intro j hj
  obtain rfl:j=c:=by omega
  have hx:=xlen j (Nat.le_refl _)
  have hq:=qmul_le p j j (Nat.le_refl _)
  have e:(partsOf p n j w).take j=partsOf p n j w:=List.take_of_length_le (by omega)
  rw[e] at hx ⊢
  have hfl:=F.flat.1
  have hX:18+(p.length-18) / 2+j*qOf p j≤p.length:=by omega
  have hd:(p.drop (18+(p.length-18) / 2+j*qOf p j)).length=p.length-(18+(p.length-18) / 2+j*qOf p j):=List.length_drop
  refine Ev.step (f:=fun _=>some (turnT p n j es w,0)) (fun k=>?_) (Ev.now _)
  rw[churnref13_Turn.l3,if_neg (by omega),if_pos (by omega),if_pos (by omega),Option.bind_some,Int.toNat_natCast,hx,if_pos (by omega),drop_rest]
  unfold turnT tapeOf mkk noiseOf
  rw[hfl]
  simp only[List.append_assoc]
 | succ d ih =>
  intro j hj
  have hjc:j<c:=by omega
  obtain⟨l1,f1⟩:=ownOf_fits h.fit3 fw hl j hjc
  have sl:=szf_le n c j h.most h.one
  obtain⟨vs,m,d1,_⟩:=h.part hp j hjc
  have hv:=(dlOf_fit h.fit3 fw hl j hjc).1
  have hdl:(dlOf n c w j).length=szf n c j-1:=drawsL_len _ _ _
  have hpl':=piece_le p (qOf p c) j
  have htn:Ev (fun k=>churnref10_Turn.f k (piece (restOf p) (qOf p c) j) (boundsL (szf n c j)) (dlOf n c w j)) (trn (piece (restOf p) (qOf p c) j) (boundsL (szf n c j)) (dlOf n c w j),0):=by
   have:=ref_turn_ev (piece (restOf p) (qOf p c) j) (boundsL (szf n c j)) (dlOf n c w j) (bytes_piece hp _ _) (by omega) (by rw[boundsL_len];omega) (by omega)
   rwa [(trn_spec (bytes_piece hp _ _) (boundsL_ok _ sl) hv d1).1] at this
  have hq:=qmul_le p c (j+1) hjc
  have hsm:(j+1)*qOf p c=j*qOf p c+qOf p c:=Nat.succ_mul _ _
  have hdr:=ref_draws_all (ownOf n c w j) (by omega)
  unfold drawsA at hdr
  rw[if_pos f1,l1] at hdr
  have ylen:(trn (piece (restOf p) (qOf p c) j) (boundsL (szf n c j)) (dlOf n c w j)).length=qOf p c:=by
   rw[←partsOf_getD p n c w j hjc]
   refine F.each _ ?_
   rw[List.getD_eq_getElem?_getD,List.getElem?_eq_getElem (by omega),Option.getD_some]
   exact List.getElem_mem _
  have hx:=xlen j (by omega)
  have hnext:noiseOf p ++ (trn (braidOf p) (bnd n) es ++ ((partsOf p n c w).take j).flatten) ++ trn (piece (restOf p) (qOf p c) j) (boundsL (szf n c j)) (dlOf n c w j)=noiseOf p ++ (trn (braidOf p) (bnd n) es ++ ((partsOf p n c w).take (j+1)).flatten):=by
   rw[List.append_assoc,List.append_assoc]
   congr 2
   rw[List.take_succ_eq_append_getElem (by omega),List.flatten_append,List.flatten_cons,List.flatten_nil,List.append_nil]
   congr 1
   rw[←partsOf_getD p n c w j hjc,List.getD_eq_getElem?_getD,List.getElem?_eq_getElem (by omega),Option.getD_some]
  have hol:((List.range c).map (ownOf n c w)).length=c:=by simp
  have hplen:=pieces_len (restOf p) (qOf p c) c
  refine Ev.step (fun k=>by rw[churnref13_Turn.l3,if_pos (by omega),if_pos (by omega),if_pos (by omega)]) ?_
  refine ev_bind (a:=(dlOf n c w j,0)) (by
   show Ev (fun k=>churnref11_Draws.f k (((List.range c).map (ownOf n c w)).getD j [])) _
   rw[ownTo_rd n c w j hjc]
   exact hdr) (ev_pos (by omega) (ev_pos (by omega) ?_))
  rw[sz_rd n c j hjc]
  refine ev_bind (ref_bounds_ev' _ sl) (ev_bind (a:=(trn (piece (restOf p) (qOf p c) j) (boundsL (szf n c j)) (dlOf n c w j),0)) (by
   show Ev (fun k=>churnref10_Turn.f k ((pieces (restOf p) (qOf p c) c).getD j []) _ _) _
   rw[pieces_rd _ _ _ _ hjc]
   exact htn) ?_)
  dsimp only
  refine ev_pos (by omega) ?_
  rw[hnext,w64 (x:=(j:Int)+1) (by omega) (by omega)]
  exact ih (j+1) (by omega)
theorem ref_turn_l2 {p:List Int} (hp:Bytes p) (hpl:p.length≤140737488351232) {n c:Nat} {ds:List Int} {P:List (Nat×Int)} {own:List (List Int)} (h:Lay p n c ds P own) {es:List Int} {R:List (Nat×Int)} (g:Pl.Good (sz n c) es R) {w:List Int} (fw:Fits w) (hl:w.length=n) (hR:R.map (·.1)=chOf n c w) (hO:allOff c R=allOff c P) (y1:List Int) (y3:List (List Int)) :
  ∀ (d i:Nat),i+d=n→Ev (fun k=>churnref13_Turn.l2 k p (n:Int) (c:Int) w (tab n fun t=>(chk n c (t:Int):Int)) (tab n fun t=>psum (sz n c) (chk n c (t:Int))) (tab i fun t=>(chk n c (rd w (t:Int)):Int)) ((List.range c).map (ownOf n c (w.take i))) (i:Int) (sz n c) y1 (allOff c P) y3) (turnT p n c es w,0):=by
 obtain⟨F,hb⟩:=turn_fitting hp h g fw hl
 have hz:=sz_len n c
 have hm:=h.most
 have hc:=h.chunks
 obtain⟨t1,t2,t3⟩:=len3 h.long
 obtain⟨u,hd⟩:=h.draws
 intro d
 induction d with
 | zero =>
  intro i hi
  obtain rfl:i=n:=by omega
  have e1:(tab i fun t=>(chk i c (rd w (t:Int)):Int))=fsts R:=by
   rw[fsts_int,hR]
   apply ext_rd (by rw[tab_len,ints_len];simp[chOf,hl])
   intro t ht
   rw[tab_len] at ht
   rw[tab_rd _ _ t ht,ints_rd _ t (by simp[chOf,hl];exact ht),rd_lt w t (by omega)]
   simp[chOf]
  have e2:w.take i=w:=List.take_of_length_le (by omega)
  rw[e1,e2]
  have hbk:=g.refBack
  rw[hz,hO] at hbk
  have hbl:=braid_le p
  have hel:es.length=i:=by
   have:=g.len
   rw[sz_total i c h.one] at this
   omega
  have htn:Ev (fun k=>churnref10_Turn.f k (braidOf p) (bnd i) es) (trn (braidOf p) (bnd i) es,0):=by
   have:=ref_turn_ev (braidOf p) (bnd i) es (bytes_braid hp) (by omega) (by rw[bnd_len];omega) (by omega)
   rwa [(trn_spec (bytes_braid hp) (bnd_ok i h.most) (h.valid g) hd).1] at this
  have hsp:=ref_split_ev p (c:Int) hpl
  rw[splitS_ok h.long h.one h.chunks] at hsp
  have hnl:(noiseOf p).length=18:=t1
  have hfb:=F.braid
  refine Ev.step (fun k=>by rw[churnref13_Turn.l2,if_neg (by omega)]) (ev_bind hsp (ev_bind hbk (ev_bind (ref_bounds_good i hm) (ev_bind htn ?_))))
  dsimp only
  refine ev_pos (by omega) (ev_pos (by omega) (ev_bind0 rfl (ev_pos (by simp only[List.length_nil];omega) (ev_bind0 rfl (ev_pos (by simp only[List.nil_append];omega) ?_)))))
  have:=ref_turn_l3 hp hpl h g fw hl y1 (allOff c P) y3 (noiseOf p) (braidOf p) c 0 (by omega)
  rw[List.take_zero,List.flatten_nil,List.append_nil] at this
  rw[List.nil_append]
  exact this
 | succ d ih =>
  intro i hi
  have hin:i<n:=by omega
  have hb1:=fw.1 _ (rd_mem w (i:Int) (by simp;omega))
  rw[hl] at hb1
  obtain⟨s1,s2,s3⟩:=chk_spec h.fit3 _ hb1.1 hb1.2
  obtain⟨x,hx⟩:∃ x:Nat,rd w (i:Int)=(x:Int):=⟨(rd w (i:Int)).toNat,by omega⟩
  have b1:=sz_bounds n c (chk n c (rd w (i:Int))) h.most h.one h.chunks
  have ht1:=tab_len n fun t=>(chk n c (t:Int):Int)
  have ht2:=tab_len n fun t=>psum (sz n c) (chk n c (t:Int))
  have ht3:=tab_len i fun t=>(chk n c (rd w (t:Int)):Int)
  have hol:((List.range c).map (ownOf n c (w.take i))).length=c:=by simp
  have hle:(ownOf n c (w.take i) (chk n c (rd w (i:Int)))).length≤n:=Nat.le_trans (ownOf_le _ _ _ _) (by rw[List.length_take];omega)
  have hro:rd_L3 ((List.range c).map (ownOf n c (w.take i))) (chk n c (rd w (i:Int)):Int)=ownOf n c (w.take i) (chk n c (rd w (i:Int))):=ownTo_rd n c _ _ s1
  have r1:rd (tab n fun t=>(chk n c (t:Int):Int)) (rd w (i:Int))=(chk n c (rd w (i:Int)):Int):=by rw[hx,tab_rd _ _ x (by omega)]
  have r2:rd (tab n fun t=>psum (sz n c) (chk n c (t:Int))) (rd w (i:Int))=psum (sz n c) (chk n c (rd w (i:Int))):=by rw[hx,tab_rd _ _ x (by omega)]
  have q1:(tab i fun t=>(chk n c (rd w (t:Int)):Int)) ++ [(chk n c (rd w (i:Int)):Int)]=tab (i+1) fun t=>(chk n c (rd w (t:Int)):Int):=by rw[tab_succ]
  have q2:((List.range c).map (ownOf n c (w.take i))).set (chk n c (rd w (i:Int))) (ownOf n c (w.take i) (chk n c (rd w (i:Int))) ++ [rd w (i:Int)-psum (sz n c) (chk n c (rd w (i:Int)))])=(List.range c).map (ownOf n c (w.take (i+1))):=by
   rw[take_rd w i (by omega)]
   apply List.ext_getElem (by simp)
   intro j h1 h2
   rw[List.getElem_set]
   simp only[List.getElem_map,List.getElem_range]
   rw[ownOf_append,ownOf_one]
   by_cases e:chk n c (rd w (i:Int))=j
   ·rw[if_pos e,if_pos e,e]
   ·rw[if_neg e,if_neg e,List.append_nil]
  have:=ih (i+1) (by omega)
  rw[←q1,←q2] at this
  refine Ev.step (fun k=>?_) this
  rw[churnref13_Turn.l2,if_pos (by omega),if_pos (by omega),if_pos (by omega),if_pos (by omega),if_pos (by omega),if_pos (by omega),r1,if_pos (by omega),if_pos (by omega),if_pos (by omega),hro,if_pos (by omega),r2,Int.toNat_natCast,w64 (x:=rd w (i:Int)-psum (sz n c) (chk n c (rd w (i:Int)))) (by omega) (by omega),w64 (x:=(i:Int)+1) (by omega) (by omega)]
  rfl
theorem ref_turn_start {p w:List Int} {n c:Nat} (h3:Fit3 n c) (hl:w.length=n) {R:List Int×Int} (hR:Ev (fun k=>churnref13_Turn.j0 k p (n:Int) (c:Int) w false) R):Ev (fun k=>churnref13_Turn.f k p n c w) R:=by
 unfold churnref13_Turn.f
 refine ev_bind0 (by rw[ref_fit_f,decide_eq_true (by have:=h3.most;have:=h3.one;have:=h3.chunks;omega)]) (ev_pos rfl ?_)
 have e:((w.length:Int) != (n:Int))=false:=by rw[hl];simp
 rw[e]
 exact hR
theorem ref_turn_all {p:List Int} (hp:Bytes p) (hpl:p.length≤140737488351232) {n c:Nat} (h3:Fit3 n c) {w:List Int} (hl:w.length=n) :
  (¬ Fits w→Ev (fun k=>churnref13_Turn.f k p n c w) ([],110)) ∧
  (Fits w→(¬ ∃ ds P own,Lay p n c ds P own)→Ev (fun k=>churnref13_Turn.f k p n c w) ([],3)) ∧
  (Fits w→∀ ds P own,Lay p n c ds P own→∀ es R,Pl.Good (sz n c) es R→R.map (·.1)=chOf n c w→allOff c R=allOff c P→Ev (fun k=>churnref13_Turn.f k p n c w) (turnT p n c es w,0)):=by
 have hck:=check_ev w (by have:=h3.most;omega)
 obtain⟨l1,l2⟩:=laid_ev hp hpl n c h3.most h3.one h3.chunks
 refine⟨fun fw=>?_,fun fw hn=>?_,fun fw ds P own h es R g g1 g2=>?_⟩
 ·rw[if_neg fw] at hck
  refine ref_turn_start h3 hl (Ev.step (fun k=>by rw[churnref13_Turn.j0,if_neg (by decide)]) (ev_bind hck ?_))
  exact ev_neg (by decide) (Ev.now _)
 ·rw[if_pos fw] at hck
  obtain⟨r,e,hr⟩:=l2 hn
  refine ref_turn_start h3 hl (Ev.step (fun k=>by rw[churnref13_Turn.j0,if_neg (by decide)]) (ev_bind hck (ev_pos rfl (ev_bind hr ?_))))
  exact ev_neg (by rw[e];decide) (Ev.now _)
 ·rw[if_pos fw] at hck
  have hm:=h3.most
  have hc:=h3.chunks
  refine ref_turn_start h3 hl (Ev.step (fun k=>by rw[churnref13_Turn.j0,if_neg (by decide)]) (ev_bind hck (ev_pos rfl (ev_bind (l1 ds P own h) (ev_pos rfl ?_)))))
  dsimp only
  refine ev_pos (by omega) (ev_pos (by omega) ?_)
  have hl2:=ref_turn_l2 hp hpl h g fw hl g1 g2 (fsts P) [] n 0 (by omega)
  have e2:(List.range c).map (ownOf n c (w.take 0))=List.replicate c []:=by
   apply List.ext_getElem (by simp)
   intro j h1 h2
   simp[ownOf]
  rw[e2] at hl2
  exact ref_turn_l0 h3 p w (fsts P) (allOff c P) [] _ hl2 c 0 (by omega) 0 (psum_zero _)
theorem RiffleTurns:churnlaw13_RiffleTurns.Pure:=by
 intro p n c w hp hn hc hw
 obtain⟨p1,p2,p3⟩:=hp
 obtain⟨w1,w2,w3⟩:=hw
 have hp':Bytes p:=fun x hx=>wf_u8 (p3 x hx)
 have hnw:=wf_i64 hn
 have hcw:=wf_i64 hc
 refine Ev.rounds (g:=fun k=>churnlaw13_RiffleTurns.f k p n c w) (r:=true) ?_
 have main:∀ r:List Int×Int,Ev (fun k=>riffle_Turn.f k p n c w) r→Ev (fun k=>churnref13_Turn.f k p n c w) r→Ev (fun k=>churnlaw13_RiffleTurns.f k p n c w) true:=by
  intro r h1 h2
  unfold churnlaw13_RiffleTurns.f
  exact ev_bind alive13t (ev_pos rfl (ev_bind h2 (ev_bind h1 (ev_pos rfl (ev_some (by simp))))))
 by_cases hfit:(0≤n∧n≤256∧1≤c∧c≤64)∧(w.length:Int)=n
 ·obtain⟨m,rfl⟩:∃ m:Nat,n=(m:Int):=⟨n.toNat,by omega⟩
  obtain⟨d,rfl⟩:∃ d:Nat,c=(d:Int):=⟨c.toNat,by omega⟩
  have h3:Fit3 m d:=⟨by omega,by omega,by omega⟩
  have hwl:w.length=m:=by omega
  obtain⟨a1,a2,a3⟩:=turn_ev hp' (by omega) h3 hwl
  obtain⟨b1,b2,b3⟩:=ref_turn_all hp' (by omega) h3 hwl
  by_cases fw:Fits w
  ·by_cases hL:∃ ds P own,Lay p m d ds P own
   ·obtain⟨ds,P,own,h⟩:=hL
    obtain⟨es,R,g,g1,g2,e⟩:=a3 fw ds P own h
    exact main _ e (b3 fw ds P own h es R g g1 g2)
   ·exact main _ (a2 fw hL) (b2 fw hL)
  ·exact main _ (a1 fw) (b1 fw)
 ·exact main _ (turn_bad p n c w hfit) (ref_turn_bad p n c w hfit)
end Go.Proofs.Ytbnifpfnjhdenaa.Pure
end
