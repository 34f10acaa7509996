import Derived.Test.YtcfcolkbeelegaaGreatJA0
import Derived.Test.YtcfcolkbeelegaaGreatJRD
set_option maxRecDepth 8000
set_option maxHeartbeats 16000000
namespace Go.Proofs.YtcfcolkbeelegaaGreat
open Go Go.AI
def brN:Br->List UInt8| .mk c _ _=>c
def brA:Br->Bool| .mk _ a _=>a
def brT:Br->Tr| .mk _ _ t=>t
def brZ (n:List UInt8):List Br->Option Tr
 |[]=>none
 | .mk c a t::bs=>if c=n then(if a=true then none else some t) else brZ n bs
def zTr:Tr:= .mk 0 zT 0 []
theorem aKu {n:List UInt8} :∀ {bs:List Br} {j:Nat} {b:Br},bs[j]?=some b->brN b=n->(∀x∈bs.take j,brN x≠n)->brZ n bs=if brA b=true then none else some (brT b)
 |[],_,_,h,_,_=>by simp at h
 | .mk c a t::bs,0,b,h,hn,_=>by
  simp at h;subst h;simp only[brN] at hn;rw[brZ,if_pos hn]
  rfl
 | .mk c a t::bs,j+1,b,h,hn,hx=>by
  have h0:=hx (.mk c a t) aA;simp only[brN] at h0;simp only[brZ,if_neg h0];exact aKu (by simpa using h) hn fun x hm=>hx x (by simp[hm])
theorem xV {n:List UInt8} :∀ {bs:List Br},(∀x∈bs,brN x≠n)->brZ n bs=none
 |[],_=>rfl
 | .mk c a t::bs,h=>by
  have h0:=h (.mk c a t) aA;simp only[brN] at h0;simp only[brZ,if_neg h0];exact xV fun x hm=>h x (by simp[hm])
theorem aRp (env:List Dc)(rec:Tm->Int->WO Tm)(n:List UInt8):∀(bs:List Br)(vars:List Tm)(s:Int),brF env rec n bs vars s=match brZ n bs with|none=> .ok none s|some t=>kN env rec t vars s
 |[],vars,s=>by simp only[brF,brZ]
 | .mk c a t::bs,vars,s=>by
  simp only[brF,brZ]
  by_cases hc:c=n
  ·rw[if_pos hc,if_pos hc]
   cases a<;>simp
  ·rw[if_neg hc,if_neg hc];exact aRp env rec n bs vars s
theorem aSy (h:Heap)(hh:WF h)(n:List UInt8)(b:Br)(p:Nat)(hp:h[p]?=some (some (.cells [.p (sP n)]))):
  AC 283 [.agg (b.cells.map .p), .ptr p 0] h (bA (brN b==n)):=by
 obtain⟨hp',_⟩:=idf hp;obtain⟨c,a,⟨k,⟨m1,m2,m3,m4,m5⟩,v,bs⟩⟩:=b;simp only[Br.cells,Tr.cells,aH,List.map,aYy,aZ3];refine zE Tryz.func283 Tryz.ntmps283 ?_;refine aFx hp' ?_;refine zx ?_;refine zF1 hh ?_;exact⟨by simp[brN],rfl⟩
def IxOk (n:List UInt8)(bs:List Br)(r:Int):Prop:=(r=-1/\∀x∈bs,brN x≠n)\/∃(j:Nat)(b:Br),r=j/\bs[j]?=some b/\brN b=n/\∀x∈bs.take j,brN x≠n
theorem aP4 (h:Heap)(hh:WF h)(n:List UInt8)(bs:List Br)(hl:bs.length<=1048576)(p:Nat)(hp:h[p]?=some (some (.cells [.p (sP n)]))):
  ACalls Tryz.prog 282 [.p (.sl 10 (aSz bs)), .fn (.func 283) [] [.ptr p 0]] h fun o h'=>∃r:Int,o= .ret (iA r)/\h'=h/\IxOk n bs r:=by
 rw[dX];refine cW Tryz.func282 Tryz.ntmps282 ?_;refine Run.loopS [0,1,6,7] (fun j:Nat=>j<=bs.length/\∀x∈bs.take j,brN x≠n) (fun j=>bs.length-j) (fun j=>[(8,iA j)]) (fun _=>_) 0 aA ?_ rfl ?_
 ·exact zS
 rintro j ⟨hj,hall⟩ IH;refine cI ?_
 by_cases hjl:j<bs.length
 ·have hgj:bs[j]?=some bs[j]:=aYu hjl;have htk:bs.take (j+1)=bs.take j++[bs[j]]:=aZ5 hjl;have hgj':∀q:j<bs.length,bs[j]'q=bs[j]:=fun _=>rfl
  generalize hbe:bs[j]=b at hgj htk;have c1:=aSy h hh n b p hp;obtain⟨bb,hbb⟩:∃bb,(brN b==n)=bb:=⟨_,rfl⟩;rw[hbb] at c1;have hge:bs[j]?=some b:=hgj;have hfin:bb=true->brN b=n:=fun e=>by rw[<-hbb] at e;simpa using e
  have hgo:bb=false->∀x∈bs.take (j+1),brN x≠n:=fun e x hx=>by
   rw[htk] at hx;rcases aZn.1 hx with hx|hx
   ·exact hall x hx
   ·simp at hx;subst hx;rw[<-hbb] at e;simpa using e
  have hend:bb=true->(∃(j':Nat) (b:Br),(j:Int)=j'/\bs[j']?=some b/\brN b=n/\∀x∈bs.take j',brN x≠n):=fun e=>⟨j,b,rfl,hge,hfin e,hall⟩
  clear hbb htk hfin hge;obtain⟨c,a,⟨k,⟨m1,m2,m3,m4,m5⟩,v,bs2⟩⟩:=b;simp only[Br.cells,Tr.cells,aH,List.map,aYy,aZ3] at c1;refine kL hjl ?_;refine aYl hgj ?_;refine zL (c1) ?_;refine zo ?_
  cases bb with
  |true=>
   refine znt ?_;refine zA ?_;refine zF3 hh ?_;exact⟨j,rfl,rfl, .inr (hend rfl)⟩
  |false=>
   refine aAc ?_;refine IH (j+1) _ _ ⟨by omega,hgo rfl⟩ aB ?_ rfl;exact zS
 ·have hje:bs.length<=j:=aB;rw[aZ6 hje] at hall;refine aHz hje ?_;refine zF3 hh ?_;exact⟨-1,rfl,rfl, .inl ⟨rfl,hall⟩⟩
def trB:Tr->List Br| .mk _ _ _ bs=>bs
abbrev aWn:List AV:=[iA 0,iA 0,iA 0, .p (sP []), .p (.prim (.slice none 0 0)), .p (.prim (.slice none 0 0)),iA 0, .p (.prim (.slice none 0 0))]
theorem aHy:Weak (.agg aWn) zTr.av:=by
 simp only[zTr,zT,Tr.av,Tr.cells,aH,List.map,aW,aL,aSz,aYy,aZ3];exact y70
theorem xX (h:Heap)(hh:WF h)(t:Tr)(n:List UInt8)(hl:(trB t).length<=1048576):AC 281 [t.av, .p (sP n)] h (.tup [((brZ n (trB t)).getD zTr).av,bA (brZ n (trB t)).isSome]):=by
 obtain⟨k,⟨m1,m2,m3,m4,m5⟩,v,bs⟩:=t;simp only[trB] at hl;obtain⟨r0,hr0⟩:∃r,brZ n (trB (.mk k (.mk m1 m2 m3 m4 m5) v bs))=r:=⟨_,rfl⟩;rw[hr0];simp only[trB] at hr0;have wk:Weak (.tup [.agg aWn,bA false]) (.tup [zTr.av,bA false]):=Weak.tup (WeakL.cons aHy (WeakL.refl _));have hzu:AV.under h.length (.tup [zTr.av,bA false])=true:=by simp[zTr,zT,Tr.av,Tr.cells]
 simp only[Tr.av,Tr.cells,aH,List.map,aYy,aZ3];refine cW Tryz.func281 Tryz.ntmps281 ?_;refine Run.call rfl aF aA rfl (aP4 _ (hh.app aA) n bs hl (h.length+1) aA) ?_ ?_
 rotate_left
 ·rintro v h' ⟨_,hv,_⟩;cases hv
 rintro v' h' ⟨r,hv,rfl,hix⟩;simp only[AOut.ret.injEq] at hv;subst hv;refine zo ?_;rcases hix with ⟨rfl,hno⟩|⟨j,b,rfl,hgj,hbn,hall⟩
 ·rw[xV hno] at hr0;subst hr0;refine rI ?_;exact y8a
 ·rw[aKu hgj hbn hall] at hr0;have hjl:=(aYv.1 hgj).1;have hgj':∀q:j<bs.length,bs[j]'q=b:=fun q=>(aYv.1 hgj).2
  obtain⟨c,a,⟨k2,⟨n1,n2,n3,n4,n5⟩,v2,bs2⟩⟩:=b;simp only[brA,brT] at hr0
  cases a with
  |true=>
   simp only[if_true] at hr0;subst hr0;refine zn ?_;refine aRg hgj' hjl ?_;refine y2a ?_;exact y8a
  |false=>
   simp only[aZd,if_false] at hr0;subst hr0;refine zn ?_;refine aRg hgj' hjl ?_;refine zf ?_;refine aRg hgj' hjl ?_;refine zx ?_;exact y5o
open Go Go.AI
theorem vF (t:Tm)(vs:List Tm)(ht:t.at_)(hv:∀v∈vs,v.at_)(hvl:vs.length<=1048576)(h:Heap)(hh:WF h):
  ACalls Tryz.prog 98 [t.av, .p (.sl 5 (aL vs)),iA 0] h (fun o h'=>o= .ret (.tup [(aI t vs 0).1.av,iA (aI t vs 0).2])/\h'=h)/\
  ACalls Tryz.prog 238 [t.av, .p (.sl 5 (aL vs)),iA 0] h (fun o h'=>o= .ret (.tup [(aI t vs 0).1.av,iA (aI t vs 0).2])/\h'=h):=by
 have hok:t.ok 65536:=Tm.wf_ok t _ ht.1 aB;have hsz:=ht.2;have hvo:∀v∈vs,v.ok 65536/\v.size<=4096:=fun v hm=>⟨Tm.wf_ok v _ (hv v hm).1 aB,(hv v hm).2⟩
 have hr:=aN8 t vs 0 hok aB hvl (fun v hv=>(hvo v hv).1) (fun v hv=>by have:=(hvo v hv).2;omega) aB;have hvd:∀v∈vs,Dom 65536 v 0:=fun v hv=>⟨by simpa using(hvo v hv).1,by omega,by have:=(hvo v hv).2;omega⟩
 have hcap:fP 0=0:=by simp[fP]
 have hok':=aFe vs (fun v hv=>(hvo v hv).1) t 0 65536 hok aB aB;constructor
 ·rw[<-hr];refine aO4 h hh t vs 0 ⟨⟨by simpa using hok,by omega,by omega⟩,by omega⟩ aB hvl hvd (fun v hv=>by have:=(hvo v hv).2;omega) ?_;intro h0 t' s' u s2 hc hs;have hc':=aDw vs hvl (fun v hv=>by have:=(hvo v hv).2;omega) 0 h0 aB t 0 0 (by simpa using hok) aB aB aB aB;have hs':=aDx vs hvl (fun v hv=>(hvo v hv).1) 0 h0 aB t 0 0 (by simpa using hok) aB aB;simp only[Int.add_zero,Int.zero_add,hcap] at hc' hs'
  by_cases h5:4096<(eW vs 0 t:Int)
  ·obtain⟨s3,e3⟩:=hc'.2 h5;rw[e3] at hc;cases hc
  ·rw[hs] at hs'
   by_cases hb:fS vs 0 t=true
   ·rw[if_pos hb] at hs';cases hs'
   ·rw[if_neg hb] at hs'
    injection hs' with e1 e2
    have:=(hok' (by simpa using hb)).2;rw[e1,this];omega
 ·refine aCg h hh t vs 0 hvl (fun v hv=>⟨by have:=(hvo v hv).2;omega,aHh v 65536 (hvo v hv).1 (by have:=(hvo v hv).2;omega)⟩) aB (aHh t 65536 hok aB) ?_;intro h07;rw[lE t vs 0 aB,aCi,hcap] at h07;rw[hcap];have hl:=zQ vs t 0 0 0
  by_cases h5:4096<(eW vs 0 t:Int)
  ·rw[if_pos h5] at h07;simp at h07
  ·rw[if_neg h5] at h07
   by_cases hb:fS vs 0 t=true
   ·rw[if_pos hb] at h07;simp at h07
   ·rw[hl.1 aB];have:=(hok' (by simpa using hb)).2;simp only;rw[this];omega
theorem aNt (t:Tm)(vs:List Tm)(ht:t.at_)(hv:∀v∈vs,v.at_)(hvl:vs.length<=1048576)(h:Heap)(hh:WF h):
  AC 52 [t.av, .p (.sl 5 (aL vs))] h (.tup [(aI t vs 0).1.av,iA (aI t vs 0).2]):=
 aNx h hh t vs _ fun g hw=>(vF t vs ht hv hvl g hw).1
theorem qF (t:Tm)(vs:List Tm)(ht:t.at_)(hv:∀v∈vs,v.at_)(hvl:vs.length<=1048576)(h:Heap)(hh:WF h):
  AC 213 [t.av, .p (.sl 5 (aL vs))] h (.tup [(aI t vs 0).1.av,iA (aI t vs 0).2]):=
 aCf h hh t vs _ fun g hw=>(vF t vs ht hv hvl g hw).2
theorem wW {t:Tm} {vs:List Tm} {s:Int} :(sC t vs s= .fail (s-1)/\(s-1<0\/(aI t vs 0).2≠0))\/(sC t vs s= .ok (aI t vs 0).1 (s-1)/\¬s-1<0/\(aI t vs 0).2=0):=by
 unfold sC iK
 by_cases h1:s-1<0
 ·rw[if_pos h1];exact .inl ⟨rfl, .inl h1⟩
 ·rw[if_neg h1]
  dsimp only
  by_cases h2:(aI t vs 0).2≠0
  ·rw[if_pos h2];exact .inl ⟨rfl, .inr h2⟩
  ·rw[if_neg h2];exact .inr ⟨rfl,h1,by simpa using h2⟩
theorem pY (env:List Dc)(t:Tm)(vs:List Tm)(ht:t.at_)(hv:∀v∈vs,v.at_)(hvl:vs.length<=1048576)(s:Int)(hs0:-1000000<s)(hs1:s<=1000000)(q:Nat)(h:Heap)(hh:WF h)(hq:h[q]?=some (dU env s)):
  ACalls Tryz.prog 235 [.ptr q 0,t.av, .p (.sl 5 (aL vs))] h (WPost env q h Tm.av (sC t vs s)):=by
 obtain⟨g1,g2,g3,g4,g5,hlt⟩:=idf hq;have c1:=fun(l:Heap) (hw:WF (h++l))=>mB env s aB hs1 q (h++l) hw (g1 l)
 simp only[g2] at c1;have c2:=fun g hw=>aNt t vs ht hv hvl g hw
 have hcs:=wW (t:=t) (vs:=vs) (s:=s);obtain⟨w,hw⟩:∃w,sC t vs s=w:=⟨_,rfl⟩;rw[hw] at hcs⊢;clear hw ht hv;generalize aI t vs 0=r at c2 hcs;obtain⟨⟨k2,i2,n2,l2,s2⟩,e⟩:=r;obtain⟨k,i,nm,ls,ks⟩:=t;simp only at c2 hcs;simp only[Tm.av,aH,List.map] at c2
 by_cases hz:s-1<0
 ·obtain rfl:w= .fail (s-1):=by
   rcases hcs with h1|h1
   ·exact h1.1
   ·exact absurd hz h1.2.1
  simp only[if_pos hz] at c1;refine ACalls.of_run Tryz.func235 rfl ?_;refine y1m ?_;refine Run.call rfl aF aA rfl (c1 _ (hh.app aA)) ?_ ?_
  ·rintro v h' ⟨hv,_⟩;cases hv
  rintro v h' ⟨hv,rfl⟩;exact y4f
 simp only[if_neg hz] at c1
 by_cases he:e=0
 ·obtain rfl:w= .ok (.mk k2 i2 n2 l2 s2) (s-1):=by
   rcases hcs with h1|h1
   ·rcases h1.2 with h2|h2
    ·exact absurd h2 hz
    ·exact absurd he h2
   ·exact h1.1
  subst he;refine ACalls.of_run Tryz.func235 rfl ?_;refine y1m ?_;refine yx ?_;obtain⟨G,hG⟩:∃G,List.set h q (dU env (s-1))=G:=⟨_,rfl⟩;have hGl:h.length=G.length:=by rw[<-hG];simp
  have hGw:WF G:=by rw[<-hG];exact hh.set aA
  have hGq:G[q]?=some (dU env (s-1)):=by rw[<-hG];exact g3 _
  refine y17 ?_;refine aSl ?_;refine zF1 hGw ?_;exact⟨by simp[Tm.av],hG.symm⟩
 ·obtain rfl:w= .fail (s-1):=by
   rcases hcs with h1|h1
   ·exact h1.1
   ·exact absurd h1.2.2 he
  have heb:(e !=(0:Int))=true:=by simpa using he
  refine ACalls.of_run Tryz.func235 rfl ?_;refine y1m ?_;refine yx ?_;obtain⟨G,hG⟩:∃G,List.set h q (dU env (s-1))=G:=⟨_,rfl⟩;have hGl:h.length=G.length:=by rw[<-hG];simp
  have hGw:WF G:=by rw[<-hG];exact hh.set aA
  have hGq:G[q]?=some (dU env (s-1)):=by rw[<-hG];exact g3 _
  refine y17 ?_;refine zo ?_;refine zr1 heb ?_;refine y2g ?_;refine y23 ?_;exact Fin.panA (h0:=G) aA hGw rfl rfl ⟨rfl,hG.symm⟩
open Go Go.AI
theorem pZ (t:Tm)(vs:List Tm)(s:Int):sC t vs s≠ .out:=by
 rcases wW (t:=t) (vs:=vs) (s:=s) with h|h<;>rw[h.1]<;>intro e<;>cases e
theorem WPost.fails {env:List Dc} {q:Nat} {h l:Heap} {α:Type} {f:α->AV} {s':Int} {g:FuncId} {args:List AV} {H:Heap} (hlt:q<h.length)(c:ACalls Tryz.prog g args H (WPost env q (h++l) f (.fail s'))):
  ACalls Tryz.prog g args H fun o h'=>o= .panic aBe/\h'=List.set h q (dU env s')++l:=
 c.mono fun o h' e=>⟨e.1,by rw[e.2,aZp _ _ hlt]⟩
theorem WPost.oks {env:List Dc} {q:Nat} {h l:Heap} {α:Type} {f:α->AV} {b:α} {s':Int} {g:FuncId} {args:List AV} {H:Heap} (hlt:q<h.length)(c:ACalls Tryz.prog g args H (WPost env q (h++l) f (.ok b s'))):
  ACalls Tryz.prog g args H fun o h'=>o= .ret (f b)/\h'=List.set h q (dU env s')++l:=
 c.mono fun o h' e=>⟨e.1,by rw[e.2,aZp _ _ hlt]⟩
theorem aDy (env:List Dc)(t:Tm)(vars:List Tm)(ht:t.at_)(hv:∀v∈vars,v.at_)(hl:vars.length<=1048576)(s:Int)(hs0:-1000000<s)(hs1:s<=1000000)(q:Nat)(h:Heap)(hh:WF h)(hq:h[q]?=some (dU env s)):
  ACalls Tryz.prog 277 [.ptr q 0,t.av, .p (.sl 5 (aL vars))] h (WPost env q h Tm.av (sC t vars.reverse s)):=by
 obtain⟨g1,g2,g3,g4,g5,hlt⟩:=idf hq;have c3:=fun(l:Heap) (hw:WF (h++l))=>pY env t vars.reverse ht (fun v hm=>hv v (by simpa using hm)) (by simpa using hl) s hs0 hs1 q (h++l) hw (g1 l)
 have hne:=pZ t vars.reverse s;generalize sC t vars.reverse s=w at c3 hne;obtain⟨k,i,n,ls,ks⟩:=t;simp only[Tm.av,aH,List.map] at c3;refine ACalls.of_run Tryz.func277 rfl ?_;simp only[Tryz.ntmps277,aZ1,aZ2,Tm.av,aH,List.map];refine rS ?_;refine Run.call (args:=[.p (.sl 5 (aL vars))]) rfl rfl aA rfl (aL1 _ (hh.app aA) vars hl) ?_ ?_
 rotate_left
 ·rintro v h' (⟨_,hv,_⟩|⟨_,_,_,_,hv,_⟩)<;>cases hv
 rintro v h' (⟨rfl,hv,rfl⟩|⟨G,cap,hG,hc,hv,rfl⟩)
 ·simp only[AOut.ret.injEq] at hv;subst hv;simp only[List.reverse_nil,aL] at c3;refine zor ?_;refine Go.AI.rl (args:=[.p (.sl 5 [])]) rfl aF aA rfl (reverse_nil _ (hh.app aA)) ?_;refine zor ?_
  cases w with
  |out=>exact absurd rfl hne
  |fail s'=>
   have c3:=fun l hw=>WPost.fails hlt (c3 l hw)
   refine Run.call rfl aF aA rfl (c3 _ (hh.app aA)) ?_ ?_
   ·rintro v h' ⟨hv,_⟩;cases hv
   rintro v h' ⟨hv,rfl⟩;exact y76
  |ok b s'=>
   have c3:=fun l hw=>WPost.oks hlt (c3 l hw)
   obtain⟨b1,b2,b3,b4,b5⟩:=b;simp only[Tm.av,aH,List.map] at c3;refine Go.AI.rl rfl aF aA rfl (c3 _ (hh.app aA)) ?_;exact y4c
 ·simp only[AOut.ret.injEq] at hv;subst hv
  have hget:∀(a b o:Option AO),(h++a::b::(G++[o]))[h.length+2+G.length]?=some o:=fun a b o=>by
   rw[show h++a::b::(G++[o])=(h++[a,b]++G)++[o] by simp,bA7 (by simp;omega),show h.length+2+G.length-(h++[a,b]++G).length=0 by simp;omega];rfl
  have hset:∀(a b o o':Option AO),(h++a::b::(G++[o])).set (h.length+2+G.length) o'=h++a::b::(G++[o']):=fun a b o o'=>by
   rw[show h++a::b::(G++[o])=(h++[a,b]++G)++[o] by simp,bAe _ _ (by simp;omega),show h.length+2+G.length-(h++[a,b]++G).length=0 by simp;omega];simp
  have hwf:∀(o:Option AO),(∀n,AO.under n o=true)->WF (h++some (.cells [.p (iP k), .p (iP i), .p (sP n), .p (.sl 2 (aW ls)), .p (.sl 5 (aL ks))])::some (.cells zTm)::(G++[o])):=fun o ho=>by
   have:=hG.app (l:=[o]) (by rw[List.all_cons,ho];rfl);exact y6y
  refine zor ?_;have hrv:=uQ _ (hwf (row vars (cap-vars.length)) (fun n=>row_under n _ _)) vars (h.length+2+G.length) cap (cap-vars.length) hl (hget _ _ _);rw[hset] at hrv;refine rl (args:=[.sm (h.length+2+G.length) 0 vars.length cap 5]) rfl aF aA rfl (hrv) ?_;refine zo ?_;refine Run.freezeS 7 (id:=h.length+2+G.length) (n:=vars.length) (cap:=cap) (sz:=5) (m:=cap-vars.length) (es:=aL vars.reverse) aA (by simp only[Heap.at];rw[hget];rfl) (eJ _) aA hc ?_;rw[hset];refine cI ?_
  cases w with
  |out=>exact absurd rfl hne
  |fail s'=>
   have c3:=fun l hw=>WPost.fails hlt (c3 l hw)
   refine Run.call rfl aF aA rfl (c3 _ (hwf none (fun _=>rfl))) ?_ ?_
   ·rintro v h' ⟨hv,_⟩;cases hv
   rintro v h' ⟨hv,rfl⟩;exact y76
  |ok b s'=>
   have c3:=fun l hw=>WPost.oks hlt (c3 l hw)
   obtain⟨b1,b2,b3,b4,b5⟩:=b;simp only[Tm.av,aH,List.map] at c3;refine zL (c3 _ (hwf none (fun _=>rfl))) ?_;exact y4c
open Go Go.AI
def kZ (o:Option Tm):AV:= .tup [(o.getD zT).av,bA o.isSome]
def pQ (ls:List Lv):Prop:=ls.length<=8/\∀l∈ls,l.vars.length<=1048576
theorem aRn {t:Tm} (h:t.at_):pQ t.levels:=by
 obtain⟨k,i,n,ls,ks⟩:=t;have:=h.1;simp only[Tm.wf,rP] at this;exact⟨this.1.2.1,this.1.2.2.1⟩
theorem tV (t:Tm)(ht:t.at_)(ls:List Lv)(hl:pQ ls)(h:Heap)(hh:WF h):
  AC 14 [t.av, .p (.sl 2 (aW ls))] h (.tup [(bF (lvF ls false) t).1.av,iA (bF (lvF ls false) t).2]):=
 aF3 h hh t ls ⟨by simpa using Tm.wf_ok t 65536 ht.1 aB,by omega,by have:=ht.2;omega⟩ (by have:=hl.1;omega) hl.2
def aGr (ls:List Lv)(va:Tm)(args:List Tm)(s:Int):WO (Option Tm):=
 if(bF (lvF ls false) va).2≠0 then .ok none s else iK s fun s=> .ok (some (aN (bF (lvF ls false) va).1 args)) s
theorem aB9 (env:List Dc)(a0:Int)(n:Nat)(a2 a3:Int)(ty:Tm)(d:Dc)(hd:env[n]?=some d)(hva:d.va.at_)(t:Tm)(ht:pQ t.levels)(args:List Tm)(hl:args.length<=1048576)(s:Int)(hs0:-1000000<s)(hs1:s<=1000000)(q:Nat)(h:Heap)(hh:WF h)(hq:h[q]?=some (dU env s)):
  ACalls Tryz.prog 262 [.ptr q 0,(En.mk a0 n a2 a3 ty).av,t.av, .p (.sl 5 (aL args))] h (WPost env q h kZ (aGr t.levels d.va args s)):=by
 obtain⟨g1,g2,g3,g4,g5,hlt⟩:=idf hq;have c0:=fun(l:Heap) (hw:WF (h++l))=>mB env s aB hs1 q (h++l) hw (g1 l)
 simp only[g2] at c0;have c1:=fun g hw=>tV d.va hva t.levels ht g hw
 have c2:=fun g hw=>dG g hw (bF (lvF t.levels false) d.va).1 args hl
 obtain⟨w,hw⟩:∃w,aGr t.levels d.va args s=w:=⟨_,rfl⟩;rw[hw];unfold aGr iK at hw;have hnl:=(aYv.1 hd).1;have hd':∀q:n<env.length,env[n]'q=d:=fun q=>(aYv.1 hd).2
 generalize bF (lvF t.levels false) d.va=r at c1 c2 hw;obtain⟨⟨r1,r2,r3,r4,r5⟩,e⟩:=r;simp only at c1 c2 hw;generalize aN (.mk r1 r2 r3 r4 r5) args=ap at c2 hw;obtain⟨p1,p2,p3,p4,p5⟩:=ap;obtain⟨kk,nm,pr,⟨k1,i1,n1,l1,s1⟩,⟨v1,v2,v3,v4,v5⟩,fx,cs,rp,⟨k3,i3,n3,l3,s3⟩,rr,fs⟩:=d;obtain⟨k,i,nmt,ls,ks⟩:=t;obtain⟨u1,u2,u3,u4,u5⟩:=ty;simp only[Tm.av,aH,List.map,Tm.levels] at c1 c2;simp only[En.av,En.cells,Tm.av,aH,List.map];have wk:Weak (.tup [.agg zTm,bA false]) (kZ none):=Weak.tup (WeakL.cons Weak.zT (WeakL.refl _));refine zER Tryz.func262 Tryz.ntmps262 ?_;refine ND.Run.drawP (pc:=[11]) [0,0,0,0,0,0,0,0,0,0,0,0,0,0,0,0,1,2] [0,0,0,0,0,0,0,0,0,0,0,0,0,0,0,0,1,0] [0,1,3,7,0,16,63,127,255,0,512,2047,4095,8191,8191,0,49151,131071] [15,0,1,2,3,4,5,6,7,8,9,10,11,12,13,16,14,17] aC aC ?_;refine aYb g1 hd' hnl ?_;refine ND.DR.pcall rfl rfl rfl aA rfl rfl (fun g hg=>(c1) g ?_) ?_
 ·exact y2v
 refine zm ?_;refine y9 ?_;refine nv ?_
 by_cases he:e=0
 rotate_left
 ·rw[if_pos he] at hw;subst hw;have heb:(e !=(0:Int))=true:=by simpa using he
  refine gB heb ?_;exact Fin.ret' (h0:=h) (xs:=[.agg zTm,bA false]) aA rfl hh rfl aA rfl wk (by simp[kZ,zT]) ⟨rfl,(dO hq).symm⟩
 subst he;rw[if_neg aA] at hw;refine mI ?_
 by_cases hz:s-1<0
 ·rw[if_pos hz] at hw;subst hw;simp only[if_pos hz] at c0;refine Run.call rfl aF aA rfl (c0 _ (hh.app aA)) ?_ ?_
  ·rintro v h' ⟨hv,_⟩;cases hv
  rintro v h' ⟨hv,rfl⟩;exact y4f
 ·rw[if_neg hz] at hw;subst hw;simp only[if_neg hz] at c0;refine y1z ?_;obtain⟨G,hG⟩:∃G,List.set h q (dU env (s-1))=G:=⟨_,rfl⟩;have hGl:h.length=G.length:=by rw[<-hG];simp
  have hGw:WF G:=by rw[<-hG];exact hh.set aA
  have hGq:G[q]?=some (dU env (s-1)):=by rw[<-hG];exact g3 _
  refine y17 ?_;refine zox ?_;exact y7p
theorem oA {env:List Dc} {m:Tm} {co:Co} (h:hU env m=some co):co.as_.length<=(aG m).2.length/\(∀a∈co.as_,a∈(aG m).2)/\(aG m).1.kind=3:=by
 unfold hU at h
 by_cases c1:(aG m).1.kind≠3
 ·rw[if_pos c1] at h;cases h
 rw[if_neg c1] at h;split at h
 ·split at h
  ·split at h
   ·simp only[aYz] at h;subst h;exact⟨by simp,fun a ha=>bAp ha,by simpa using c1⟩
   ·cases h
  ·cases h
 ·cases h
@[simp] theorem Dc.row_rr' (d:Dc) (q:21<d.row.length):d.row[21]'q= .p (.sl 5 (aL d.rr)):=by
 have:d.row[21]?=some (.p (.sl 5 (aL d.rr))):=by
  exact y3g
 exact y4o
theorem aEc (env:List Dc)(hg:Env.good env)(hf:aP env)(d:Dc)(hd:d.good)(h0:0<=d.fx)(h1:d.fx<=1048576)(hrr:∀r∈d.rr,r.at_)(t:Tm)(ht:pQ t.levels)(args:List Tm)(hl:args.length<=1048576)(hsc:kF d<args.length)
  (m:Tm) (hm:(aG m).2.length<=1048576) (s:Int) (hs0:-1000000<s) (hs1:s<=1000000) (q:Nat) (h:Heap) (hh:WF h) (hq:h[q]?=some (dU env s)):
  ACalls Tryz.prog 275 [.ptr q 0,d.av,t.av, .p (.sl 5 (aL args)),m.av] h (WPost env q h kZ (rN env d t.levels args m s)):=by
 obtain⟨g1,g2,g3,g4,g5,hlt⟩:=idf hq;have c0:=fun(l:Heap) (hw:WF (h++l))=>mB env s aB hs1 q (h++l) hw (g1 l)
 simp only[g2] at c0;have c1:=fun(l:Heap) (hw:WF (h++l))=>tB env hg hf m hm q s (h++l) hw (g1 l)
 have c4:=fun g hw=>oY g hw d hd h0 h1
 have hix:0<=ixZ d:=by unfold ixZ;split<;>omega
 have hscz:kF d=d.fx+1+d.cs.length+ixZ d:=rfl;obtain⟨n1,hn1⟩:∃n1:Nat,d.fx+1+d.cs.length=n1:=⟨(d.fx+1+d.cs.length).toNat,by omega⟩;obtain⟨n2,hn2⟩:∃n2:Nat,kF d=n2:=⟨(kF d).toNat,by omega⟩;have hw1:IntKind.i64.wrap (d.fx+1)=d.fx+1:=aQ aB aB;have hw2:IntKind.i64.wrap (d.fx+1+d.cs.length)=n1:=by rw[aQ aB aB,hn1]
 have hw3:IntKind.i64.wrap ((n2:Int)+1)=(n2+1:Nat):=by rw[aQ aB aB];omega
 have hn1l:n1<=args.length:=aB;have hn2l:n2+1<=args.length:=aB;simp only[hn2,Dc.av_row] at c4;simp only[Dc.av_row];obtain⟨w,hw⟩:∃w,rN env d t.levels args m s=w:=⟨_,rfl⟩;rw[hw];unfold rN at hw;rw[hn1,hn2] at hw;have hcs:=fun co=>oA (env:=env) (m:=m) (co:=co)
 generalize hU env m=oc at c1 hw hcs;obtain⟨k,i,nmt,ls,ks⟩:=t;obtain⟨x1,x2,x3,x4,x5⟩:=m;simp only[Tm.av,aH,List.map] at c1;refine y1o ?_;have wk:Weak (.tup [.agg zTm,bA false]) (kZ none):=Weak.tup (WeakL.cons Weak.zT (WeakL.refl _));have hzu:AV.under h.length (kZ none)=true:=by simp[kZ,zT]
 refine cW Tryz.func275 Tryz.ntmps275 ?_;refine yx ?_;refine aOk ?_
 cases oc with
 |none=>
  simp only at hw;subst hw;refine zn ?_;refine aK7 ?_;refine y2a ?_;exact y4n
 |some co=>
  simp only at hw;have hcl:=(hcs co rfl).1
  by_cases hb:co.d.nm≠d.nm\/d.rr.length<=co.i
  ·rw[if_pos hb] at hw;subst hw
   by_cases hn:co.d.nm=d.nm
   ·have hi:d.rr.length<=co.i:=hb.resolve_left (by simp[hn]);refine zn ?_;refine aRh hn hi ?_;refine y2a ?_;exact y4n
   ·have hnb:(co.d.nm==d.nm)=false:=by simpa using hn
    refine zn ?_;refine aWu hnb ?_;refine y2a ?_;exact y4n
  rw[if_neg hb] at hw;rw[not_or] at hb;obtain⟨hn,hi⟩:=hb;have hn:co.d.nm=d.nm:=by simpa using hn
  have hil:co.i<d.rr.length:=aB;have hgr:d.rr[co.i]?=some d.rr[co.i]:=aYu hil;rw[hgr,aZb] at hw;have hra:=hrr _ (aYx hil);have hgr':∀q:co.i<d.rr.length,d.rr[co.i]'q=d.rr[co.i]:=fun _=>rfl
  generalize hrle:d.rr[co.i]=rl at hgr hw hra;have c2:=fun g hw=>tV rl hra ls ht g hw
  have c5:=fun g hw=>dG g hw (bF (lvF ls false) rl).1 (args.take n1) (by simp;omega)
  have c6:=fun g hw=>dG g hw (aN (bF (lvF ls false) rl).1 (args.take n1)) co.as_ aB
  have c7:=fun g hw=>dG g hw (aN (aN (bF (lvF ls false) rl).1 (args.take n1)) co.as_) (args.drop (n2+1)) (by simp;omega)
  simp only[Tm.levels] at hw;have e1:((n1:Nat):Int).toNat=n1:=aA;have e2:((n2:Nat)+1:Int).toNat=n2+1:=aB;rw[e1,e2] at hw;obtain⟨⟨⟨r1,r2,r3,r4,r5⟩,e⟩,hre⟩:∃r,bF (lvF ls false) rl=r:=⟨_,rfl⟩;simp only[hre] at c2 c5 c6 c7 hw;generalize aN (.mk r1 r2 r3 r4 r5) (args.take n1)=ap1 at c5 c6 c7 hw;generalize aN ap1 co.as_=ap2 at c6 c7 hw;generalize aN ap2 (args.drop (n2+1))=ap3 at c7 hw;obtain⟨p1,p2,p3,p4,p5⟩:=ap1;obtain⟨y1,y2,y3,y4,y5⟩:=ap2;obtain⟨z1,z2,z3,z4,z5⟩:=ap3;obtain⟨b1,b2,b3,b4,b5⟩:=rl;simp only[Tm.av,aH,List.map] at c2 c5 c6 c7;have hge:∀q:co.i<(aL d.rr).length,(aL d.rr)[co.i]'q=[iP b1,iP b2,sP b3, .sl 2 (aW b4), .sl 5 (aL b5)]:=fun q=>by simp only[dA,List.getElem_map,hrle,aH]
  refine zn ?_;refine aRh hn hi ?_;refine y11 ?_;refine zm2 hge hil ?_;refine ND.DR.pcall rfl rfl rfl aA rfl rfl (fun g hg=>(c2) g ?_) ?_
  ·exact y2v
  refine zm ?_;refine y9 ?_;refine nv ?_
  by_cases he:e=0
  rotate_left
  ·rw[if_pos he] at hw;subst hw;have heb:(e !=(0:Int))=true:=by simpa using he
   refine gB heb ?_;exact y4n
  subst he;rw[if_neg aA] at hw;unfold iK at hw;refine mI ?_
  by_cases hz:s-1<0
  ·rw[if_pos hz] at hw;subst hw;simp only[if_pos hz] at c0;refine Run.call rfl aF aA rfl (c0 _ (hh.app aA)) ?_ ?_
   ·rintro v h' ⟨hv,_⟩;cases hv
   rintro v h' ⟨hv,rfl⟩;exact y4f
  rw[if_neg hz] at hw;subst hw;simp only[if_neg hz] at c0;refine y1z ?_;obtain⟨G,hG⟩:∃G,List.set h q (dU env (s-1))=G:=⟨_,rfl⟩;have hGl:h.length=G.length:=by rw[<-hG];simp
  have hGw:WF G:=by rw[<-hG];exact hh.set aA
  have hGq:G[q]?=some (dU env (s-1)):=by rw[<-hG];exact g3 _
  rw[hG];simp only[hGl];refine zo ?_;refine ND.Run.drawP (pc:=[]) [0,0,0,0,0,0,0,0,0,0,0,1] [0,0,0,0,0,0,0,0,0,0,0,1] [0,0,0,4,12,0,32,96,252,510,1023,2047] [0,1,2,3,4,5,6,7,8,9,10,11] aC aC ?_;refine zm3 hw1 hw2 hn1l ?_;refine ND.DR.call rfl rfl rfl aA rfl rfl (c5 _ (hGw.app aA)) ?_;refine zm ?_;refine y9 ?_;refine znr ?_;refine Go.AI.rl rfl aF aA rfl (c6 _ (hGw.app aA)) ?_;refine zo ?_;have hh:=hGw;refine nv ?_;refine ND.Run.drawP (pc:=[3]) [0,0,0,0,0,0,0,1,2] [0,0,0,0,0,0,0,1,0] [0,0,0,4,12,30,63,127,255] [0,1,2,3,4,5,6,7,8] aC aC ?_;refine zm ?_;refine ND.DR.pcall rfl rfl rfl aA rfl rfl (fun g hg=>(c4) g ?_) ?_
  ·exact y2v
  have hA:(0:Int)<=(n2:Int)+1:=aB;have hB:(n2:Int)+1<=(args.length:Int):=aB;refine zm3 hw3 hA hB ?_;refine y1v ?_;refine y9 ?_;refine znx ?_;exact y7p
end Go.Proofs.YtcfcolkbeelegaaGreat
