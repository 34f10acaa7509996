import Derived.Test.YtcfcolkbeelegaaGreatJA0
import Derived.Test.YtcfcolkbeelegaaGreatJLS
import Derived.Test.YtcfcolkbeelegaaGreatJLP
import Derived.Test.YtcfcolkbeelegaaGreatJE12
import Derived.Test.YtcfcolkbeelegaaGreatJX23
import Derived.Test.YtcfcolkbeelegaaGreatJX14
import Derived.Test.YtcfcolkbeelegaaGreatJFL
import Derived.Test.YtcfcolkbeelegaaGreatJG1
import Derived.Test.YtcfcolkbeelegaaGreatJFR
set_option maxRecDepth 8000
set_option maxHeartbeats 8000000
namespace Go.Proofs.YtcfcolkbeelegaaGreat
open Go Go.AI
theorem wE (f:Lv->Lv×Int) {e:Int} (h:e≠0)(ls:List Lv):wD f e ls=e:=by
 unfold wD
 induction ls with
 |nil=>rfl
 |cons x ls ih=>rw[List.foldl_cons];simp only[cO,if_neg h];exact ih
theorem aLd (f:Lv->Lv×Int)(ls:List Lv):wD f 0 ls=vR f ls:=by
 induction ls with
 |nil=>rfl
 |cons x ls ih=>
  have e:wD f 0 (x::ls)=wD f (f x).2 ls:=by unfold wD;rw[List.foldl_cons];simp[cO]
  rw[e]
  by_cases c:(f x).2=0
  ·rw[c,ih];simp[vR,c]
  ·rw[wE f c];simp[vR,c]
mutual
theorem aM8 (f:Lv->Lv×Int) {e:Int} (h:e≠0):∀t:Tm,leT f e t=e
 | .mk _ _ _ ls ks=>by simp only[leT];rw[wE f h];exact lX f h ks
theorem lX (f:Lv->Lv×Int) {e:Int} (h:e≠0):∀l:List Tm,yT f e l=e
 |[]=>rfl
 |t::ts=>by simp only[yT];rw[aM8 f h t];exact lX f h ts
end
mutual
theorem aRo (f:Lv->Lv×Int):∀(t:Tm)(s d:Int),bld (aA2 f) s t d=if leT f 0 t=0 then .ok (lvT f t) s else .bad (leT f 0 t) s
 | .mk k i n ls ks,s,d=>by
  simp only[bld,aA2,Tm.levels,Tm.kind,Tm.index,Tm.name,leT,lvT,aLd]
  by_cases c:vR f ls=0
  ·simp only[c,if_true,aKp f ks s k d 0]
   by_cases c2:yT f 0 ks=0
   ·simp only[c2,if_true];rfl
   ·simp only[c2,if_false]
  ·simp only[c,if_false,lX f c]
theorem aKp (f:Lv->Lv×Int):∀(l:List Tm)(s k d:Int)(idx:Nat),lS (aA2 f) s k d idx l=if yT f 0 l=0 then .ok (yY f l) s else .bad (yT f 0 l) s
 |[],s,k,d,idx=>by simp[lS,yT,yY]
 |t::ts,s,k,d,idx=>by
  simp only[lS,yT,yY];rw[aRo f t]
  by_cases c:leT f 0 t=0
  ·simp only[c,if_true,aKp f ts]
   by_cases c2:yT f 0 ts=0
   ·simp only[c2,if_true]
   ·simp only[c2,if_false]
  ·simp only[c,if_false,lX f c]
end
def bF (f:Lv->Lv×Int)(t:Tm):Tm×Int:=if leT f 0 t=0 then(lvT f t,0) else(zT,leT f 0 t)
theorem zM (h:Heap)(hh:WF h)(t:Tm)(vals:List Lv)(hsz:t.size<=1048576)(hlv:t.lvs)(hbs:vals.length<=1048576)(hbv:∀x∈vals,x.vars.length<=1048576):
  AC 15 [t.av, .p (.sl 2 (aW vals))] h (.tup [(bF (lvF vals false) t).1.av,iA (bF (lvF vals false) t).2]):=by
 have hs:=fun(g:Heap) (hg:WF g) (id:Nat) (hid:g[id]?=some (wk 0 0))=>aR7 vals false hbs hbv 0 t.size t 0 g id (aYw _) hsz hlv hg hid
 obtain⟨r,hr⟩:∃r,bF (lvF vals false) t=r:=⟨_,rfl⟩;rw[hr];unfold bF at hr;generalize leT (lvF vals false) 0 t=e at hs hr;generalize lvT (lvF vals false) t=u at hs hr;obtain⟨k,i,nm,ls,ks⟩:=t;obtain⟨k',i',nm',ls',ks'⟩:=u;refine ACalls.of_run Tryz.func15 rfl ?_;simp only[Tryz.ntmps15,aZ1,aZ2,Tm.av,aH,List.map];refine iQ ?_;refine rl (args:=[.ptr (h.length+2) 0,(Tm.mk k i nm ls ks).av, .p (.sl 2 (aW vals)),bA false]) rfl rfl aA rfl (hs _ (hh.app aA) (h.length+2) aA) ?_;refine zor ?_
 by_cases he:e=0
 ·rw[if_pos he] at hr;subst hr;refine xI he ?_;exact y3f
 ·rw[if_neg he] at hr;subst hr;refine dF he ?_;refine y14 ?_;refine zd ?_;refine y9 ?_;refine znx ?_;exact y47
theorem aIw (h:Heap)(hh:WF h)(p q:Nat) {a b c d e0:AV} {c0:AV} (hp:h[p]?=some (some (.cells [a,b,c,d,e0])))(hq:h[q]?=some (some (.cells [c0])))(hpq:p≠q)(e:Int):
  ADef Tryz.prog 104 [.ptr p 0, .ptr q 0] (some (.p (aGu e))) h ((h.set p (some (.cells zTm))).set q (some (.cells [iA e]))):=by
 obtain⟨p1,p2,p3,p4,p5,p6⟩:=idf hp;have hq2:(h.set p (some (.cells zTm)))[q]?=some (some (.cells [c0])):=by rw[aZk hpq];exact hq
 refine ADef.of_run Tryz.func104 rfl rfl rfl fun K J=>?_
 simp only[Tryz.ntmps104,aZ1,aZ2];exact y3w
theorem aMb (h:Heap)(hh:WF h)(p q:Nat):ADef Tryz.prog 104 [.ptr p 0, .ptr q 0] none h h:=by
 refine ADef.of_run Tryz.func104 rfl rfl rfl fun K J=>?_
 simp only[Tryz.ntmps104,aZ1,aZ2];exact y3x
theorem aEh (f:Lv->Lv×Int)(g:FuncId)(hg:aX Tryz.prog g=true)(q:Nat)(h:Heap)(hh:WF h)(hq:q<h.length)
  (hR:∀l lv,lv.vars.length<=1048576->WF (h++l)->ACalls Tryz.prog g ([lv.av]++[.ptr q 0]) (h++l) fun o h'=>o= .ret (.tup [(f lv).1.av,iA (f lv).2])/\h'=h++l)
  (t:Tm) (hd:Dom 65536 t 0):
  AC 54 [t.av, .fn (.func g) [] [.ptr q 0]] h (.tup [(bF f t).1.av,iA (bF f t).2]):=by
 obtain⟨tc,htc⟩:∃tc:List AV,tc=t.cells.map .p:=⟨_,rfl⟩
 have hr:bF f t=match bld (aA2 f) 0 t 0 with
  | .bad e _=>(zT,e)
  | .ok t' _=>(t',0):=by
  rw[aRo];unfold bF
  by_cases c:leT f 0 t=0
  ·simp only[c,if_true]
  ·simp only[c,if_false]
 generalize bF f t=r at hr⊢;obtain⟨H,hH⟩:∃H:Heap,H=h++[some (.cells tc),some (.cells [.fn (.func g) [] [.ptr q 0]]),some (.cells zTm),some (.cells [iA 0])]:=⟨_,rfl⟩;have hlen:H.length=h.length+4:=by rw[hH];simp
 have htu:∀n,AV.underL n tc=true:=fun n=>by rw[htc];exact underL_p _ _
 have hwf:WF H:=by rw[hH];exact hh.app (by simp[htu];omega)
 have hp:H[h.length+1]?=some (some (.cells [.fn (.func g) [] [.ptr q 0]])):=by rw[hH];simp
 have hbld:=nX (aA2 f) 105 rfl [.ptr (h.length+1) 0] (Dom 65536) (Dom.one) (Dom.two) t.size t 0 0 (fun _=>H) (h.length+4) (aYw _) hd (fun _=>hlen) (fun _=>hwf) aA
  (fun s t d l hd hw=>by
   have:=aQ5 f g hg [.ptr q 0] (H++l) (h.length+1) hw (fun l'=>by rw[aZi];exact(idf hp).1 (l++l')) (by rw[aZ4,hlen];omega)
    (fun l' lv hb hw'=>by
     have:=hR ([some (.cells tc),some (.cells [.fn (.func g) [] [.ptr q 0]]),some (.cells zTm),some (.cells [iA 0])]++(l++l')) lv hb (by rw[<-aZi,<-hH,<-aZi];exact hw');rw[<-aZi,<-hH,<-aZi] at this;exact this) s t d hd.lv
   refine this.mono ?_;intro o h' hp
   cases hvv:aA2 f s t d<;>rw[hvv] at hp<;>simp only[iZ,aZ0] at hp⊢<;>exact hp)
 generalize bld (aA2 f) 0 t 0=br at hbld hr;obtain⟨k,i,nm,ls,ks⟩:=t;simp only[aH,List.map] at htc;subst htc;refine ACalls.of_runD Tryz.func54 rfl ?_;simp only[Tryz.ntmps54,aZ1,aZ2,Tm.av,aH,List.map] at hbld⊢;refine rS ?_;refine Run.defer (i:=104) (first:=[]) (cap:=[.ptr (h.length+2) 0, .ptr (h.length+3) 0]) rfl rfl rfl aA ?_;refine zor ?_;simp only[hH] at hbld
 cases br with
 |bad e s1=>
  simp only at hr;subst hr;refine Run.call (args:=[.agg [.fn (.func 105) [] [.ptr (h.length+1) 0]],(Tm.mk k i nm ls ks).av,iA 0]) rfl rfl aA rfl hbld ?_ ?_
  ·intro v h' hR;simp[kM] at hR
  ·intro v h' hR;simp only[kM,AOut.panic.injEq] at hR;obtain⟨rfl,rfl⟩:=hR;simp only[aKd];refine⟨by simp,rfl,_,aIw _ (hh.app (by simp;omega)) (h.length+2) (h.length+3) (by simp;exact⟨rfl,rfl,rfl,rfl,rfl⟩) aE aB e,?_⟩;simp;exact y47
 |ok t2 s1=>
  simp only at hr;subst hr;refine Run.call (args:=[.agg [.fn (.func 105) [] [.ptr (h.length+1) 0]],(Tm.mk k i nm ls ks).av,iA 0]) rfl rfl aA rfl hbld ?_ ?_
  rotate_left
  ·intro v h' hR;simp[kM] at hR
  intro v h' hR;simp only[kM,AOut.ret.injEq] at hR;obtain⟨rfl,rfl⟩:=hR;obtain⟨k2,i2,nm2,ls2,ks2⟩:=t2;refine zox ?_;simp only[aKd];refine⟨by simp,rfl,_,aMb _ (hh.app (by simp;omega)) (h.length+2) (h.length+3),?_⟩;exact y3f
theorem aIv (h:Heap)(hh:WF h)(vals:List Lv)(q:Nat)(hq:h[q]?=some (some (.cells [.p (.sl 2 (aW vals))])))(l:Lv)(hb:l.vars.length<=1048576)(hbs:vals.length<=1048576)(hbv:∀x∈vals,x.vars.length<=1048576):
  AC 55 [l.av, .ptr q 0] h (.tup [(lvF vals false l).1.av,iA (lvF vals false l).2]):=by
 obtain⟨p1,_⟩:=idf hq;have hc:=fun(g:Heap) (hg:WF g)=>aIz g hg l vals hb hbs hbv
 have e:lvF vals false l=iJ l vals:=rfl;rw[e];generalize iJ l vals=r at hc⊢;obtain⟨c,v⟩:=l;obtain⟨⟨c',v'⟩,e⟩:=r;simp only[Lv.av,Lv.cells,List.map] at hc⊢;refine zE Tryz.func55 Tryz.ntmps55 ?_;refine aFx p1 ?_;refine zL (hc _ (hh.app aA)) ?_;refine zox ?_;exact y2s
theorem aF3 (h:Heap)(hh:WF h)(t:Tm)(vals:List Lv)(hd:Dom 65536 t 0)(hbs:vals.length<=1048576)(hbv:∀x∈vals,x.vars.length<=1048576):
  AC 14 [t.av, .p (.sl 2 (aW vals))] h (.tup [(bF (lvF vals false) t).1.av,iA (bF (lvF vals false) t).2]):=by
 have hc:=fun(g:Heap) (hg:WF g) (q:Nat) (hq:g[q]?=some (some (.cells [.p (.sl 2 (aW vals))])))=>aEh (lvF vals false) 55 rfl q g hg (aYv.1 hq).1
  (fun l lv hb hw=>aIv (g++l) hw vals q ((idf hq).1 l) lv hb hbs hbv) t hd
 generalize bF (lvF vals false) t=r at hc⊢;obtain⟨⟨k',i',n',ls',ks'⟩,e⟩:=r;obtain⟨k,i,nm,ls,ks⟩:=t;refine ACalls.of_run Tryz.func14 rfl ?_;simp only[Tryz.ntmps14,aZ1,aZ2,Tm.av,aH,List.map];refine rS ?_;refine rl (args:=[(Tm.mk k i nm ls ks).av, .fn (.func 55) [] [.ptr (h.length+1) 0]]) rfl aF aA rfl (hc _ (hh.app aA) (h.length+1) aA) ?_;refine zox ?_;exact y2s
open Go Go.AI
theorem aUi:∃a b c,Tryz.prog.underlying 327=some (.func a b c):=⟨#[242,25,23],#[25,4],false,by kernel_rfl⟩
theorem aY1:stT Tryz.prog 328=some [(0,1),(1,1),(2,1),(3,1),(4,1),(5,1),(6,1)]:=aC
def usB (env:List Dc)(n:List UInt8)(ls:List Lv):Bool:=decide ((aK env n).2=0)&& decide ((ls.length:Int)=(aK env n).1.ps)
theorem xE (env:List Dc)(hg:Env.good env)(hn:Env.short env)(k i:Int)(nm:List UInt8)(ls:List Lv)(ks:List Tm)(q:Nat)(s:Int)(h:Heap)(hh:WF h)(hq:h[q]?=some (some (.cells [bW env,iA s]))):
  AC 261 [.ptr q 0,(Tm.mk k i nm ls ks).av] h (.tup [(aK env nm).1.av,bA (usB env nm ls)]):=by
 have hql:=(aYv.1 hq).1;have hq':∀l:List (Option AO),(h++l)[q]?=some (some (.cells [bW env,iA s])):=fun l=>by rw[aZ8 hql];exact hq
 have c1:=fun g hw=>aGv g hw env nm hg hn
 unfold usB;generalize aK env nm=r at c1⊢;obtain⟨⟨a0,a1,a2,a3,⟨b0,b1,b2,b3,b4⟩⟩,e⟩:=r;simp only[En.av,En.cells,aH,List.map] at c1;refine ACalls.of_run Tryz.func261 rfl ?_;simp only[Tryz.ntmps261,aZ1,aZ2,Tm.av,aH,List.map];refine znr ?_;refine y16 ?_;refine zm1 hq' ?_;refine ND.DR.pcall rfl rfl rfl aA rfl rfl (fun g hg=>(c1) g ?_) ?_
 ·exact y2v
 refine zm ?_;refine y9 ?_;refine nv ?_;exact y3s
def aCy (env:List Dc)(n:List UInt8)(ls:List Lv):Prop:=usB env n ls=false\/(aK env n).1.k=0\/(aK env n).1.k=2\/(aK env n).1.k=3\/(aK env n).1.k=4
theorem mK (env:List Dc)(hg:Env.good env)(hn:Env.short env)(k i:Int)(nm:List UInt8)(ls:List Lv)(ks args:List Tm)(q:Nat)(s:Int)(h:Heap)(hh:WF h)(hq:h[q]?=some (some (.cells [bW env,iA s])))(hst:aCy env nm ls):
  AC 237 [.ptr q 0,(Tm.mk k i nm ls ks).av, .p (.sl 5 (aL args))] h (.tup [zT.av,bA false]):=by
 have hql:=(aYv.1 hq).1;have hq':∀l:List (Option AO),(h++l)[q]?=some (some (.cells [bW env,iA s])):=fun l=>by rw[aZ8 hql];exact hq
 have c1:=fun(l:List (Option AO)) (hw:WF (h++l))=>xE env hg hn k i nm ls ks q s (h++l) hw (hq' l)
 unfold aCy at hst;generalize usB env nm ls=b at c1 hst;generalize aK env nm=r at c1 hst;obtain⟨⟨a0,a1,a2,a3,⟨b0,b1,b2,b3,b4⟩⟩,e⟩:=r;simp only[En.av,En.cells,aH,List.map,Tm.av] at c1;simp only at hst;simp only[Tm.av,zT,aH,List.map];refine cW Tryz.func237 Tryz.ntmps237 ?_;refine zL (c1 _ (hh.app aA)) ?_;refine zor ?_
 cases b with
 |false=>
  refine lM ?_;exact y6p
 |true=>
  simp only[reduceCtorEq,false_or] at hst;refine znf ?_;rcases hst with rfl|rfl|rfl|rfl
  all_goals
   refine zn ?_;refine aUm ?_;refine Run.regPre 1 fun K J=>?_
   refine yd ?_;simp;refine zi ?_;clear J;refine ya ?_;refine Run.funcNil true rfl (by simp[aJ]) aUi (.inl ⟨by simp,rfl⟩) ?_;refine aRj ?_;refine zx ?_;exact y6p
def aSc (env:List Dc)(t:Tm):Prop:=t.size<=40960/\(aG t).2.length<=40960/\match (aG t).1 with
 | .mk k _ n ls _=>k≠5/\k≠11/\k≠9/\k≠10/\(k=3->aCy env n ls)
theorem aA5 (env:List Dc)(hg:Env.good env)(hn:Env.short env)(t:Tm)(hst:aSc env t)(q:Nat)(s:Int)(h:Heap)(hh:WF h)(hq:h[q]?=some (some (.cells [bW env,iA s]))):
  AC 211 [.ptr q 0,t.av] h t.av:=by
 have hql:=(aYv.1 hq).1;have hq':∀l:List (Option AO),(h++l)[q]?=some (some (.cells [bW env,iA s])):=fun l=>by rw[aZ8 hql];exact hq
 obtain⟨h1,h2,h3⟩:=hst;have c1:=fun g hw=>aFb g hw t aB
 generalize aG t=r at c1 h2 h3;obtain⟨⟨k,i,nm,ls,ks⟩,asp⟩:=r;simp only at h2 h3;obtain⟨n5,n11,n9,n10,hc⟩:=h3;have c2:=fun(l:List (Option AO)) (hw:WF (h++l)) hc=>mK env hg hn k i nm ls ks asp q s (h++l) hw (hq' l) hc
 obtain⟨k0,i0,nm0,ls0,ks0⟩:=t;simp only[Tm.av,zT,aH,List.map] at c1 c2⊢;have hasl:¬40960<(asp.length:Int):=aB;have hasl':¬40960<asp.length:=aB;have k5:(k==(5:Int))=false:=by simpa using n5
 have k11:(k==(11:Int))=false:=by simpa using n11
 have k9:(k==(9:Int))=false:=by simpa using n9
 have k10:(k==(10:Int))=false:=by simpa using n10
 refine zER Tryz.func211 Tryz.ntmps211 ?_;refine Run.loop ?_;refine znr ?_;refine zL (c1 _ (hh.app aA)) ?_;refine zo ?_;refine zr1 hasl ?_;refine yw ?_;refine zr1 k5 ?_;refine zf ?_;refine zr1 k11 ?_;refine zf ?_;refine zr1 k9 ?_;refine zf ?_;refine zr1 k10 ?_;refine zf ?_
 by_cases k3:k=3
 ·subst k3;refine aRe ?_;refine zL (c2 _ (hh.app aA) (hc rfl)) ?_;refine pH ?_;exact y2s
 ·have k3b:(k==(3:Int))=false:=by simpa using k3
  refine aFs k3b ?_;exact y2s
open Go Go.AI
theorem aNi (h:Heap)(hh:WF h)(p:Nat):ADef Tryz.prog 233 [.ptr p 0] none h h:=by
 refine ADef.of_run Tryz.func233 rfl rfl rfl fun K J=>?_
 simp only[Tryz.ntmps233,aZ1,aZ2];exact y3x
section
variable (env:List Dc) (t t':Tm) (s':Int)
def xK:Prop:=∀(H:Heap)(q:Nat),WF H->H[q]?=some (some (.cells [bW env,iA 20000]))->ACalls Tryz.prog 211 [.ptr q 0,t.av] H fun o h'=>o= .ret t'.av/\h'=H.set q (some (.cells [bW env,iA s']))
theorem aOc (hc:xK env t t' s')(H:Heap)(hh:WF H)(q p r:Nat)(hq:H[q]?=some (some (.cells [bW env,iA 20000])))(hp:H[p]?=some (some (.cells (t.cells.map .p)))) {a b c d e:AV} (hr:H[r]?=some (some (.cells [a,b,c,d,e])))(hqr:q≠r):
  ACalls Tryz.prog 210 [.ptr q 0, .ptr p 0, .ptr r 0] H fun o h'=>o= .ret (.tup [])/\h'=(H.set q (some (.cells [bW env,iA s']))).set r (some (.cells (t'.cells.map .p))):=by
 have c1:=hc H q hh hq;have hrl:=(aYv.1 hr).1;have hr2:(H.set q (some (.cells [bW env,iA s'])))[r]?=some (some (.cells [a,b,c,d,e])):=by rw[aZk hqr];exact hr
 obtain⟨k,i,nm,ls,ks⟩:=t;obtain⟨k2,i2,nm2,ls2,ks2⟩:=t';simp only[Tm.av,aH,List.map] at c1 hp⊢;refine zE Tryz.func210 Tryz.ntmps210 ?_;refine nQ hp ?_;refine zL (c1) ?_;refine zo1 hr2 ?_;refine Run.nil ?_;exact Fin.ret' aA aA ((hh.set aA).set aA) (aZ0 _).symm rfl rfl (Weak.refl _) rfl ⟨rfl,rfl⟩
theorem aJj (hc:xK env t t' s')(H:Heap)(hh:WF H)(p r:Nat)(hp:H[p]?=some (some (.cells (t.cells.map .p)))) {a b c d e:AV} (hr:H[r]?=some (some (.cells [a,b,c,d,e]))):
  ACalls Tryz.prog 209 [bW env, .fn (.func 210) [] [.ptr p 0, .ptr r 0]] H fun o h'=>o= .ret (iA 0)/\h'=H.set r (some (.cells (t'.cells.map .p))):=by
 have hpl:=(aYv.1 hp).1;have hrl:=(aYv.1 hr).1;have c1:=aOc env t t' s' hc (H++[some (.cells [iA 0]),some (.cells [bW env,iA 20000])]) (hh.app aA) (H.length+1) p r aA (by rw[aZ8 hpl];exact hp) (by rw[aZ8 hrl];exact hr) aB
 have hs1:((H++[some (AO.cells [iA 0]),some (AO.cells [bW env,iA 20000])]).set (H.length+1) (some (AO.cells [bW env,iA s']))).set r (some (AO.cells (t'.cells.map .p)))=H.set r (some (AO.cells (t'.cells.map .p)))++[some (AO.cells [iA 0]),some (AO.cells [bW env,iA s'])]:=by
  have e1:(H++[some (AO.cells [iA 0]),some (AO.cells [bW env,iA 20000])]).set (H.length+1) (some (AO.cells [bW env,iA s']))=H++[some (AO.cells [iA 0]),some (AO.cells [bW env,iA s'])]:=aA;rw[e1,aZp _ _ hrl]
 rw[hs1] at c1;refine ACalls.of_runD Tryz.func209 rfl ?_;simp only[Tryz.ntmps209,aZ1,aZ2];refine znr ?_;refine Run.regPre 1 fun K J=>?_
 refine yd ?_;simp;refine zi ?_;clear J;refine ya ?_;refine Run.defer (i:=233) (first:=[]) (cap:=[.ptr H.length 0]) rfl rfl rfl aA ?_;refine zor ?_;refine rl (args:=[.ptr (H.length+1) 0, .ptr p 0, .ptr r 0]) rfl rfl aA rfl c1 ?_;have g1:∀(G l:Heap),G.length=H.length->(G++l)[H.length]?=l[0]?:=fun G l e=>by rw[bA7 aB,e,Nat.sub_self]
 have g2:∀(G l:Heap) o,G.length=H.length->(G++l).set H.length o=G++l.set 0 o:=fun G l o e=>by rw[bAe _ _ aB,e,Nat.sub_self]
 generalize hG:H.set r (some (.cells (t'.cells.map .p)))=G;have hGl:G.length=H.length:=by rw[<-hG];simp
 have hGw:WF G:=by rw[<-hG];exact hh.set aA
 refine zo ?_;refine zr2 g2 hGl ?_;refine zx ?_;simp only[aKd];refine⟨by simp,rfl,_,aNi _ (hGw.app (by simp[hGl])) H.length,?_⟩;exact Fin.ret' (h0:=G) aA hGl hGw rfl (by simp[hGl];rfl) rfl (Weak.refl _) aA ⟨rfl,rfl⟩
theorem vJ (hc:xK env t t' s')(h:Heap)(hh:WF h):
  AC 173 [bW env,t.av] h (.tup [t'.av,iA 0]):=by
 have c1:=aJj env t t' s' hc (h++[some (AO.cells (t.cells.map .p)),some (AO.cells zTm),some (AO.cells zTm)]) (hh.app aA) h.length (h.length+2) aA (by simp;exact⟨rfl,rfl,rfl,rfl,rfl⟩);obtain⟨k,i,nm,ls,ks⟩:=t;obtain⟨k2,i2,nm2,ls2,ks2⟩:=t';simp only[Tm.av,aH,List.map] at c1⊢;refine zE Tryz.func173 Tryz.ntmps173 ?_;refine iQ ?_;refine zL (c1) ?_;refine aSl ?_;exact y2s
end
end Go.Proofs.YtcfcolkbeelegaaGreat
namespace Go.Proofs.YtcfcolkbeelegaaGreat
open Go Go.AI
theorem zX (h:Heap)(hh:WF h)(t:Tm)(hsz:(aG t).2.length<=1048576):
  AC 174 [t.av] h (.tup [(aG t).1.av, .p (.sl 5 (aL (aG t).2))]):=by
 obtain⟨r,hr⟩:∃r,r=aG t:=⟨_,rfl⟩;rw[<-hr] at hsz⊢;obtain⟨tc,htc⟩:∃tc,tc=t.cells.map AV.p:=⟨_,rfl⟩;refine y28 ?_;have htl:tc.length=5:=by rw[htc];simp
 refine cW Tryz.func174 Tryz.ntmps174 ?_;rw[htc]
 refine Run.loopS (ι:=SpI×Tm) [1,2,3] (fun p=>SpOk h p.1/\(spA p.1).length+(aG p.2).2.length<=r.2.length/\r=((aG p.2).1,(aG p.2).2++(spA p.1).reverse)) (fun p=>p.2.size) (fun p=>[(4,spV h.length p.1)])
  (fun p=>h++some (.cells (p.2.cells.map .p))::some (.cells zTm)::spB p.1) (none,t) ⟨trivial,by simp[spA,hr],by simp[spA,hr]⟩ ?_ (by simp[spB]) ?_
 ·simp[spV];exact zK
 rintro⟨st,cur⟩ ⟨hok,hle,hra⟩ IH;simp only at hok hle hra IH;simp;obtain⟨k,i,nm,ls,ks⟩:=cur
 cases hb:isB 4 (Tm.mk k i nm ls ks) with
 |none=>
  have hc:(k==4)=false\/(k=4/\((ks.length:Int)==2)=false):=by
   exact y60
  rw[dL hb] at hra;simp only[aZ3] at hra;subst hra;rcases hc with hc|⟨rfl,hc⟩
  ·refine qJ hc ?_
   match st,hok with
   |none,_=>
    exact y51
   |some (acc,G,cap),hok=>
    obtain⟨hcap,hpos,hW⟩:=hok;simp only[spA] at hle;have hal:acc.length<=1048576:=by simpa [spA] using hsz
    exact y2q
  ·refine qJ hc ?_
   match st,hok with
   |none,_=>
    exact y50
   |some (acc,G,cap),hok=>
    obtain⟨hcap,hpos,hW⟩:=hok;simp only[spA] at hle;have hal:acc.length<=1048576:=by simpa [spA] using hsz
    exact y2q
 |some p=>
  obtain⟨f,a⟩:=p
  obtain⟨rfl,rfl⟩:k=4/\ks=[f,a]:=by
   match ks,hb with
   |[x,y],hb=>
    exact y7a
  have hst:=gV hb;rw[hst] at hle;simp only[aZ4,bAx] at hle;have hfp:=f.size_pos;have hap:=a.size_pos;rw[hst] at hra;simp only[aZi] at hra
  match st,hok with
  |none,_=>
   exact y3l
  |some (acc,G,cap),hok=>
   exact y2y
end Go.Proofs.YtcfcolkbeelegaaGreat
