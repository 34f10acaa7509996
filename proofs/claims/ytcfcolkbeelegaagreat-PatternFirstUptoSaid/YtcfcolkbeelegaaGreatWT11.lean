import Derived.Test.YtcfcolkbeelegaaGreatWA0
import Derived.Test.YtcfcolkbeelegaaGreatWLS
import Derived.Test.YtcfcolkbeelegaaGreatWLP
import Derived.Test.YtcfcolkbeelegaaGreatWE12
import Derived.Test.YtcfcolkbeelegaaGreatWX23
import Derived.Test.YtcfcolkbeelegaaGreatWX14
import Derived.Test.YtcfcolkbeelegaaGreatWFL
import Derived.Test.YtcfcolkbeelegaaGreatWG1
import Derived.Test.YtcfcolkbeelegaaGreatWFR
set_option maxRecDepth 8000
set_option maxHeartbeats 8000000
namespace Go.Proofs.YtcfcolkbeelegaaGreat
open Go Go.AI
theorem vY (f:Lv->Lv×Int) {e:Int} (h:e≠0)(ls:List Lv):vX f e ls=e:=by
 unfold vX
 induction ls with
 |nil=>rfl
 |cons x ls ih=>rw[List.foldl_cons];simp only[cN,if_neg h];exact ih
theorem aKw (f:Lv->Lv×Int)(ls:List Lv):vX f 0 ls=vK f ls:=by
 induction ls with
 |nil=>rfl
 |cons x ls ih=>
  have e:vX f 0 (x::ls)=vX f (f x).2 ls:=by unfold vX;rw[List.foldl_cons];simp[cN]
  rw[e]
  by_cases c:(f x).2=0
  ·rw[c,ih];simp[vK,c]
  ·rw[vY f c];simp[vK,c]
mutual
theorem aLo (f:Lv->Lv×Int) {e:Int} (h:e≠0):∀t:Tm,leT f e t=e
 | .mk _ _ _ ls ks=>by simp only[leT];rw[vY f h];exact lR f h ks
theorem lR (f:Lv->Lv×Int) {e:Int} (h:e≠0):∀l:List Tm,yK f e l=e
 |[]=>rfl
 |t::ts=>by simp only[yK];rw[aLo f h t];exact lR f h ts
end
mutual
theorem aR6 (f:Lv->Lv×Int):∀(t:Tm)(s d:Int),bld (zQ f) s t d=if leT f 0 t=0 then .ok (lvT f t) s else .bad (leT f 0 t) s
 | .mk k i n ls ks,s,d=>by
  simp only[bld,zQ,Tm.levels,Tm.kind,Tm.index,Tm.name,leT,lvT,aKw]
  by_cases c:vK f ls=0
  ·simp only[c,if_true,aK8 f ks s k d 0]
   by_cases c2:yK f 0 ks=0
   ·simp only[c2,if_true];rfl
   ·simp only[c2,if_false]
  ·simp only[c,if_false,lR f c]
theorem aK8 (f:Lv->Lv×Int):∀(l:List Tm)(s k d:Int)(idx:Nat),lM (zQ f) s k d idx l=if yK f 0 l=0 then .ok (yP f l) s else .bad (yK f 0 l) s
 |[],s,k,d,idx=>by simp[lM,yK,yP]
 |t::ts,s,k,d,idx=>by
  simp only[lM,yK,yP];rw[aR6 f t]
  by_cases c:leT f 0 t=0
  ·simp only[c,if_true,aK8 f ts]
   by_cases c2:yK f 0 ts=0
   ·simp only[c2,if_true]
   ·simp only[c2,if_false]
  ·simp only[c,if_false,lR f c]
end
def bF (f:Lv->Lv×Int)(t:Tm):Tm×Int:=if leT f 0 t=0 then(lvT f t,0) else(zT,leT f 0 t)
theorem yY (h:Heap)(hh:WF h)(t:Tm)(vals:List Lv)(hsz:t.size<=1048576)(hlv:t.lvs)(hbs:vals.length<=1048576)(hbv:∀x∈vals,x.vars.length<=1048576):
  AC 15 [t.av, .p (.sl 2 (aW vals))] h (.tup [(bF (lvF vals false) t).1.av,iA (bF (lvF vals false) t).2]):=by
 have hs:=fun(g:Heap) (hg:WF g) (id:Nat) (hid:g[id]?=some (wk 0 0))=>aQp vals false hbs hbv 0 t.size t 0 g id (aYd _) hsz hlv hg hid
 obtain⟨r,hr⟩:∃r,bF (lvF vals false) t=r:=⟨_,rfl⟩;rw[hr];unfold bF at hr;generalize leT (lvF vals false) 0 t=e at hs hr;generalize lvT (lvF vals false) t=u at hs hr;obtain⟨k,i,nm,ls,ks⟩:=t;obtain⟨k',i',nm',ls',ks'⟩:=u;refine ACalls.of_run Tryz.func15 rfl ?_;simp only[Tryz.ntmps15,aYi,aYj,Tm.av,aG,List.map];refine iK ?_;refine rl (args:=[.ptr (h.length+2) 0,(Tm.mk k i nm ls ks).av, .p (.sl 2 (aW vals)),bA false]) rfl rfl aA rfl (hs _ (hh.app aA) (h.length+2) aA) ?_;refine zor ?_
 by_cases he:e=0
 ·rw[if_pos he] at hr;subst hr;refine xA he ?_;exact y3g
 ·rw[if_neg he] at hr;subst hr;refine dD he ?_;refine y14 ?_;refine zd ?_;refine y9 ?_;refine znx ?_;exact y48
theorem aIf (h:Heap)(hh:WF h)(p q:Nat) {a b c d e0:AV} {c0:AV} (hp:h[p]?=some (some (.cells [a,b,c,d,e0])))(hq:h[q]?=some (some (.cells [c0])))(hpq:p≠q)(e:Int):
  ADef Tryz.prog 104 [.ptr p 0, .ptr q 0] (some (.p (aGf e))) h ((h.set p (some (.cells zTm))).set q (some (.cells [iA e]))):=by
 obtain⟨p1,p2,p3,p4,p5,p6⟩:=idf hp;have hq2:(h.set p (some (.cells zTm)))[q]?=some (some (.cells [c0])):=by rw[aZ1 hpq];exact hq
 refine ADef.of_run Tryz.func104 rfl rfl rfl fun K J=>?_
 simp only[Tryz.ntmps104,aYi,aYj];exact y3x
theorem aLr (h:Heap)(hh:WF h)(p q:Nat):ADef Tryz.prog 104 [.ptr p 0, .ptr q 0] none h h:=by
 refine ADef.of_run Tryz.func104 rfl rfl rfl fun K J=>?_
 simp only[Tryz.ntmps104,aYi,aYj];exact y3y
theorem aE5 (f:Lv->Lv×Int)(g:FuncId)(hg:aX Tryz.prog g=true)(q:Nat)(h:Heap)(hh:WF h)(hq:q<h.length)
  (hR:∀l lv,lv.vars.length<=1048576->WF (h++l)->ACalls Tryz.prog g ([lv.av]++[.ptr q 0]) (h++l) fun o h'=>o= .ret (.tup [(f lv).1.av,iA (f lv).2])/\h'=h++l)
  (t:Tm) (hd:Dom 65536 t 0):
  AC 54 [t.av, .fn (.func g) [] [.ptr q 0]] h (.tup [(bF f t).1.av,iA (bF f t).2]):=by
 obtain⟨tc,htc⟩:∃tc:List AV,tc=t.cells.map .p:=⟨_,rfl⟩
 have hr:bF f t=match bld (zQ f) 0 t 0 with
  | .bad e _=>(zT,e)
  | .ok t' _=>(t',0):=by
  rw[aR6];unfold bF
  by_cases c:leT f 0 t=0
  ·simp only[c,if_true]
  ·simp only[c,if_false]
 generalize bF f t=r at hr⊢;obtain⟨H,hH⟩:∃H:Heap,H=h++[some (.cells tc),some (.cells [.fn (.func g) [] [.ptr q 0]]),some (.cells zTm),some (.cells [iA 0])]:=⟨_,rfl⟩;have hlen:H.length=h.length+4:=by rw[hH];simp
 have htu:∀n,AV.underL n tc=true:=fun n=>by rw[htc];exact underL_p _ _
 have hwf:WF H:=by rw[hH];exact hh.app (by simp[htu];omega)
 have hp:H[h.length+1]?=some (some (.cells [.fn (.func g) [] [.ptr q 0]])):=by rw[hH];simp
 have hbld:=nN (zQ f) 105 rfl [.ptr (h.length+1) 0] (Dom 65536) (Dom.one) (Dom.two) t.size t 0 0 (fun _=>H) (h.length+4) (aYd _) hd (fun _=>hlen) (fun _=>hwf) aA
  (fun s t d l hd hw=>by
   have:=aPn f g hg [.ptr q 0] (H++l) (h.length+1) hw (fun l'=>by rw[aYz];exact(idf hp).1 (l++l')) (by rw[aYl,hlen];omega)
    (fun l' lv hb hw'=>by
     have:=hR ([some (.cells tc),some (.cells [.fn (.func g) [] [.ptr q 0]]),some (.cells zTm),some (.cells [iA 0])]++(l++l')) lv hb (by rw[<-aYz,<-hH,<-aYz];exact hw');rw[<-aYz,<-hH,<-aYz] at this;exact this) s t d hd.lv
   refine this.mono ?_;intro o h' hp
   cases hvv:zQ f s t d<;>rw[hvv] at hp<;>simp only[iT,aYh] at hp⊢<;>exact hp)
 generalize bld (zQ f) 0 t 0=br at hbld hr;obtain⟨k,i,nm,ls,ks⟩:=t;simp only[aG,List.map] at htc;subst htc;refine ACalls.of_runD Tryz.func54 rfl ?_;simp only[Tryz.ntmps54,aYi,aYj,Tm.av,aG,List.map] at hbld⊢;refine rI ?_;refine Run.defer (i:=104) (first:=[]) (cap:=[.ptr (h.length+2) 0, .ptr (h.length+3) 0]) rfl rfl rfl aA ?_;refine zor ?_;simp only[hH] at hbld
 cases br with
 |bad e s1=>
  simp only at hr;subst hr;refine Run.call (args:=[.agg [.fn (.func 105) [] [.ptr (h.length+1) 0]],(Tm.mk k i nm ls ks).av,iA 0]) rfl rfl aA rfl hbld ?_ ?_
  ·intro v h' hR;simp[kE] at hR
  ·intro v h' hR;simp only[kE,AOut.panic.injEq] at hR;obtain⟨rfl,rfl⟩:=hR;simp only[aJw];refine⟨by simp,rfl,_,aIf _ (hh.app (by simp;omega)) (h.length+2) (h.length+3) (by simp;exact⟨rfl,rfl,rfl,rfl,rfl⟩) aE aB e,?_⟩;simp;exact y48
 |ok t2 s1=>
  simp only at hr;subst hr;refine Run.call (args:=[.agg [.fn (.func 105) [] [.ptr (h.length+1) 0]],(Tm.mk k i nm ls ks).av,iA 0]) rfl rfl aA rfl hbld ?_ ?_
  rotate_left
  ·intro v h' hR;simp[kE] at hR
  intro v h' hR;simp only[kE,AOut.ret.injEq] at hR;obtain⟨rfl,rfl⟩:=hR;obtain⟨k2,i2,nm2,ls2,ks2⟩:=t2;refine zox ?_;simp only[aJw];refine⟨by simp,rfl,_,aLr _ (hh.app (by simp;omega)) (h.length+2) (h.length+3),?_⟩;exact y3g
theorem aIe (h:Heap)(hh:WF h)(vals:List Lv)(q:Nat)(hq:h[q]?=some (some (.cells [.p (.sl 2 (aW vals))])))(l:Lv)(hb:l.vars.length<=1048576)(hbs:vals.length<=1048576)(hbv:∀x∈vals,x.vars.length<=1048576):
  AC 55 [l.av, .ptr q 0] h (.tup [(lvF vals false l).1.av,iA (lvF vals false l).2]):=by
 obtain⟨p1,_⟩:=idf hq;have hc:=fun(g:Heap) (hg:WF g)=>aIi g hg l vals hb hbs hbv
 have e:lvF vals false l=iG l vals:=rfl;rw[e];generalize iG l vals=r at hc⊢;obtain⟨c,v⟩:=l;obtain⟨⟨c',v'⟩,e⟩:=r;simp only[Lv.av,Lv.cells,List.map] at hc⊢;refine zE Tryz.func55 Tryz.ntmps55 ?_;refine aFi p1 ?_;refine zL (hc _ (hh.app aA)) ?_;refine zox ?_;exact y2t
theorem aEq (h:Heap)(hh:WF h)(t:Tm)(vals:List Lv)(hd:Dom 65536 t 0)(hbs:vals.length<=1048576)(hbv:∀x∈vals,x.vars.length<=1048576):
  AC 14 [t.av, .p (.sl 2 (aW vals))] h (.tup [(bF (lvF vals false) t).1.av,iA (bF (lvF vals false) t).2]):=by
 have hc:=fun(g:Heap) (hg:WF g) (q:Nat) (hq:g[q]?=some (some (.cells [.p (.sl 2 (aW vals))])))=>aE5 (lvF vals false) 55 rfl q g hg (aYc.1 hq).1
  (fun l lv hb hw=>aIe (g++l) hw vals q ((idf hq).1 l) lv hb hbs hbv) t hd
 generalize bF (lvF vals false) t=r at hc⊢;obtain⟨⟨k',i',n',ls',ks'⟩,e⟩:=r;obtain⟨k,i,nm,ls,ks⟩:=t;refine ACalls.of_run Tryz.func14 rfl ?_;simp only[Tryz.ntmps14,aYi,aYj,Tm.av,aG,List.map];refine rI ?_;refine rl (args:=[(Tm.mk k i nm ls ks).av, .fn (.func 55) [] [.ptr (h.length+1) 0]]) rfl aF aA rfl (hc _ (hh.app aA) (h.length+1) aA) ?_;refine zox ?_;exact y2t
open Go Go.AI
theorem aU2:∃a b c,Tryz.prog.underlying 327=some (.func a b c):=⟨#[242,25,23],#[25,4],false,by kernel_rfl⟩
theorem aXi:stT Tryz.prog 328=some [(0,1),(1,1),(2,1),(3,1),(4,1),(5,1),(6,1)]:=aC
def usB (env:List Dc)(n:List UInt8)(ls:List Lv):Bool:=decide ((aK env n).2=0)&& decide ((ls.length:Int)=(aK env n).1.ps)
theorem wW (env:List Dc)(hg:Env.good env)(hn:Env.short env)(k i:Int)(nm:List UInt8)(ls:List Lv)(ks:List Tm)(q:Nat)(s:Int)(h:Heap)(hh:WF h)(hq:h[q]?=some (some (.cells [bW env,iA s]))):
  AC 261 [.ptr q 0,(Tm.mk k i nm ls ks).av] h (.tup [(aK env nm).1.av,bA (usB env nm ls)]):=by
 have hql:=(aYc.1 hq).1;have hq':∀l:List (Option AO),(h++l)[q]?=some (some (.cells [bW env,iA s])):=fun l=>by rw[aYp hql];exact hq
 have c1:=fun g hw=>aGg g hw env nm hg hn
 unfold usB;generalize aK env nm=r at c1⊢;obtain⟨⟨a0,a1,a2,a3,⟨b0,b1,b2,b3,b4⟩⟩,e⟩:=r;simp only[En.av,En.cells,aG,List.map] at c1;refine ACalls.of_run Tryz.func261 rfl ?_;simp only[Tryz.ntmps261,aYi,aYj,Tm.av,aG,List.map];refine znr ?_;refine y16 ?_;refine zm1 hq' ?_;refine ND.DR.pcall rfl rfl rfl aA rfl rfl (fun g hg=>(c1) g ?_) ?_
 ·exact y2w
 refine zm ?_;refine y9 ?_;refine nv ?_;exact y3t
def aCm (env:List Dc)(n:List UInt8)(ls:List Lv):Prop:=usB env n ls=false\/(aK env n).1.k=0\/(aK env n).1.k=2\/(aK env n).1.k=3\/(aK env n).1.k=4
theorem mB (env:List Dc)(hg:Env.good env)(hn:Env.short env)(k i:Int)(nm:List UInt8)(ls:List Lv)(ks args:List Tm)(q:Nat)(s:Int)(h:Heap)(hh:WF h)(hq:h[q]?=some (some (.cells [bW env,iA s])))(hst:aCm env nm ls):
  AC 237 [.ptr q 0,(Tm.mk k i nm ls ks).av, .p (.sl 5 (aL args))] h (.tup [zT.av,bA false]):=by
 have hql:=(aYc.1 hq).1;have hq':∀l:List (Option AO),(h++l)[q]?=some (some (.cells [bW env,iA s])):=fun l=>by rw[aYp hql];exact hq
 have c1:=fun(l:List (Option AO)) (hw:WF (h++l))=>wW env hg hn k i nm ls ks q s (h++l) hw (hq' l)
 unfold aCm at hst;generalize usB env nm ls=b at c1 hst;generalize aK env nm=r at c1 hst;obtain⟨⟨a0,a1,a2,a3,⟨b0,b1,b2,b3,b4⟩⟩,e⟩:=r;simp only[En.av,En.cells,aG,List.map,Tm.av] at c1;simp only at hst;simp only[Tm.av,zT,aG,List.map];refine cR Tryz.func237 Tryz.ntmps237 ?_;refine zL (c1 _ (hh.app aA)) ?_;refine zor ?_
 cases b with
 |false=>
  refine lF ?_;exact y6p
 |true=>
  simp only[reduceCtorEq,false_or] at hst;refine znf ?_;rcases hst with rfl|rfl|rfl|rfl
  all_goals
   refine zn ?_;refine aU6 ?_;refine Run.regPre 1 fun K J=>?_
   refine yd ?_;simp;refine zi ?_;clear J;refine ya ?_;refine Run.funcNil true rfl (by simp[aI]) aU2 (.inl ⟨by simp,rfl⟩) ?_;refine aR1 ?_;refine zx ?_;exact y6p
def aRv (env:List Dc)(t:Tm):Prop:=t.size<=40960/\(aH t).2.length<=40960/\match (aH t).1 with
 | .mk k _ n ls _=>k≠5/\k≠11/\k≠9/\k≠10/\(k=3->aCm env n ls)
theorem zU (env:List Dc)(hg:Env.good env)(hn:Env.short env)(t:Tm)(hst:aRv env t)(q:Nat)(s:Int)(h:Heap)(hh:WF h)(hq:h[q]?=some (some (.cells [bW env,iA s]))):
  AC 211 [.ptr q 0,t.av] h t.av:=by
 have hql:=(aYc.1 hq).1;have hq':∀l:List (Option AO),(h++l)[q]?=some (some (.cells [bW env,iA s])):=fun l=>by rw[aYp hql];exact hq
 obtain⟨h1,h2,h3⟩:=hst;have c1:=fun g hw=>aEy g hw t aB
 generalize aH t=r at c1 h2 h3;obtain⟨⟨k,i,nm,ls,ks⟩,asp⟩:=r;simp only at h2 h3;obtain⟨n5,n11,n9,n10,hc⟩:=h3;have c2:=fun(l:List (Option AO)) (hw:WF (h++l)) hc=>mB env hg hn k i nm ls ks asp q s (h++l) hw (hq' l) hc
 obtain⟨k0,i0,nm0,ls0,ks0⟩:=t;simp only[Tm.av,zT,aG,List.map] at c1 c2⊢;have hasl:¬40960<(asp.length:Int):=aB;have hasl':¬40960<asp.length:=aB;have k5:(k==(5:Int))=false:=by simpa using n5
 have k11:(k==(11:Int))=false:=by simpa using n11
 have k9:(k==(9:Int))=false:=by simpa using n9
 have k10:(k==(10:Int))=false:=by simpa using n10
 refine zER Tryz.func211 Tryz.ntmps211 ?_;refine Run.loop ?_;refine znr ?_;refine zL (c1 _ (hh.app aA)) ?_;refine zo ?_;refine zr1 hasl ?_;refine yw ?_;refine zr1 k5 ?_;refine zf ?_;refine zr1 k11 ?_;refine zf ?_;refine zr1 k9 ?_;refine zf ?_;refine zr1 k10 ?_;refine zf ?_
 by_cases k3:k=3
 ·subst k3;refine aQw ?_;refine zL (c2 _ (hh.app aA) (hc rfl)) ?_;refine oX ?_;exact y2t
 ·have k3b:(k==(3:Int))=false:=by simpa using k3
  refine aFd k3b ?_;exact y2t
open Go Go.AI
theorem aMz (h:Heap)(hh:WF h)(p:Nat):ADef Tryz.prog 233 [.ptr p 0] none h h:=by
 refine ADef.of_run Tryz.func233 rfl rfl rfl fun K J=>?_
 simp only[Tryz.ntmps233,aYi,aYj];exact y3y
section
variable (env:List Dc) (t t':Tm) (s':Int)
def xC:Prop:=∀(H:Heap)(q:Nat),WF H->H[q]?=some (some (.cells [bW env,iA 20000]))->ACalls Tryz.prog 211 [.ptr q 0,t.av] H fun o h'=>o= .ret t'.av/\h'=H.set q (some (.cells [bW env,iA s']))
theorem aNv (hc:xC env t t' s')(H:Heap)(hh:WF H)(q p r:Nat)(hq:H[q]?=some (some (.cells [bW env,iA 20000])))(hp:H[p]?=some (some (.cells (t.cells.map .p)))) {a b c d e:AV} (hr:H[r]?=some (some (.cells [a,b,c,d,e])))(hqr:q≠r):
  ACalls Tryz.prog 210 [.ptr q 0, .ptr p 0, .ptr r 0] H fun o h'=>o= .ret (.tup [])/\h'=(H.set q (some (.cells [bW env,iA s']))).set r (some (.cells (t'.cells.map .p))):=by
 have c1:=hc H q hh hq;have hrl:=(aYc.1 hr).1;have hr2:(H.set q (some (.cells [bW env,iA s'])))[r]?=some (some (.cells [a,b,c,d,e])):=by rw[aZ1 hqr];exact hr
 obtain⟨k,i,nm,ls,ks⟩:=t;obtain⟨k2,i2,nm2,ls2,ks2⟩:=t';simp only[Tm.av,aG,List.map] at c1 hp⊢;refine zE Tryz.func210 Tryz.ntmps210 ?_;refine nH hp ?_;refine zL (c1) ?_;refine zo1 hr2 ?_;refine Run.nil ?_;exact Fin.ret' aA aA ((hh.set aA).set aA) (aYh _).symm rfl rfl (Weak.refl _) rfl ⟨rfl,rfl⟩
theorem aJ2 (hc:xC env t t' s')(H:Heap)(hh:WF H)(p r:Nat)(hp:H[p]?=some (some (.cells (t.cells.map .p)))) {a b c d e:AV} (hr:H[r]?=some (some (.cells [a,b,c,d,e]))):
  ACalls Tryz.prog 209 [bW env, .fn (.func 210) [] [.ptr p 0, .ptr r 0]] H fun o h'=>o= .ret (iA 0)/\h'=H.set r (some (.cells (t'.cells.map .p))):=by
 have hpl:=(aYc.1 hp).1;have hrl:=(aYc.1 hr).1;have c1:=aNv env t t' s' hc (H++[some (.cells [iA 0]),some (.cells [bW env,iA 20000])]) (hh.app aA) (H.length+1) p r aA (by rw[aYp hpl];exact hp) (by rw[aYp hrl];exact hr) aB
 have hs1:((H++[some (AO.cells [iA 0]),some (AO.cells [bW env,iA 20000])]).set (H.length+1) (some (AO.cells [bW env,iA s']))).set r (some (AO.cells (t'.cells.map .p)))=H.set r (some (AO.cells (t'.cells.map .p)))++[some (AO.cells [iA 0]),some (AO.cells [bW env,iA s'])]:=by
  have e1:(H++[some (AO.cells [iA 0]),some (AO.cells [bW env,iA 20000])]).set (H.length+1) (some (AO.cells [bW env,iA s']))=H++[some (AO.cells [iA 0]),some (AO.cells [bW env,iA s'])]:=aA;rw[e1,aZ6 _ _ hrl]
 rw[hs1] at c1;refine ACalls.of_runD Tryz.func209 rfl ?_;simp only[Tryz.ntmps209,aYi,aYj];refine znr ?_;refine Run.regPre 1 fun K J=>?_
 refine yd ?_;simp;refine zi ?_;clear J;refine ya ?_;refine Run.defer (i:=233) (first:=[]) (cap:=[.ptr H.length 0]) rfl rfl rfl aA ?_;refine zor ?_;refine rl (args:=[.ptr (H.length+1) 0, .ptr p 0, .ptr r 0]) rfl rfl aA rfl c1 ?_;have g1:∀(G l:Heap),G.length=H.length->(G++l)[H.length]?=l[0]?:=fun G l e=>by rw[aZo aB,e,Nat.sub_self]
 have g2:∀(G l:Heap) o,G.length=H.length->(G++l).set H.length o=G++l.set 0 o:=fun G l o e=>by rw[aZv _ _ aB,e,Nat.sub_self]
 generalize hG:H.set r (some (.cells (t'.cells.map .p)))=G;have hGl:G.length=H.length:=by rw[<-hG];simp
 have hGw:WF G:=by rw[<-hG];exact hh.set aA
 refine zo ?_;refine zr2 g2 hGl ?_;refine zx ?_;simp only[aJw];refine⟨by simp,rfl,_,aMz _ (hGw.app (by simp[hGl])) H.length,?_⟩;exact Fin.ret' (h0:=G) aA hGl hGw rfl (by simp[hGl];rfl) rfl (Weak.refl _) aA ⟨rfl,rfl⟩
theorem uY (hc:xC env t t' s')(h:Heap)(hh:WF h):
  AC 173 [bW env,t.av] h (.tup [t'.av,iA 0]):=by
 have c1:=aJ2 env t t' s' hc (h++[some (AO.cells (t.cells.map .p)),some (AO.cells zTm),some (AO.cells zTm)]) (hh.app aA) h.length (h.length+2) aA (by simp;exact⟨rfl,rfl,rfl,rfl,rfl⟩);obtain⟨k,i,nm,ls,ks⟩:=t;obtain⟨k2,i2,nm2,ls2,ks2⟩:=t';simp only[Tm.av,aG,List.map] at c1⊢;refine zE Tryz.func173 Tryz.ntmps173 ?_;refine iK ?_;refine zL (c1) ?_;refine aS3 ?_;exact y2t
end
end Go.Proofs.YtcfcolkbeelegaaGreat
namespace Go.Proofs.YtcfcolkbeelegaaGreat
open Go Go.AI
theorem zJ (h:Heap)(hh:WF h)(t:Tm)(hsz:(aH t).2.length<=1048576):
  AC 174 [t.av] h (.tup [(aH t).1.av, .p (.sl 5 (aL (aH t).2))]):=by
 obtain⟨r,hr⟩:∃r,r=aH t:=⟨_,rfl⟩;rw[<-hr] at hsz⊢;obtain⟨tc,htc⟩:∃tc,tc=t.cells.map AV.p:=⟨_,rfl⟩;refine y28 ?_;have htl:tc.length=5:=by rw[htc];simp
 refine cR Tryz.func174 Tryz.ntmps174 ?_;rw[htc]
 refine Run.loopS (ι:=SpI×Tm) [1,2,3] (fun p=>SpOk h p.1/\(spA p.1).length+(aH p.2).2.length<=r.2.length/\r=((aH p.2).1,(aH p.2).2++(spA p.1).reverse)) (fun p=>p.2.size) (fun p=>[(4,spV h.length p.1)])
  (fun p=>h++some (.cells (p.2.cells.map .p))::some (.cells zTm)::spB p.1) (none,t) ⟨trivial,by simp[spA,hr],by simp[spA,hr]⟩ ?_ (by simp[spB]) ?_
 ·simp[spV];exact zK
 rintro⟨st,cur⟩ ⟨hok,hle,hra⟩ IH;simp only at hok hle hra IH;simp;obtain⟨k,i,nm,ls,ks⟩:=cur
 cases hb:isB 4 (Tm.mk k i nm ls ks) with
 |none=>
  have hc:(k==4)=false\/(k=4/\((ks.length:Int)==2)=false):=by
   exact y61
  rw[dM hb] at hra;simp only[aYk] at hra;subst hra;rcases hc with hc|⟨rfl,hc⟩
  ·refine qC hc ?_
   match st,hok with
   |none,_=>
    exact y52
   |some (acc,G,cap),hok=>
    obtain⟨hcap,hpos,hW⟩:=hok;simp only[spA] at hle;have hal:acc.length<=1048576:=by simpa [spA] using hsz
    exact y2r
  ·refine qC hc ?_
   match st,hok with
   |none,_=>
    exact y51
   |some (acc,G,cap),hok=>
    obtain⟨hcap,hpos,hW⟩:=hok;simp only[spA] at hle;have hal:acc.length<=1048576:=by simpa [spA] using hsz
    exact y2r
 |some p=>
  obtain⟨f,a⟩:=p
  obtain⟨rfl,rfl⟩:k=4/\ks=[f,a]:=by
   match ks,hb with
   |[x,y],hb=>
    exact y79
  have hst:=gS hb;rw[hst] at hle;simp only[aYl,bAe] at hle;have hfp:=f.size_pos;have hap:=a.size_pos;rw[hst] at hra;simp only[aYz] at hra
  match st,hok with
  |none,_=>
   exact y3m
  |some (acc,G,cap),hok=>
   exact y2z
end Go.Proofs.YtcfcolkbeelegaaGreat
