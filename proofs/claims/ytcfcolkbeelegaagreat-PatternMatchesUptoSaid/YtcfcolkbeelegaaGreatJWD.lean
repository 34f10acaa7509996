import Derived.Test.YtcfcolkbeelegaaGreatJA0
import Derived.Test.YtcfcolkbeelegaaGreatJWA
import Derived.Test.YtcfcolkbeelegaaGreatJX23
set_option maxRecDepth 8000
set_option maxHeartbeats 64000000
namespace Go.Proofs.YtcfcolkbeelegaaGreat
open Go Go.AI
theorem aCw (N:Nat):∀(t:Tm)(h:Heap),(aG t).2.length<N->N<=1048577->WF h->
  ACalls Tryz.prog 137 [t.av] h fun o h'=>∃G:Heap,WF (h++G)/\o= .ret (.tup [(aG t).1.av, .own (h.length+G.length) 5 (aL (aG t).2)])/\h'=h++(G++[some (.tok (aG t).2.length 5)]):=by
 induction N with
 |zero=>intro t _ hN;omega
 |succ N ih=>
 intro t h hN hsz hh;obtain⟨r,hr⟩:∃r,r=aG t:=⟨_,rfl⟩;rw[<-hr];obtain⟨k,i,nm,ls,ks⟩:=t
 have hend:∀(hb:isB 4 (Tm.mk k i nm ls ks)=none),((k !=4)=true\/(k=4/\((ks.length:Int) !=2)=true))->ACalls Tryz.prog 137 [(Tm.mk k i nm ls ks).av] h fun o h'=>∃G:Heap,WF (h++G)/\o= .ret (.tup [r.1.av, .own (h.length+G.length) 5 (aL r.2)])/\h'=h++(G++[some (.tok r.2.length 5)]):=by
  intro hb hc;rw[dL hb] at hr;subst hr;refine ACalls.of_run Tryz.func137 rfl ?_;simp only[Tryz.ntmps137,aZ1,aZ2,Tm.av,aH,List.map];refine znr ?_;rcases hc with hc|⟨rfl,hc⟩
  ·refine nQ hc ?_;refine Go.AI.ct aA (nv ?_);refine zr ?_;refine Run.tok 3 5 aA ?_;simp;refine Run.ret ?_;refine Fin.retM (h0:=h++([some (.cells [iA k,iA i, .p (sP nm), .p (.sl 2 (aW ls)), .p (.sl 5 (aL ks))]),some (.cells [iA k,iA i, .p (sP nm), .p (.sl 2 (aW ls)), .p (.sl 5 (aL ks))])]++[some (.tok 0 5)])) (l:=[]) aA aA (hh.app aA) aA aE rfl (Weak.refl _) aA ⟨_,hh.app aA,rfl,rfl⟩
  ·refine nQ hc ?_;refine Go.AI.ct aA (nv ?_);refine zr ?_;refine Run.tok 3 5 aA ?_;simp;refine Run.ret ?_;refine Fin.retM (h0:=h++([some (.cells [iA 4,iA i, .p (sP nm), .p (.sl 2 (aW ls)), .p (.sl 5 (aL ks))]),some (.cells [iA 4,iA i, .p (sP nm), .p (.sl 2 (aW ls)), .p (.sl 5 (aL ks))])]++[some (.tok 0 5)])) (l:=[]) aA aA (hh.app aA) aA aE rfl (Weak.refl _) aA ⟨_,hh.app aA,rfl,rfl⟩
 by_cases hk:k=4
 ·by_cases hks:ks.length=2
  ·subst hk
   obtain⟨a,b,rfl⟩:∃a b,ks=[a,b]:=by
    match ks,hks with
    |[a,b],_=>exact⟨a,b,rfl⟩
   have hb:isB 4 (Tm.mk 4 i nm ls [a,b])=some (a,b):=by simp[isB]
   have hst:=gV hb;rw[hst] at hr;subst hr;rw[hst] at hN;simp only[aZ4,bAx] at hN;obtain⟨f1,xs,hfa⟩:∃f1 xs,aG a=(f1,xs):=⟨_,_,rfl⟩;simp only[hfa];have ih':=ih a;rw[hfa] at ih' hN;simp only at ih' hN;refine ACalls.of_run Tryz.func137 rfl ?_;simp only[Tryz.ntmps137,aZ1,aZ2,Tm.av,aH,List.map];refine rS ?_;refine zf ?_;refine Run.regPre 4 fun K J=>?_
   refine yd ?_;simp[aL];refine zi ?_;clear J;refine ya ?_;refine Run.call (args:=[a.av]) rfl aF aA rfl (ih' _ aB aB (hh.app aA)) ?_ ?_
   rotate_left
   ·rintro v h' ⟨_,_,hv,_⟩;cases hv
   rintro v h' ⟨G,hG,hv,rfl⟩;simp only[AOut.ret.injEq] at hv;subst hv;refine zo ?_;obtain⟨fk,fi,fn,fls,fks⟩:=f1;have hb1:(xs.length+1)*80<=140737488355328:=aB;have hb2:xs.length<=9223372036854775806:=aB
   have q1:∀(a b c d:Option AO),(h++a::b::(G++[c,d]))[h.length+2+G.length]?=some c:=fun a b c d=>by
    rw[show h++a::b::(G++[c,d])=(h++[a,b]++G)++[c,d] by simp,bA7 (by simp<;>omega),show h.length+2+G.length-(h++[a,b]++G).length=0 by simp<;>omega];rfl
   have q2:∀(a b c d c':Option AO),(h++a::b::(G++[c,d])).set (h.length+2+G.length) c'=h++a::b::(G++[c',d]):=fun a b c d c'=>by
    rw[show h++a::b::(G++[c,d])=(h++[a,b]++G)++[c,d] by simp,bAe _ _ (by simp<;>omega),show h.length+2+G.length-(h++[a,b]++G).length=0 by simp<;>omega];simp
   have q3:∀(a b c d:Option AO),(h++a::b::(G++[c,d]))[h.length+(G.length+1+1+1)]?=some d:=fun a b c d=>by
    rw[show h++a::b::(G++[c,d])=(h++[a,b]++G++[c])++[d] by simp,bA7 (by simp<;>omega),show h.length+(G.length+1+1+1)-(h++[a,b]++G++[c]).length=0 by simp<;>omega];rfl
   refine nv ?_;refine Run.draw [0,0,0,0,0,0,0,0,1,2] [0,0,0,0,0,0,0,0,1,0] [0,0,0,4,12,28,60,126,255,511] [1,2,3,4,5,6,7,0,8,9] aC aC ?_;refine zd4 q1 q2 hb1 hb2 ?_;refine y9 ?_;refine znx ?_;have hw:=hG.set (id:=h.length+1) (o:=some (.cells [.p (iP fk), .p (iP fi), .p (sP fn), .p (.sl 2 (aW fls)), .p (.sl 5 (aL fks))])) aA;simp at hw;refine Fin.retM (h0:=h++([some (.cells [.p (iP 4), .p (iP i), .p (sP nm), .p (.sl 2 (aW ls)), .p (.sl 5 [a.cells,b.cells])]),some (.cells [.p (iP fk), .p (iP fi), .p (sP fn), .p (.sl 2 (aW fls)), .p (.sl 5 (aL fks))])]++G++[some (.tok (xs.length+1) 5)])) (l:=[some (.cells [.p (iP fk), .p (iP fi), .p (sP fn), .p (.sl 2 (aW fls)), .p (.sl 5 (aL fks))])]) aA aA ?_ aA aE rfl (Weak.refl _) (by simp;omega) ⟨[some (.cells [.p (iP 4), .p (iP i), .p (sP nm), .p (.sl 2 (aW ls)), .p (.sl 5 [a.cells,b.cells])]),some (.cells [.p (iP fk), .p (iP fi), .p (sP fn), .p (.sl 2 (aW fls)), .p (.sl 5 (aL fks))])]++G,?_,?_,?_⟩
   ·have:=hw.app (l:=[some (.tok (xs.length+1) 5)]) aA;exact y6y
   ·simpa using hw
   ·simp[eX];omega
   ·simp
  ·have hk2:((ks.length:Int) !=2)=true:=by simp;omega
   refine hend ?_ (.inr ⟨hk,hk2⟩)
   match ks,hks with
   |[],_=>rfl
   |[_],_=>rfl
   |_::_::_::_,_=>rfl
 ·have hkb:(k !=4)=true:=by simpa using hk
  refine hend ?_ (.inl hkb)
  match ks with
  |[]=>rfl
  |[_]=>rfl
  |[_,_]=>simp[isB,hk]
  |_::_::_::_=>rfl
theorem aCv (h:Heap)(hh:WF h)(t:Tm)(hsz:(aG t).2.length<=1048576):AC 137 [t.av] h (.tup [(aG t).1.av, .p (.sl 5 (aL (aG t).2))]):=
 ACalls.plain hh (aCw ((aG t).2.length+1) t h (Nat.lt_succ_self _) aB hh) (by
  rintro o h' ⟨G,hG,rfl,rfl⟩;exact⟨_,_,_,rfl,rfl,Weak.tup (WeakL.cons (Weak.refl _) (WeakL.cons (Weak.own _ _ _) WeakL.nil)),by simp,rfl,rfl⟩)
theorem nJ (h:Heap)(hh:WF h)(env:List Dc)(t:Tm)(hg:Env.good env)(hf:aP env)(ht:(aG t).2.length<=1048576):AC 85 [bW env,t.av] h (.tup [(nG (hU env t)).d.av,iA (nG (hU env t)).i, .p (.sl 5 (aL (nG (hU env t)).as_)),bA (hU env t).isSome]):=by
 have hsl:=ht;have c1:=fun g hw=>aCv g hw t ht
 obtain⟨r,hr⟩:∃r,r=hU env t:=⟨_,rfl⟩;rw[<-hr];unfold hU at hr;generalize aG t=q at hsl c1 hr;obtain⟨hd,xs⟩:=q;simp only at hsl c1 hr;have c2:=fun g hw=>kA g hw env hd.name hg hf.1
 have hfc:=fF hf hd.name;generalize gS env hd.name=fz at c2 hfc hr;obtain⟨sk,hsk⟩:∃x,x=hd.kind:=⟨_,rfl⟩;rw[<-hsk] at hr;obtain⟨k,i,n,ls,ks⟩:=t;obtain⟨k2,i2,n2,l2,s2⟩:=hd;change sk=k2 at hsk;subst hsk;simp only[Tm.av,aH,List.map,Tm.name] at c1 c2 hfc⊢;refine cW Tryz.func85 Tryz.ntmps85 ?_;refine yx ?_;refine zo ?_
 by_cases e0:sk=3
 rotate_left
 ·rw[if_pos e0] at hr;have e0':(sk !=3)=true:=by simpa using e0
  refine nQ e0' ?_;exact y3b
 subst e0;rw[if_neg aA] at hr;refine mI ?_;rcases hfc with rfl|⟨d,a,rfl,hm,hk3,hok,hpl⟩
 ·rw[if_neg aA] at hr;simp only[zDc,Dc.av,Dc.cells,zT,aH,List.map,aYy,aZ3] at c2;refine y1n ?_;refine yg ?_;refine zd ?_;refine y9 ?_;refine nv ?_;exact y3b
 have hgd:=hg.2 d hm;have hcsg:=hgd.cs;have hfx0:=hok.fx0;have hfix:=hok.fix hk3;clear hok hk3 hm;simp only at hr;rcases hpl with e1|⟨j,rfl,hjl⟩
 ·rw[if_neg aB] at hr;obtain⟨kk,nm,pr,⟨k1,i1,n1,l1,s1⟩,⟨k2,i2,n2,l2,s2⟩,fx,cs,rp,⟨k3,i3,n3,l3,s3⟩,rr,fs⟩:=d;simp only[Dc.av,Dc.cells,aH,List.map,aYy,aZ3] at c2;refine y1n ?_;refine yg ?_;refine zd1 e1 ?_;refine y9 ?_;refine nv ?_;exact y3b
 rw[if_pos aA] at hr;have hgj:d.cs[j]?=some d.cs[j]:=aYu hjl;rw[aZj,hgj] at hr;simp only at hr;have hcg:=hcsg _ (aYx hjl);have c3:=fun g hw=>pM g hw d hgd j hjl
 have hFj:oH d j=aOp d.fx d.cs[j].ty:=by rw[oH,hgj]
 unfold aOp at hFj;have hla:=lY d.cs[j].ty
 have hfl:d.fx<=dI d.cs[j].ty:=by
  exact y7g
 rw[<-hla] at hfl;have hbl2:(bY d.cs[j].ty).1.length<=d.cs[j].ty.size:=(qM d.cs[j].ty hcg.2.2 hcg.1).2.2.2;have hcz:=hcg.1;generalize oH d j=F at c3 hFj;clear hla hfix hcsg hcg hgd;generalize d.cs[j]=c at hgj hr hFj hfl hbl2 hcz;generalize bY c.ty=q at hr hFj hfl hbl2;obtain⟨bs,⟨u1,u2,u3,u4,u5⟩⟩:=q;obtain⟨cn,⟨v1,v2,v3,v4,v5⟩⟩:=c;obtain⟨kk,nm,pr,⟨k1,i1,n1,l1,s1⟩,⟨k2,i2,n2,l2,s2⟩,fx,cs,rp,⟨k3,i3,n3,l3,s3⟩,rr,fs⟩:=d;simp only at hr hfx0 hfl hjl hgj hFj hbl2 hcz;obtain⟨N,rfl⟩:∃N:Nat,fx=N:=⟨fx.toNat,by omega⟩;simp only[Dc.av,Dc.cells,aH,List.map,aYy,aZ3] at c2 c3;have hj3:¬(j:Int)<0:=aB;have hwr:IntKind.i64.wrap ((bs.length:Int)-N)=bs.length-N:=aQ aB aB;rw[hwr] at hFj;have hF:F=(bs.length:Int)-N:=by rw[hFj];split<;>omega
 have hw2:IntKind.i64.wrap ((N:Int)+F)=bs.length:=by rw[aQ aB aB];omega
 clear hFj;refine y1n ?_
 by_cases e2:xs.length=bs.length
 ·rw[if_pos e2] at hr;have e2':((xs.length:Int) !=bs.length)=false:=by simp[e2]
  have e4:¬(xs.length:Int)<N:=aB;have e5:(N:Int)<=xs.length:=aB;have e6:N<=xs.length:=aB;refine nv ?_;refine yg ?_;refine zd1 hj3 ?_;refine DR.call rfl rfl rfl aA rfl (c3 _ (hh.app aA)) ?_;refine zd2 hw2 e2' ?_;refine y9 ?_;refine znf ?_;refine Run.draw [0,0,0,0,0,0,0,1,1,1] [0,0,0,0,0,0,0,0,0,0] [0,0,0,0,8,28,1,67,255,511] [0,6,1,2,3,4,5,7,8,9] aC aC ?_;refine zd1 e5 ?_;refine y9 ?_;refine znx ?_;refine zF1 hh ?_;exact⟨by rw[hr];simp[nG,Dc.av,Dc.cells],rfl⟩
 ·rw[if_neg e2] at hr;have e2':((xs.length:Int) !=bs.length)=true:=by simp;omega
  refine nv ?_;refine yg ?_;refine zd1 hj3 ?_;refine DR.call rfl rfl rfl aA rfl (c3 _ (hh.app aA)) ?_;refine zd2 hw2 e2' ?_;refine y9 ?_;refine nv ?_;exact y3b
theorem fZ {env:List Dc} (hg:Env.good env)(hf:aP env)(hA:EnvA env):∀(n:Nat)(t:Tm)(c:Kt),InQ t c->K2 c->QGood c (fun m _=>aOw m) (bJ env n t c):=by
 intro n
 induction n with
 |zero=>intro t c _ _;trivial
 |succ n ih=>
 intro t c ht h0;simp only[bJ,uZ];obtain⟨hgi,hl3,hl4⟩:=ht;have hok:aOw t:=⟨⟨fun _=>hgi.head,hgi.args,by unfold jC at hl3;omega⟩,hl3⟩
 by_cases ho:c.ov=true
 ·rw[if_pos ho];exact QGood.self h0 hok
 rw[if_neg ho];have ho:c.ov=false:=by simpa using ho
 have hl5:=hl4 ho;have hnd:=h0.2 ho;have hla:jC t=(aG t).2.length:=rfl;have hdrop:∀k,∀a∈(aG t).2.drop k,a.at_:=fun k a ha=>hgi.args a (bAp ha)
 --a contraction whose result is in order
 have hstep:∀(r:Tm) (e:Int) (k:Nat),r.at_->QGood c (fun m _=>aOw m) (bJ env n (aN r ((aG t).2.drop k)) (c.result r e)):=by
  intro r e k hr;have hr2:=hr.2;have hal:=eP r;obtain⟨k1,k2⟩:=h0.result r e aB
  have hin:InQ (aN r ((aG t).2.drop k)) (c.result r e):=by
   refine⟨(Gin.of_at hr).app (hdrop k) (by have:=fR hr;simp only[bA0];omega),by rw[cZ];simp only[bA0];omega,fun hx=>?_⟩;rw[cZ,(k2 hx).2];exact y7i
  have h3:=ih _ _ hin k1
  cases hx:bJ env n (aN r ((aG t).2.drop k)) (c.result r e) with
  |none=>trivial
  |some q=>
   exact y73
 by_cases k5:(aG t).1.kind=5
 ·rw[if_pos k5];split
  ·exact QGood.self h0 hok
  ·exact y8h
 rw[if_neg k5]
 by_cases k11:(aG t).1.kind=11
 ·rw[if_pos k11];exact y81
 rw[if_neg k11]
 by_cases k9:(aG t).1.kind=9\/(aG t).1.kind=10
 ·rw[if_pos k9];refine(ih _ c (InQ.of_at (dY hgi.head 0) h0) h0).bind fun p c1 h1 h2 hp=>?_
  by_cases k8:p.kind≠8
  ·rw[if_pos k8];have hb:isB 4 (Tm.mk (aG t).1.kind 0 [] [] [p])=none:=rfl;have hsp:=fM (Tm.mk (aG t).1.kind 0 [] [] [p]) (aG t).2;rw[dL hb] at hsp;simp only[aZ3] at hsp;refine QGood.self h1 ⟨⟨fun h=>?_,fun a ha=>?_,?_⟩,?_⟩
   ·exact y9b
   ·rw[hsp] at ha;exact hgi.args a ha
   ·rw[hsp];simp only;omega
   ·unfold jC;rw[hsp];simp only;omega
  ·rw[if_neg k8];have k8':p.kind=8:=by simpa using k8
   have hpa:p.at_:=by
    have:=hp.1.head;exact y6l
   have hka:=dY hpa ((aG t).1.kind-8).toNat;have hka2:=hka.2;have hal:=eP (p.kid ((aG t).1.kind-8).toNat);obtain⟨k1,k2⟩:=h1.result (p.kid ((aG t).1.kind-8).toNat) 0 aB
   have hin:InQ (aN (p.kid ((aG t).1.kind-8).toNat) (aG t).2) (c1.result (p.kid ((aG t).1.kind-8).toNat) 0):=by
    refine⟨(Gin.of_at hka).app hgi.args (by have:=fR hka;omega),by rw[cZ];omega,fun hx=>?_⟩;rw[cZ,(k2 hx).2];have:=(h2 (k2 hx).1).2;omega
   have h3:=ih _ _ hin k1
   cases hx:bJ env n (aN (p.kid ((aG t).1.kind-8).toNat) (aG t).2) (c1.result (p.kid ((aG t).1.kind-8).toNat) 0) with
   |none=>trivial
   |some q=>
    exact y73
 rw[if_neg k9]
 by_cases k3:(aG t).1.kind=3
 ·rw[if_pos k3];refine(mZ hg hf hA _ ih _ _ _ hgi.args c h0 ho aB).bind fun o c1 h1 h2 ho2=>?_
  cases o with
  |none=>exact QGood.self h1 hok
  |some x=>exact ih _ _ (ho2 x rfl) h1
 ·rw[if_neg k3];exact QGood.self h0 hok
open Go Go.AI
mutual
theorem aOb:∀(t:Tm),t.wf->t.lvs
 | .mk k i n ls ks,h=>by
  simp only[Tm.wf,rP] at h;simp only[Tm.lvs];exact⟨by omega,h.1.2.2.1,aHv ks h.2⟩
theorem aHv:∀(l:List Tm),Tm.wfs l->Tm.lvss l
 |[],_=>trivial
 |t::l,h=>by
  simp only[Tm.wfs] at h;simp only[Tm.lvss];exact⟨aOb t h.1,aHv l h.2⟩
end
theorem tW (t:Tm)(ht:t.at_)(ls:List Lv)(hl:pQ ls)(h:Heap)(hh:WF h):
  AC 15 [t.av, .p (.sl 2 (aW ls))] h (.tup [(bF (lvF ls false) t).1.av,iA (bF (lvF ls false) t).2]):=
 zM h hh t ls (by have:=ht.2;omega) (aOb t ht.1) (by have:=hl.1;omega) hl.2
def aSq (q:Nat)(h:Heap)(r:Option Tm×Kt)(o:AOut)(h':Heap):Prop:=o= .ret (kZ r.1)/\h'=h.set q (ktB r.2)
theorem aEb (env:List Dc)(hg:Env.good env)(hf:aP env)(d:Dc)(hd:d.good)(h0:0<=d.fx)(h1:d.fx<=1048576)(hrr:∀r∈d.rr,r.at_)(t:Tm)(ht:pQ t.levels)(a:Int)(hfam:gS env t.name=(d,a,true))(args:List Tm)(haa:∀a∈args,a.at_)(hl:args.length<=100000)(hsc:kF d<args.length)
  (m:Tm) (hm:(aG m).2.length<=1048576) (hco:∀co,hU env m=some co->(∀a∈co.as_,a.at_)/\co.as_.length<=4096) (c:Kt) (q:Nat) (h:Heap) (hh:WF h) (hq:h[q]?=some (ktB c)):
  ACalls Tryz.prog 242 [bW env,t.av, .p (.sl 5 (aL args)),m.av, .ptr q 0] h (aSq q h (rO env d t.levels args m c)):=by
 obtain⟨g1,g2,g3,g4,g5,hlt⟩:=idf hq
 have hss:h.set q (ktB c)=h:=by
  exact y4w
 have c0:=fun g hw=>kA g hw env t.name hg hf.1
 rw[hfam] at c0;have c1:=fun g hw=>nJ g hw env m hg hf hm
 have c4:=fun g hw=>uA g hw d hd h0 h1
 have hix:0<=ixZ d:=by unfold ixZ;split<;>omega
 have hscz:kF d=d.fx+1+d.cs.length+ixZ d:=rfl;obtain⟨n1,hn1⟩:∃n1:Nat,d.fx+1+d.cs.length=n1:=⟨(d.fx+1+d.cs.length).toNat,by omega⟩;obtain⟨n2,hn2⟩:∃n2:Nat,kF d=n2:=⟨(kF d).toNat,by omega⟩;have hw1:IntKind.i64.wrap (d.fx+1)=d.fx+1:=aQ aB aB;have hw2:IntKind.i64.wrap (d.fx+1+d.cs.length)=n1:=by rw[aQ aB aB,hn1]
 have hw3:IntKind.i64.wrap ((n2:Int)+1)=(n2+1:Nat):=by rw[aQ aB aB];omega
 have hn1l:n1<=args.length:=aB;have hn2l:n2+1<=args.length:=aB;simp only[hn2,Dc.av_row] at c4 c0;obtain⟨w,hw⟩:∃w,rO env d t.levels args m c=w:=⟨_,rfl⟩;rw[hw];unfold rO at hw;rw[hn1,hn2] at hw;have hcs:=fun co=>oA (env:=env) (m:=m) (co:=co)
 generalize hU env m=oc at c1 hw hcs hco;obtain⟨k,i,nmt,ls,ks⟩:=t;obtain⟨x1,x2,x3,x4,x5⟩:=m;simp only[Tm.av,aH,List.map,Dc.av_row,Tm.name] at c0 c1;refine y1o ?_;have h13:∀q,d.row[13]'q=iA d.fx:=fun q=>by have:=d.row_fx;rw[aYu q] at this;exact bAf this
 have h14:∀q,d.row[14]'q= .p (.sl 6 (d.cs.map Ct.cells)):=fun q=>by have:=d.row_cs;rw[aYu q] at this;exact bAf this
 have wk:Weak (.tup [.agg zTm,bA false]) (kZ none):=Weak.tup (WeakL.cons Weak.zT (WeakL.refl _));have hzu:AV.under h.length (kZ none)=true:=by simp[kZ,zT]
 refine cW Tryz.func242 Tryz.ntmps242 ?_;refine y1z ?_;refine aOk ?_;refine zr ?_;refine yx ?_;refine aOk ?_
 cases oc with
 |none=>
  simp only at hw;subst hw;refine zn ?_;refine aK7 ?_;exact y44
 |some co=>
  simp only at hw;have hcl:=(hcs co rfl).1;obtain⟨hca,hcal⟩:=hco co rfl
  by_cases hb:co.d.nm≠d.nm\/d.rr.length<=co.i
  ·rw[if_pos hb] at hw;subst hw
   by_cases hn:co.d.nm=d.nm
   ·have hi:d.rr.length<=co.i:=hb.resolve_left (by simp[hn]);refine zn ?_;refine aRh hn hi ?_;exact y44
   ·have hnb:(co.d.nm==d.nm)=false:=by simpa using hn
    refine zn ?_;refine aWu hnb ?_;exact y44
  rw[if_neg hb] at hw;rw[not_or] at hb;obtain⟨hn,hi⟩:=hb;have hn:co.d.nm=d.nm:=by simpa using hn
  have hil:co.i<d.rr.length:=aB;have hgr:d.rr[co.i]?=some d.rr[co.i]:=aYu hil;rw[hgr,aZb] at hw;have hra:=hrr _ (aYx hil);generalize hrle:d.rr[co.i]=rl at hgr hw hra;have c2:=fun g hw=>tW rl hra ls ht g hw
  have hla:=mQ (ls:=ls) hra;have z1:=sE (l:=args.take n1) (fun a ha=>haa a (bA3 ha));have z2:=sE hca
  have hxs:(aN (aN (bF (lvF ls false) rl).1 (args.take n1)) co.as_).size<=1099511627776:=by
   have:=hla.2;rw[jR,jR];simp only[aZm] at z1⊢;omega
  have c5:=fun g hw=>cR g hw (bF (lvF ls false) rl).1 (args.take n1) (by simp;omega)
  have c6:=fun g hw=>cR g hw (aN (bF (lvF ls false) rl).1 (args.take n1)) co.as_ aB
  have c7:=fun g hw=>cR g hw (aN (aN (bF (lvF ls false) rl).1 (args.take n1)) co.as_) (args.drop (n2+1)) (by simp;omega)
  have c8:=fun(l:List (Option AO)) (hw:WF (h++l))=>eM c (aN (aN (bF (lvF ls false) rl).1 (args.take n1)) co.as_) 0 hxs q (h++l) hw (g1 l)
  simp only[g2] at c8;simp only[Tm.levels] at hw;have e1:((n1:Nat):Int).toNat=n1:=aA;have e2:((n2:Nat)+1:Int).toNat=n2+1:=aB;rw[e1,e2] at hw;clear hla hxs;obtain⟨⟨⟨r1,r2,r3,r4,r5⟩,e⟩,hre⟩:∃r,bF (lvF ls false) rl=r:=⟨_,rfl⟩;simp only[hre] at c2 c5 c6 c7 c8 hw;generalize aN (.mk r1 r2 r3 r4 r5) (args.take n1)=ap1 at c5 c6 c7 c8 hw;generalize aN ap1 co.as_=ap2 at c6 c7 c8 hw;generalize aN ap2 (args.drop (n2+1))=ap3 at c7 hw;generalize c.result ap2 0=cr at c8 hw;obtain⟨p1,p2,p3,p4,p5⟩:=ap1;obtain⟨y1,y2,y3,y4,y5⟩:=ap2;obtain⟨z1,z2,z3,z4,z5⟩:=ap3;obtain⟨b1,b2,b3,b4,b5⟩:=rl;simp only[Tm.av,aH,List.map] at c2 c5 c6 c7 c8;have hge:∀q:co.i<(aL d.rr).length,(aL d.rr)[co.i]'q=[iP b1,iP b2,sP b3, .sl 2 (aW b4), .sl 5 (aL b5)]:=fun q=>by simp only[dA,List.getElem_map,hrle,aH]
  refine zn ?_;refine aRh hn hi ?_;refine y11 ?_;refine zm2 hge hil ?_;refine ND.DR.pcall rfl rfl rfl aA rfl rfl (fun g hg=>(c2) g ?_) ?_
  ·exact y2v
  refine zm ?_;refine y9 ?_;refine nv ?_
  by_cases he:e=0
  rotate_left
  ·rw[if_pos he] at hw;subst hw;have heb:(e !=(0:Int))=true:=by simpa using he
   refine nQ heb ?_;exact y44
  subst he;rw[if_neg aA] at hw;subst hw;refine aV4 ?_;refine ND.Run.drawP (pc:=[10]) [0,0,0,0,0,0,0,0,0,0,0,0,1] [0,0,0,0,0,0,0,0,0,0,0,0,1] [0,0,0,4,12,0,32,96,252,510,1023,0,4095] [11,0,1,2,3,4,5,6,7,8,9,10,12] aC aC ?_;refine zm5 hw1 hw2 hn1l h13 h14 ?_;refine ND.DR.pcall rfl rfl rfl aA rfl rfl (fun g hg=>(c5) g ?_) ?_
  ·exact y2v
  refine zm ?_;refine y9 ?_;refine nv ?_;have hGw:WF (h.set q (ktB cr)):=hh.set aA;have hB:(n2:Int)+1<=(args.length:Int):=aB;have hA:(0:Int)<=(n2:Int)+1:=aB;refine nv ?_;refine ND.Run.drawP (pc:=[]) [0,0,0,0,1,0,0,2,3,3,3,4,5] [0,0,0,0,1,0,0,2,0,0,3,4,0] [0,0,0,6,15,0,0,95,223,511,1023,2047,4095] [1,2,3,0,4,6,7,5,8,9,10,11,12] aC aC ?_;refine zm ?_;refine ND.DR.call rfl rfl rfl aA rfl rfl (c6 _ (hh.app aA)) ?_;refine zm ?_;refine ND.DR.call rfl rfl rfl aA rfl rfl (c8 _ (hh.app aA)) ?_;refine zm ?_;refine ND.DR.call rfl rfl rfl aA rfl rfl (c4 _ (hGw.app aA)) ?_;refine zm3 hw3 hA hB ?_;refine y1v ?_;refine y9 ?_;refine znx ?_;exact Fin.ret' (h0:=h.set q (ktB cr)) aA aA hGw aE aE rfl (Weak.refl _) aA ⟨by simp[kZ,Tm.av],rfl⟩
open Go Go.AI
structure LqI where
 tr:Tr
 vars:List Tm
 c:Kt
 N:Nat
 last:Tm
def lqG (q:Nat)(h:Heap)(p:LqI):Heap:=List.set h q (ktB p.c)++[some (.cells (p.tr.cells.map .p)),some (.cells zTm),some (.cells zTm),some (.tok p.vars.length 5),some (.cells (p.last.cells.map .p))]
def lqP (env:List Dc)(n0:Nat)(W:QO (Option (Tm×List Tm)))(p:LqI):Prop:=TrA p.N p.tr/\(∀v∈p.vars,v.at_)/\p.vars.length+p.N*4096<=1048576/\p.N<=200/\K2 p.c/\jE env (bJ env n0) p.tr p.vars p.c=W
def WQPost (q:Nat)(h:Heap):QO Tm->AOut->Heap->Prop
 |some (m,c),o,h'=>o= .ret m.av/\h'=h.set q (ktB c)
 |none,_,_=>False
def aSo (env:List Dc)(n:Nat):Prop:=∀t c,InQ t c->K2 c->bJ env n t c≠none->∀q h,WF h->h[q]?=some (ktB c)->ACalls Tryz.prog 176 [bW env,t.av, .ptr q 0] h (WQPost q h (bJ env n t c))
def aV8 (q:Nat)(h:Heap):QO (Option (Tm×List Tm))->AOut->Heap->Prop
 |some (a,c),o,h'=>(∃z,o= .ret (gU a z))/\h'=h.set q (ktB c)
 |none,_,_=>False
theorem WQPost.some {q:Nat} {h l:Heap} {m:Tm} {c:Kt} {g:FuncId} {args:List AV} {H:Heap} (hlt:q<h.length)(x:ACalls Tryz.prog g args H (WQPost q (h++l) (some (m,c)))):
  ACalls Tryz.prog g args H fun o h'=>o= .ret m.av/\h'=List.set h q (ktB c)++l:=
 x.mono fun o h' e=>⟨e.1,by rw[e.2,aZp _ _ hlt]⟩
theorem aEf (env:List Dc)(hg:Env.good env)(hf:aP env)(hA:EnvA env)(n0:Nat)(hW:aSo env n0)(tr:Tr)(N:Nat)(htr:TrA N tr)(vars:List Tm)(hv:∀v∈vars,v.at_)(hl:vars.length+N*4096<=1048576)(hN:N<=200)
  (c:Kt) (hc:K2 c) (hne:jE env (bJ env n0) tr vars c≠none) (q:Nat) (h:Heap) (hh:WF h) (hq:h[q]?=some (ktB c)):
  ACalls Tryz.prog 243 [bW env,tr.av, .p (.sl 5 (aL vars)), .ptr q 0] h (aV8 q h (jE env (bJ env n0) tr vars c)):=by
 obtain⟨g1,g2,g3,g4,g5,hlt⟩:=idf hq
 have hss:h.set q (ktB c)=h:=by
  exact y4w
 obtain⟨W,hWe⟩:∃W,jE env (bJ env n0) tr vars c=W:=⟨_,rfl⟩;rw[hWe] at hne⊢;have hav1:vars.length*80<=140737488355328:=aB;have hav2:vars.length<=9223372036854775807:=aB;obtain⟨tc,htc⟩:∃tc,tc=tr.cells.map AV.p:=⟨_,rfl⟩;have htl:tc.length=8:=by rw[htc];obtain⟨k,⟨b1,b2,b3,b4,b5⟩,v,bs⟩:=tr;simp[Tr.cells,aH]
 simp only[Tr.av];rw[<-htc];have htu:∀n,AV.underL n tc=true:=fun n=>by rw[htc];simp
 refine cW Tryz.func243 Tryz.ntmps243 ?_;refine zr2 hav1 hav2 ?_;refine zr ?_;refine Run.weakH (h.length+4) (cs:=zTm) (cs':=zT.cells.map .p) (by simp[Heap.at]) ?_ ?_
 ·simp only[zT,aH,List.map];exact zK
 simp;subst htc;refine Run.loopS (ι:=LqI) [0,3,5,8,11,13] (lqP env n0 W) LqI.N (fun p=>[(12, .own (h.length+3) 5 (aL p.vars))]) (lqG q h) ⟨tr,vars,c,N,zT⟩ ⟨htr,hv,hl,hN,hc,hWe⟩ ?_ ?_ ?_
 ·exact zS
 ·simp[lqG,hss]
 clear htr hv hl hN hc hWe hq hav1 hav2 hss g1 g2 g3 g4 g5;rintro⟨tr,vars,c,N,last⟩ ⟨htr,hv,hl,hN,hc,hWe⟩ IH;simp only at htr hv hl hN hc hWe IH;obtain⟨k,⟨b1,b2,b3,b4,b5⟩,v,bs⟩:=tr;obtain⟨l1,l2,l3,l4,l5⟩:=last;simp only[jE] at hWe;simp;simp only[lqG,Tr.cells,aH,List.map,aYy,aZ3];obtain⟨G,hG⟩:∃G,List.set h q (ktB c)=G:=⟨_,rfl⟩;have hGl:h.length=G.length:=by rw[<-hG];simp
 have hGw:WF G:=by rw[<-hG];exact hh.set aA
 have hGq:G[q]?=some (ktB c):=by rw[<-hG];simp[hlt]
 have hGs:∀c',List.set G q (ktB c')=List.set h q (ktB c'):=fun c'=>by rw[<-hG];simp
 rw[hG];simp only[hGl] at IH⊢;obtain⟨k1,k2,k3,k4,k5,hGlt⟩:=idf hGq;obtain⟨st,nd,fo,lm,ov⟩:=c;try simp only at k1 k2 k3 k4 k5 hGq
 by_cases hk:k=1
 rotate_left
 ·rw[if_neg hk] at hWe;subst hWe;have hkb:(k==(1:Int))=false:=by simpa using hk
  refine pG hkb ?_;refine Fin.ret' (h0:=G) (xs:=[.agg [iA b1,iA b2, .p (sP b3), .p (.sl 2 (aW b4)), .p (.sl 5 (aL b5))], .own (G.length+3) 5 (aL vars),bA true, .agg zTm]) aA rfl hGw rfl aA rfl (y:=gU (some (.mk b1 b2 b3 b4 b5,vars)) zT) ?_ (by simp[gU,zT,Tm.av]) ⟨⟨_,rfl⟩,hG.symm⟩;exact y64
 subst hk;rw[if_pos rfl] at hWe;refine znr ?_;refine Go.AI.ct aA (nv ?_)
 by_cases hv0:v<0\/(vars.length:Int)<=v\/ov=true
 ·rw[if_pos hv0] at hWe;subst hWe
  by_cases hv1:v<0
  ·refine nQ hv1 ?_;exact y38
  ·have hv1':0<=v:=aB
   by_cases hv2:(vars.length:Int)<=v
   ·refine sH hv1 hv2 ?_;exact y38
   ·obtain rfl:ov=true:=(hv0.resolve_left hv1).resolve_left hv2;refine zn ?_;refine zr3 hv1 hv2 k1 ?_;exact y38
 rw[if_neg hv0] at hWe;rw[not_or,not_or] at hv0;obtain⟨hv1,hv2,hv3⟩:=hv0;obtain rfl:ov=false:=by simpa using hv3
 obtain⟨j,rfl⟩:∃j:Nat,v=j:=⟨v.toNat,by omega⟩;have hjl:j<vars.length:=aB;have hgj:vars[j]?=some vars[j]:=aYu hjl;have hxa:=hv _ (aYx hjl);simp only[aZj,hgj,aZb] at hWe;have hj4:¬vars.length<=j:=aB;refine sH hj4 k1 ?_;refine zf ?_;have cw:=fun(l:Heap) (hw:WF (G++l)) (hn:bJ env n0 vars[j] ⟨st,nd,fo,lm,false⟩≠none)=>hW vars[j] ⟨st,nd,fo,lm,false⟩ (InQ.of_at hxa hc) hc hn q (G++l) hw (k1 l)
 have hgo:=fZ hg hf hA n0 vars[j] ⟨st,nd,fo,lm,false⟩ (InQ.of_at hxa hc) hc;generalize hxe:vars[j]=x at hgj hWe cw hgo;have hgj':∀q:j<vars.length,vars[j]'q=x:=fun _=>hxe
 obtain⟨x1,x2,x3,x4,x5⟩:=x;simp only[Tm.av,aH,List.map] at cw;generalize bJ env n0 (.mk x1 x2 x3 x4 x5) ⟨st,nd,fo,lm,false⟩=w at hWe cw hgo
 cases w with
 |none=>
  exact y8y
 |some p=>
  obtain⟨m,c'⟩:=p;simp only[QO.bind] at hWe;obtain⟨hc',_,hmo⟩:=hgo;have hmal:(aG m).2.length<=1048576:=by have:=hmo.2;unfold jC at this;omega
  have cw:=fun l hw=>WQPost.some hGlt (cw l hw (by intro e;cases e))
  have hcx:=fun co=>eE (co:=co) hg hf hA hmo.1
  have hci:=fun co=>aE1 (m:=m) (co:=co) hf
  obtain⟨oc,hoc⟩:∃oc,hU env m=oc:=⟨_,rfl⟩;have c2:=fun g hw=>nJ g hw env m hg hf hmal
  rw[hoc] at hWe hcx hci c2;clear hmo hmal hoc;obtain⟨m1,m2,m3,m4,m5⟩:=m;obtain⟨st',nd',fo',lm',ov'⟩:=c';simp only[Tm.av,aH,List.map,Dc.av_row] at cw c2;have hG2w:WF (List.set G q (ktB ⟨st',nd',fo',lm',ov'⟩)):=hGw.set aA;refine nv ?_;refine Run.regPre 7 fun K J=>?_
  refine yd ?_;simp[hgj];refine zi ?_;clear J;refine ya ?_;refine Go.AI.rl rfl aF aA rfl (cw _ (hGw.app aA)) ?_;refine zor ?_;refine Go.AI.rl rfl aF aA rfl (c2 _ (hG2w.app aA)) ?_;refine aOk ?_
  cases oc with
  |none=>
   simp only at hWe;subst hWe;refine zn ?_;refine aK7 ?_;exact y4h
  |some co=>
   obtain⟨hca,hcl⟩:=hcx co rfl;obtain⟨hcd,hck,hcil⟩:=hci co rfl;simp only[aRr] at hWe;refine zn ?_;refine aK7 ?_;refine zf ?_;have hgc:co.d.cs[co.i]?=some co.d.cs[co.i]:=aYu hcil;simp only[hgc,bA1,aZb] at hWe;generalize hce:co.d.cs[co.i]=cc at hgc hWe;simp only[TrA,ne_eq,bBf,false_imp_iff,true_and,true_imp_iff] at htr;obtain⟨hbl,hNp,hbs⟩:=htr;have c5:=fun g hw=>xW g hw (.mk 1 (.mk b1 b2 b3 b4 b5) j bs) cc.nm hbl
   generalize hbz:brZ cc.nm bs=ob at hWe;have hbw:=fun t (e:ob=some t)=>aGh (hbz.trans e)
   simp only[trB,hbz] at c5;generalize brW cc.nm bs=bw at c5 hbw;obtain⟨d1,⟨d2,d3,d4,d5,d6⟩,d7,d8⟩:=bw;simp only[Tr.av,Tr.cells,aH,List.map,aYy,aZ3] at c5;obtain⟨cn,ct⟩:=cc;simp only at c5 hbz;have h14:∀q,co.d.row[14]'q= .p (.sl 6 (co.d.cs.map Ct.cells)):=fun q=>by have:=co.d.row_cs;rw[aYu q] at this;exact bAf this
   have hh2:=hh;have hh:=hG2w;refine y13 ?_;refine aYf hce hcil h14 ?_;refine ND.DR.pcall rfl rfl rfl aA rfl rfl (fun g hg=>(c5) g ?_) ?_
   ·exact y2v
   refine zm ?_;refine y9 ?_;refine nv ?_
   cases ob with
   |none=>
    simp only at hWe;subst hWe;refine znr ?_;exact y4h
   |some tr'=>
    simp only at hWe;have htr':=aT0 hbs hbz;have hta:aL (vars++co.as_)=aL vars++aL co.as_:=by simp only[dA,aZx]
    have hb1:(vars.length+co.as_.length)*80<=140737488355328:=aB;have hb2:vars.length+co.as_.length<=9223372036854775807:=aB;have:=hbw tr' rfl;subst this;refine mI ?_;refine zr2 hb1 hb2 ?_;refine Run.keep [0,3,5,8,11,12,13] ?_;simp;refine Run.cutAt (h0:=List.set G q (ktB ⟨st',nd',fo',lm',ov'⟩)) 5 hG2w rfl aA aA (by simp<;>omega) aA (by simp[iL]) ?_;refine IH ⟨.mk d1 (.mk d2 d3 d4 d5 d6) d7 d8,vars++co.as_,⟨st',nd',fo',lm',ov'⟩,N-1, .mk m1 m2 m3 m4 m5⟩ _ _ ⟨htr',fun x hx=>(aZn.1 hx).elim (hv x) (hca x),by simp only[aZ4];omega,by show N-1<=200;omega,hc',hWe⟩ (by show N-1<N;omega) ?_ ?_
    ·simp[hta];exact zK
    ·simp[lqG,hGs,Tr.cells,aH]
end Go.Proofs.YtcfcolkbeelegaaGreat
