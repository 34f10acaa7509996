import Derived.Test.YtcfcolkbeelegaaGreatJA0
import Derived.Test.YtcfcolkbeelegaaGreatJWF
import Derived.Test.YtcfcolkbeelegaaGreatJFZ
import Derived.Test.YtcfcolkbeelegaaGreatJRD
set_option maxRecDepth 8000
set_option maxHeartbeats 64000000
namespace Go.Proofs.YtcfcolkbeelegaaGreat
open Go Go.AI
theorem aB0 (env:List Dc)(hg:Env.good env)(hf:aP env)(hA:EnvA env)(n0:Nat)(hW:aSo env n0)(t:Tm)(ht:pQ t.levels)(args:List Tm)(haa:∀a∈args,a.at_)(hl:args.length<=100000)(c:Kt)(hc:K2 c)
  (hne:cT env (bJ env n0) t.name t.levels args c≠none) (q:Nat) (h:Heap) (hh:WF h) (hq:h[q]?=some (ktB c)):
  ACalls Tryz.prog 216 [bW env,t.av, .p (.sl 5 (aL args)), .ptr q 0] h (aG4 q h (cT env (bJ env n0) t.name t.levels args c)):=by
 by_cases hu:usB env t.name t.levels=true
 rotate_left
 ·have hu:usB env t.name t.levels=false:=by simpa using hu
  have e:cT env (bJ env n0) t.name t.levels args c=some (none,c):=by unfold cT;rw[if_pos hu]
  rw[e];exact sU env hg hf hA t args c (.inl hu) q h hh hq
 by_cases h1:(aK env t.name).1.k=1
 ·exact aB1 env hg hf hA t ht args hl c hu h1 q h hh hq (bJ env n0)
 by_cases h5:(aK env t.name).1.k=5
 ·exact aB3 env hg hf hA n0 hW t ht args haa hl c hc hu h5 hne q h hh hq
 by_cases h6:(aK env t.name).1.k=6
 ·exact aB2 env hg hf hA n0 hW t ht args haa hl c hc hu h6 hne q h hh hq
 have e:cT env (bJ env n0) t.name t.levels args c=some (none,c):=by unfold cT;rw[if_neg (by simp[hu]),if_neg h1,if_neg h5,if_neg h6]
 rw[e];exact sU env hg hf hA t args c (.inr ⟨h1,h5,h6⟩) q h hh hq
structure WqI where
 t:Tm
 c:Kt
 n:Nat
def wqG (q:Nat)(h:Heap)(p:WqI):Heap:=List.set h q (ktB p.c)++[some (.cells (p.t.cells.map .p)),some (.cells zTm)]
def wqP (env:List Dc)(n:Nat)(W:QO Tm)(p:WqI):Prop:=InQ p.t p.c/\K2 p.c/\p.n<=n/\bJ env p.n p.t p.c=W
theorem InQ.step {r:Tm} {c:Kt} {e:Int} {l:List Tm} (h0:K2 c)(hr:r.at_)(hla:∀a∈l,a.at_)(hl:l.length<=10000)(hlc:c.ov=false->(l.length:Int)<=4096+c.nd):InQ (aN r l) (c.result r e)/\K2 (c.result r e):=by
 have hr2:=hr.2;have hal:=eP r;obtain⟨k1,k2⟩:=h0.result r e aB;refine⟨⟨(Gin.of_at hr).app hla (by have:=fR hr;omega),by rw[cZ];omega,fun hx=>?_⟩,k1⟩;have:=hlc (k2 hx).1;rw[cZ,(k2 hx).2];omega
theorem aDe (env:List Dc)(hg:Env.good env)(hf:aP env)(hA:EnvA env)(n:Nat)(hWs:∀m,m<n->aSo env m):aSo env n:=by
 intro t c ht hc hne q h hh hq;have hlt:=(aYv.1 hq).1;have hss:=tO hq;obtain⟨W,hWe⟩:∃W,bJ env n t c=W:=⟨_,rfl⟩;rw[hWe] at hne⊢;obtain⟨tc,htc⟩:∃tc,tc=t.cells.map AV.p:=⟨_,rfl⟩;have htl:tc.length=5:=by rw[htc];simp
 refine y28 ?_;refine zER Tryz.func176 Tryz.ntmps176 ?_;subst htc;refine Run.loopS (ι:=WqI) [0,2,4,6] (wqP env n W) WqI.n (fun _=>[]) (wqG q h) ⟨t,c,n⟩ ⟨ht,hc,aYw _,hWe⟩ ?_ ?_ ?_
 ·exact zS
 ·simp[wqG,hss]
 clear ht hc hWe hq hss;rintro⟨t,c,m⟩ ⟨ht,hc,hmn,hWe⟩ IH;simp only at ht hc hmn hWe IH
 cases m with
 |zero=>exact absurd hWe.symm hne
 |succ m=>
 have hW:=hWs m aB;have hgo:=fun(t':Tm) (c':Kt) (ht':InQ t' c') (h0:K2 c')=>fZ hg hf hA m t' c' ht' h0
 simp;simp only[wqG];obtain⟨G,hG⟩:∃G,List.set h q (ktB c)=G:=⟨_,rfl⟩;have hGl:h.length=G.length:=by rw[<-hG];simp
 have hGw:WF G:=by rw[<-hG];exact hh.set aA
 have hh:=hGw;have hGq:G[q]?=some (ktB c):=by rw[<-hG];simp[hlt]
 have hGs:∀c',List.set G q (ktB c')=List.set h q (ktB c'):=fun c'=>by rw[<-hG];simp
 rw[hG];simp only[hGl] at IH⊢;obtain⟨k1,k2,k3,k4,k5,hGlt⟩:=idf hGq;obtain⟨hgi,hl3,hl4⟩:=ht;have c1:=fun g hw=>aCv g hw t hgi.len
 have hth:=hgi.head;have hta:=hgi.args;unfold jC at hl3 hl4;simp only[bJ,uZ] at hWe;obtain⟨⟨hd,args⟩,hsp⟩:∃r,aG t=r:=⟨_,rfl⟩;rw[hsp] at c1 hth hta hl3 hl4;simp only[hsp] at hWe;simp only at c1 hth hta hl3 hl4;obtain⟨k,i,nm,ls,ks⟩:=hd;obtain⟨tk,ti,tn,tl,tks⟩:=t;simp only[Tm.av,aH,List.map] at c1 hWe⊢;simp only[Tm.name,Tm.levels] at hWe
 by_cases ho:c.ov=true
 ·rw[if_pos ho] at hWe;subst hWe;obtain⟨st,nd,fo,lm,ov⟩:=c;try simp only at k1 hGq ho
  subst ho;refine pG k1 ?_;exact y3y
 rw[if_neg ho] at hWe;have ho:c.ov=false:=by simpa using ho
 have hl5:=hl4 ho;have hnd:=hc.2 ho
 have hsh:pA k ks.length:=by
  have:=hth.1;simp only[Tm.wf,rP] at this;exact this.1.2.2.2.2
 have k1':=k1;rw[show ktB c=some (.cells [iA c.st,iA c.nd,iA c.fo,iA c.lm,bA false]) by rw[<-ho]] at k1'
 have hrs:∀(r:Tm) (e:Int) (hr:r.at_) (l:List (Option AO)) (hw:WF (G++l)),ACalls Tryz.prog 215 [.ptr q 0,r.av,iA e] (G++l) fun o h'=>o= .ret r.av/\h'=G.set q (ktB (c.result r e))++l:=fun r e hr l hw=>by
  have:=eM c r e (by have:=hr.2;omega) q (G++l) hw (k1 l)
  rwa [k2] at this
 refine aSi k1' ?_;refine zL (c1 _ (hGw.app aA)) ?_;refine zor ?_
 by_cases k5':k=5
 ·subst k5';rw[if_pos (show(Tm.mk 5 i nm ls ks).kind=5 from rfl)] at hWe
  obtain⟨a,b,rfl⟩:∃a b,ks=[a,b]:=by
   have:=hsh.1 rfl
   match ks,this with
   |[a,b],_=>exact⟨a,b,rfl⟩
  have hb:b.at_:=dY hth 1;refine aI3 ?_
  cases args with
  |nil=>
   rw[if_pos rfl] at hWe;subst hWe;refine rI ?_;exact y3y
  |cons x xs=>
  rw[if_neg aA] at hWe;have hx:=hta x aA;have hxs:∀a∈xs,a.at_:=fun a ha=>hta a (by simp[ha])
  have hxl:(xs.length:Int)+1<=4096+c.nd:=by simpa using hl5
  have c2:=fun g hw=>qF b [x] hb (by simpa using hx) aA g hw
  have hat:=uJ (t:=b) (vs:=[x]) hb.1 (fun v hv=>by simp at hv;subst hv;exact hx.1);simp only[Tm.kid,Tm.kids,aZr,aZt,aZb,aZu,bBc,bB4,List.drop_zero] at hWe;generalize aI b [x] 0=ru at hWe c2 hat;obtain⟨y,e⟩:=ru;simp only at hWe c2 hat;have c3:=hrs y e hat;have c4:=fun g hw=>cR g hw y xs aB
  obtain⟨hin,hk2⟩:=InQ.step (r:=y) (e:=e) hc hat hxs aB (fun _=>by omega);generalize c.result y e=cr at hWe c3 hin hk2;generalize aN y xs=z at hWe c4 hin;obtain⟨a0,a1,a2,a3,a4⟩:=a;obtain⟨b0,b1,b2,b3,b4⟩:=b;obtain⟨x0,x1,x2,x3,x4⟩:=x;obtain⟨y0,y1,y2,y3,y4⟩:=y;obtain⟨z0,z1,z2,z3,z4⟩:=z;simp only[Tm.av,aH,List.map,aL] at c2 c3 c4;have hxn:¬(xs.length:Int)+1=0:=aB;have hxt:(aL xs).take xs.length=aL xs:=aZ6 aA;have hx1:1<=(xs.length:Int)+1:=aB;refine aFv hxn ?_;refine y16 ?_;refine aYg hx1 ?_;refine ND.DR.pcall rfl rfl rfl aA rfl rfl (fun g hg=>(c2) g ?_) ?_
  ·exact y2v
  refine zm ?_;refine y9 ?_;refine nv ?_;refine ND.Run.drawP (pc:=[]) [0,0,0,0,0,0,1,2] [0,0,0,0,0,0,1,2] [0,0,0,7,0,16,63,127] [0,1,2,3,4,5,6,7] aC aC ?_;refine zm ?_;refine ND.DR.call rfl rfl rfl aA rfl rfl (c3 _ (hGw.app aA)) ?_;refine zm2 hxt hx1 ?_;refine ND.DR.call rfl rfl rfl aA rfl rfl (c4 _ ((hGw.set aA).app aA)) ?_;refine zm ?_;refine y9 ?_;refine nv ?_;exact y48
 have m5:(k==(5:Int))=false:=by simpa using k5'
 rw[if_neg (show¬(Tm.mk k i nm ls ks).kind=5 from k5')] at hWe;refine nR m5 ?_
 by_cases k11:k=11
 ·subst k11;rw[if_pos (show(Tm.mk 11 i nm ls ks).kind=11 from rfl)] at hWe
  obtain⟨a,b,d,rfl⟩:∃a b c,ks=[a,b,c]:=by
   have:=hsh.2.1 rfl
   match ks,this with
   |[a,b,c],_=>exact⟨a,b,c,rfl⟩
  have hb:b.at_:=dY hth 1;have hd:d.at_:=dY hth 2;have c2:=fun g hw=>qF d [b] hd (by simpa using hb) aA g hw
  have hat:=uJ (t:=d) (vs:=[b]) hd.1 (fun v hv=>by simp at hv;subst hv;exact hb.1);simp only[Tm.kid,Tm.kids,aZr,aZt,aZb] at hWe;generalize aI d [b] 0=ru at hWe c2 hat;obtain⟨y,e⟩:=ru;simp only at hWe c2 hat;have c3:=hrs y e hat;have c4:=fun g hw=>cR g hw y args aB
  obtain⟨hin,hk2⟩:=InQ.step (r:=y) (e:=e) hc hat hta aB (fun _=>by omega);generalize c.result y e=cr at hWe c3 hin hk2;generalize aN y args=z at hWe c4 hin;obtain⟨a0,a1,a2,a3,a4⟩:=a;obtain⟨b0,b1,b2,b3,b4⟩:=b;obtain⟨x0,x1,x2,x3,x4⟩:=d;obtain⟨y0,y1,y2,y3,y4⟩:=y;obtain⟨z0,z1,z2,z3,z4⟩:=z;simp only[Tm.av,aH,List.map,aL] at c2 c3 c4;refine aI3 ?_;refine ND.Run.drawP (pc:=[7]) [0,0,0,0,0,0,0,0,0,0,0,0,1,2] [0,0,0,0,0,0,0,0,0,0,0,0,1,0] [0,1,3,7,0,16,48,127,255,511,511,0,3071,8191] [11,0,1,2,3,4,5,6,7,8,9,12,10,13] aC aC ?_;refine aRc ?_;refine ND.DR.pcall rfl rfl rfl aA rfl rfl (fun g hg=>(c2) g ?_) ?_
  ·exact y2v
  refine zm ?_;refine y9 ?_;refine znr ?_;refine zL (c3 _ (hGw.app aA)) ?_;refine zo ?_;refine zL (c4 _ ((hGw.set aA).app aA)) ?_;refine zo ?_;exact y48
 have m11:(k==(11:Int))=false:=by simpa using k11
 rw[if_neg (show¬(Tm.mk k i nm ls ks).kind=11 from k11)] at hWe;refine nR m11 ?_
 by_cases k9:k=9\/k=10
 ·rw[if_pos (show(Tm.mk k i nm ls ks).kind=9\/(Tm.mk k i nm ls ks).kind=10 from k9)] at hWe
  obtain⟨a,rfl⟩:∃a,ks=[a]:=by
   have:ks.length=1:=by rcases k9 with h|h;exact hsh.2.2.1 h;exact hsh.2.2.2.1 h
   match ks,this with
   |[a],_=>exact⟨a,rfl⟩
  have ha:a.at_:=dY hth 0;have hgw:=hgo a c (InQ.of_at ha hc) hc;have c2:=fun(l:List (Option AO)) (hw:WF (G++l)) (hn:bJ env m a c≠none)=>hW a c (InQ.of_at ha hc) hc hn q (G++l) hw (k1 l)
  rw[show(Tm.mk k i nm ls [a]).kid 0=a from rfl] at hWe;obtain⟨a0,a1,a2,a3,a4⟩:=a;rcases k9 with rfl|rfl
  ·generalize bJ env m (.mk a0 a1 a2 a3 a4) c=w at hWe c2 hgw;simp only[Tm.av,aH,List.map] at c2
   cases w with
   |none=>exact absurd hWe.symm hne
   |some p=>
   obtain⟨p,c'⟩:=p;simp only[QO.bind] at hWe;obtain⟨hc',hmo,hp⟩:=hgw;have c2:=fun l hw=>WQPost.some hGlt (c2 l hw (by intro e;cases e))
   have hG2:WF (List.set G q (ktB c')):=hGw.set aA;obtain⟨p0,p1,p2,p3,p4⟩:=p;simp only[Tm.av,aH,List.map] at c2;refine vM ?_;refine zL (c2 _ (hGw.app aA)) ?_;refine zor ?_
   by_cases k8:p0=8
   rotate_left
   ·rw[if_pos (show(Tm.mk p0 p1 p2 p3 p4).kind≠8 from k8)] at hWe;subst hWe;have k8':(p0 !=(8:Int))=true:=by simpa using k8
    have c3:∀(g:Heap) (hw:WF g),ACalls Tryz.prog 214 [.agg [iA 9,iA 0, .p (sP []), .p (.prim (.slice none 0 0)), .p (.sl 5 [[iP p0,iP p1,sP p2, .sl 2 (aW p3), .sl 5 (aL p4)]])], .p (.sl 5 (aL args))] g fun o h'=>o= .ret (aN (.mk 9 0 [] [] [.mk p0 p1 p2 p3 p4]) args).av/\h'=g:=fun g hw=>
     ACalls.weak (args':=[(Tm.mk 9 0 [] [] [.mk p0 p1 p2 p3 p4]).av, .p (.sl 5 (aL args))]) (WeakL.cons (by simp only[Tm.av,aH,List.map,aL,aW];exact Weak.agg (WeakL.cons (Weak.refl _) (WeakL.cons (Weak.refl _) (WeakL.cons (Weak.refl _) (WeakL.cons (Weak.nil _) (WeakL.refl _)))))) (WeakL.refl _)) (cR g hw _ args aB)
    obtain⟨⟨z0,z1,z2,z3,z4⟩,hz⟩:∃z,aN (.mk 9 0 [] [] [.mk p0 p1 p2 p3 p4]) args=z:=⟨_,rfl⟩;exact y55
   subst k8;rw[if_neg (show¬(Tm.mk 8 p1 p2 p3 p4).kind≠8 from fun h=>h rfl)] at hWe
   have hpa:(Tm.mk 8 p1 p2 p3 p4).at_:=by
    have:=hp.1.head;exact y58
   obtain⟨w0,w1,w2,rfl⟩:∃a b c,p4=[a,b,c]:=by
    have:=hpa.1;simp only[Tm.wf,rP,pA] at this;have:=this.1.2.2.2.2.2.2.2.2 trivial
    match p4,this with
    |[a,b,c],_=>exact⟨a,b,c,rfl⟩
   have hka:w1.at_:=dY hpa 1;rw[show(Tm.mk 8 p1 p2 p3 [w0,w1,w2]).kid ((Tm.mk 9 i nm ls [.mk a0 a1 a2 a3 a4]).kind-8).toNat=w1 from rfl] at hWe;have hq2:(List.set G q (ktB c'))[q]?=some (ktB c'):=k3 _
   have c4:∀(l:List (Option AO)) (hw:WF (List.set G q (ktB c')++l)),ACalls Tryz.prog 215 [.ptr q 0,w1.av,iA 0] (List.set G q (ktB c')++l) fun o h'=>o= .ret w1.av/\h'=List.set G q (ktB (c'.result w1 0))++l:=fun l hw=>by
    have:=eM c' w1 0 (by have:=hka.2;omega) q (List.set G q (ktB c')++l) hw (k4 l _)
    rwa [k5] at this
   have c5:=fun g hw=>cR g hw w1 args aB
   obtain⟨hin,hk2⟩:=InQ.step (r:=w1) (e:=0) hc' hka hta aB (fun hx=>by have:=(hmo hx).2;omega);generalize c'.result w1 0=cr at hWe c4 hin hk2;generalize aN w1 args=z at hWe c5 hin;obtain⟨v0,v1,v2,v3,v4⟩:=w1;obtain⟨z0,z1,z2,z3,z4⟩:=z;simp only[Tm.av,aH,List.map] at c4 c5;refine znf ?_;refine aRf ?_;refine zL (c4 _ (hG2.app aA)) ?_;refine zo ?_;refine zL (c5 _ ((hGw.set aA).app aA)) ?_;refine zo ?_;exact y48
  ·generalize bJ env m (.mk a0 a1 a2 a3 a4) c=w at hWe c2 hgw;simp only[Tm.av,aH,List.map] at c2
   cases w with
   |none=>exact absurd hWe.symm hne
   |some p=>
   obtain⟨p,c'⟩:=p;simp only[QO.bind] at hWe;obtain⟨hc',hmo,hp⟩:=hgw;have c2:=fun l hw=>WQPost.some hGlt (c2 l hw (by intro e;cases e))
   have hG2:WF (List.set G q (ktB c')):=hGw.set aA;obtain⟨p0,p1,p2,p3,p4⟩:=p;simp only[Tm.av,aH,List.map] at c2;refine qK ?_;refine zL (c2 _ (hGw.app aA)) ?_;refine zor ?_
   by_cases k8:p0=8
   rotate_left
   ·rw[if_pos (show(Tm.mk p0 p1 p2 p3 p4).kind≠8 from k8)] at hWe;subst hWe;have k8':(p0 !=(8:Int))=true:=by simpa using k8
    have c3:∀(g:Heap) (hw:WF g),ACalls Tryz.prog 214 [.agg [iA 10,iA 0, .p (sP []), .p (.prim (.slice none 0 0)), .p (.sl 5 [[iP p0,iP p1,sP p2, .sl 2 (aW p3), .sl 5 (aL p4)]])], .p (.sl 5 (aL args))] g fun o h'=>o= .ret (aN (.mk 10 0 [] [] [.mk p0 p1 p2 p3 p4]) args).av/\h'=g:=fun g hw=>
     ACalls.weak (args':=[(Tm.mk 10 0 [] [] [.mk p0 p1 p2 p3 p4]).av, .p (.sl 5 (aL args))]) (WeakL.cons (by simp only[Tm.av,aH,List.map,aL,aW];exact Weak.agg (WeakL.cons (Weak.refl _) (WeakL.cons (Weak.refl _) (WeakL.cons (Weak.refl _) (WeakL.cons (Weak.nil _) (WeakL.refl _)))))) (WeakL.refl _)) (cR g hw _ args aB)
    obtain⟨⟨z0,z1,z2,z3,z4⟩,hz⟩:∃z,aN (.mk 10 0 [] [] [.mk p0 p1 p2 p3 p4]) args=z:=⟨_,rfl⟩;exact y55
   subst k8;rw[if_neg (show¬(Tm.mk 8 p1 p2 p3 p4).kind≠8 from fun h=>h rfl)] at hWe
   have hpa:(Tm.mk 8 p1 p2 p3 p4).at_:=by
    have:=hp.1.head;exact y58
   obtain⟨w0,w1,w2,rfl⟩:∃a b c,p4=[a,b,c]:=by
    have:=hpa.1;simp only[Tm.wf,rP,pA] at this;have:=this.1.2.2.2.2.2.2.2.2 trivial
    match p4,this with
    |[a,b,c],_=>exact⟨a,b,c,rfl⟩
   have hka:w2.at_:=dY hpa 2;rw[show(Tm.mk 8 p1 p2 p3 [w0,w1,w2]).kid ((Tm.mk 10 i nm ls [.mk a0 a1 a2 a3 a4]).kind-8).toNat=w2 from rfl] at hWe;have hq2:(List.set G q (ktB c'))[q]?=some (ktB c'):=k3 _
   have c4:∀(l:List (Option AO)) (hw:WF (List.set G q (ktB c')++l)),ACalls Tryz.prog 215 [.ptr q 0,w2.av,iA 0] (List.set G q (ktB c')++l) fun o h'=>o= .ret w2.av/\h'=List.set G q (ktB (c'.result w2 0))++l:=fun l hw=>by
    have:=eM c' w2 0 (by have:=hka.2;omega) q (List.set G q (ktB c')++l) hw (k4 l _)
    rwa [k5] at this
   have c5:=fun g hw=>cR g hw w2 args aB
   obtain⟨hin,hk2⟩:=InQ.step (r:=w2) (e:=0) hc' hka hta aB (fun hx=>by have:=(hmo hx).2;omega);generalize c'.result w2 0=cr at hWe c4 hin hk2;generalize aN w2 args=z at hWe c5 hin;obtain⟨v0,v1,v2,v3,v4⟩:=w2;obtain⟨z0,z1,z2,z3,z4⟩:=z;simp only[Tm.av,aH,List.map] at c4 c5;refine znf ?_;refine aRf ?_;refine zL (c4 _ (hG2.app aA)) ?_;refine zo ?_;refine zL (c5 _ ((hGw.set aA).app aA)) ?_;refine zo ?_;exact y48
 have k9':(k==(9:Int))=false:=by simp;omega
 have k10':(k==(10:Int))=false:=by simp;omega
 rw[if_neg (show¬((Tm.mk k i nm ls ks).kind=9\/(Tm.mk k i nm ls ks).kind=10) from k9)] at hWe;have n9:¬k=9:=aB;have n10:¬k=10:=aB;refine nR k9' ?_;refine zr1 k10' ?_;refine zf ?_
 by_cases k3':k=3
 ·subst k3';rw[if_pos (show(Tm.mk 3 i nm ls ks).kind=3 from rfl)] at hWe;have hcg:=mZ hg hf hA _ hgo nm ls args hta c hc ho aB;have c2:=fun(l:List (Option AO)) (hw:WF (G++l)) (hn:cT env (bJ env m) nm ls args c≠none)=>aB0 env hg hf hA m hW (.mk 3 i nm ls ks) (aRn hth) args hta aB c hc hn q (G++l) hw (k1 l)
  simp only[Tm.name,Tm.levels] at c2;generalize cT env (bJ env m) nm ls args c=w at hWe c2 hcg;simp only[Tm.av,aH,List.map] at c2;refine aI3 ?_
  cases w with
  |none=>exact absurd hWe.symm hne
  |some p=>
   obtain⟨o,c'⟩:=p;simp only[QO.bind] at hWe;obtain⟨hc',_,hoo⟩:=hcg;have c2:=fun l hw=>(c2 l hw (by intro e;cases e)).mono (R':=fun o' g=>o'= .ret (kZ o)/\g=List.set G q (ktB c')++l) (fun o' g e=>⟨e.1,by rw[e.2,aZp _ _ hGlt]⟩)
   have hG2:WF (List.set G q (ktB c')):=hGw.set aA
   cases o with
   |none=>
    simp only at hWe;subst hWe;simp only[kZ,bBu,Option.isSome_none,Tm.av,zT,aH,List.map] at c2;refine znr ?_;refine zL (c2 _ (hGw.app aA)) ?_;refine pH ?_;refine zF6 hG2 ?_;exact⟨by simp[Tm.av,aH],hGs c'⟩
   |some z=>
    simp only at hWe;have hin:=hoo z rfl;obtain⟨z0,z1,z2,z3,z4⟩:=z;simp only[kZ,aZb,Option.isSome_some,Tm.av,aH,List.map] at c2;refine znr ?_;refine zL (c2 _ (hGw.app aA)) ?_;refine aOi ?_;refine Run.keep [0,2,4,6] ?_;simp;refine Run.cutAt (h0:=List.set G q (ktB c')) 2 hG2 rfl aA aA (by simp<;>omega) aA (by simp[iL]) ?_;refine IH ⟨.mk z0 z1 z2 z3 z4,c',m⟩ _ _ ⟨hin,hc',by simp only;omega,hWe⟩ (by simp only;omega) ?_ ?_
    ·exact zS
    ·simp[wqG,hGs]
 rw[if_neg (show¬(Tm.mk k i nm ls ks).kind=3 from k3')] at hWe;subst hWe;have m3:(k==(3:Int))=false:=by simpa using k3'
 refine aFs m3 ?_;exact y3y
theorem aFp (env:List Dc)(hg:Env.good env)(hf:aP env)(hA:EnvA env)(n:Nat):aSo env n:=by
 induction n using Nat.strongRecOn with
 |_ n ih=>exact aDe env hg hf hA n ih
open Go Go.AI
set_option linter.unusedSectionVars false
theorem aDg (env:List Dc)(t:Tm)(c:Kt)(h:K1 c):∃r:Tm×Kt,∃n,bJ env n t c=some r:=by
 obtain⟨n0,r,h2⟩:=aK1 env c.mu c rfl h t;exact⟨r,n0,h2 n0 (aYw _)⟩
open Classical in
noncomputable def wQ (env:List Dc)(t:Tm)(c:Kt):Tm×Kt:=if h:K1 c then Classical.choose (aDg env t c h) else(t,c)
theorem aUk (env:List Dc)(t:Tm)(c:Kt)(h:K1 c):∃n,bJ env n t c=some (wQ env t c):=by
 unfold wQ;rw[dif_pos h];exact Classical.choose_spec (aDg env t c h)
section
variable {env:List Dc} (hg:Env.good env) (hf:aP env)
include hg hf
theorem aWh {t:Tm} {c:Kt} (ht:InQ t c)(hc:K2 c)(q:Nat)(h:Heap)(hh:WF h)(hq:h[q]?=some (ktB c)):ACalls Tryz.prog 176 [bW env,t.av, .ptr q 0] h fun o h'=>o= .ret (wQ env t c).1.av/\h'=h.set q (ktB (wQ env t c).2):=by
 obtain⟨n,e⟩:=aUk env t c hc.1;have:=aFp env hg hf (kS hg hf) n t c ht hc (by rw[e];intro h;cases h) q h hh hq;rw[e] at this;exact this
theorem aA3 {t:Tm} {c:Kt} (ht:InQ t c)(hc:K2 c):K2 (wQ env t c).2/\aOw (wQ env t c).1:=by
 obtain⟨n,e⟩:=aUk env t c hc.1;have:=fZ hg hf (kS hg hf) n t c ht hc;rw[e] at this;exact⟨this.1,this.2.2⟩
end
structure MS where
 vals:List Tm
 fl:Bool
 sk:Bool
mutual
noncomputable def rmP (env:List Dc):Pt->Tm->MS->Kt->MS×Kt
 | .mk k n qs,t,s,c=>if k=0 then(⟨s.vals++[t],s.fl,s.sk⟩,c) else if k=3 then(⟨s.vals,true,s.sk⟩,c) else if k=1 then
   (if(wQ env t c).2.ov=true then(⟨s.vals,s.fl,true⟩,(wQ env t c).2) else match hU env (wQ env t c).1 with
    |none=>(⟨s.vals,s.fl,true⟩,(wQ env t c).2)
    |some co=>if((co.d.cs[co.i]?).map Ct.nm).getD []≠n\/co.as_.length≠qs.length then(⟨s.vals,true,s.sk⟩,(wQ env t c).2) else kO env qs co.as_ s (wQ env t c).2)
  else(s,c)
noncomputable def kO (env:List Dc):List Pt->List Tm->MS->Kt->MS×Kt
 |[],_,s,c=>(s,c)
 |_::_,[],s,c=>(s,c)
 |p::ps,t::ts,s,c=>if s.fl=true\/s.sk=true then(s,c) else kO env ps ts (rmP env p t s c).1 (rmP env p t s c).2
end
structure MOk (env:List Dc) (n0 q M:Nat) (s:MS) (c:Kt) (H:Heap):Prop where
 wf:WF H
 hq:H[q]?=some (ktB c)
 lt:q<n0
 le:n0<=M
 ex:∃vA,H[M]?=some (some (.cells [bW env, .ptr q 0,vA,bA s.fl,bA s.sk]))/\((s.vals=[]/\vA= .p (.prim (.slice none 0 0)))\/∃id cap,vA= .sm id 0 s.vals.length cap 5/\H[id]?=some (some (.cells (buf 5 (aL s.vals) (cap-s.vals.length))))/\s.vals.length<=cap/\id≠M/\n0<=id)
def Fm (n0 q:Nat)(H H':Heap):Prop:=H.length<=H'.length/\∀i,i<n0->i≠q->H'[i]?=H[i]?
theorem Fm.trans {n0 q:Nat} {A B C:Heap} (h1:Fm n0 q A B)(h2:Fm n0 q B C):Fm n0 q A C:=⟨bAr h1.1 h2.1,fun i a b=>(h2.2 i a b).trans (h1.2 i a b)⟩
theorem Fm.set_app {n0 q M:Nat} {H:Heap} (h1:n0<=M\/M=q)(h2:n0<=H.length)(o:Option AO)(l:List (Option AO)):Fm n0 q H (H.set M o++l):=by
 refine⟨by simp,fun i a b=>?_⟩;rw[aZ8 (by simp;omega),aZk aB]
theorem Fm.set {n0 q M:Nat} {H:Heap} (h1:n0<=M\/M=q)(h2:n0<=H.length)(o:Option AO):Fm n0 q H (H.set M o):=by
 have:=Fm.set_app h1 h2 o []
 rwa [aZ0] at this
theorem Fm.app {n0 q:Nat} {H:Heap} (h2:n0<=H.length)(l:List (Option AO)):Fm n0 q H (H++l):=by
 refine⟨by simp,fun i a b=>?_⟩;rw[aZ8 aB]
theorem aR6 (l:List Tm)(t:Tm)(m:Nat):patch (buf 5 (aL l++[z5]) m) (l.length*5) (t.cells.map .p)=buf 5 (aL (l++[t])) m:=by
 have h:=Go.AI.buf_set (sz:=5) (es:=aL l++[z5]) (m:=m) (k:=l.length) (e:=t.cells) (by
  intro e he;rcases aZn.1 he with he|he
  ·exact eJ l e he
  ·simp at he;subst he;rfl) aA (aD3 t)
 rw[h]
 congr 1
 rw[bAe _ _ aA];simp[eX]
def aKf (env:List Dc)(n0 q M:Nat)(H:Heap)(r:MS×Kt)(o:AOut)(H':Heap):Prop:=o= .ret (.tup [])/\MOk env n0 q M r.1 r.2 H'/\Fm n0 q H H'
theorem aNa (env:List Dc)(n:List UInt8)(qs:List Pt)(t:Tm)(s:MS)(hvl:s.vals.length<=4000000)(c:Kt)(n0 q M:Nat)(H:Heap)(hM:MOk env n0 q M s c H)(hn0:n0<=H.length):
  ACalls Tryz.prog 126 [.ptr M 0,(Pt.mk 0 n qs).av,t.av] H (aKf env n0 q M H (⟨s.vals++[t],s.fl,s.sk⟩,c)):=by
 obtain⟨hh,hq,hqn,hnM,vA,hMB,hv⟩:=hM;obtain⟨vals,fl,sk⟩:=s;simp only at hMB hv hvl⊢;obtain⟨gM1,gM2,gM3,gM4,gM5,hMl⟩:=idf hMB;have hql:=(aYv.1 hq).1;have hb1:(vals.length+1)*80<=140737488355328:=aB;have hb2:vals.length+1<=9223372036854775807:=aB;have hput:=aR6 vals t;obtain⟨t0,t1,t2,t3,t4⟩:=t;simp only[aH,List.map] at hput;refine y24 ?_;rcases hv with ⟨rfl,rfl⟩|⟨id,cap,rfl,hid,hcap,hidM,hid0⟩
 ·simp only[aL,aZ3,aZ2,Nat.zero_mul,aH] at hput;have hbl:∀m,5<=(buf 5 [z5] m).length:=fun m=>by rw[kQ aA];simp;omega
  have hp0:=hput;simp at hp0;refine zE Tryz.func126 Tryz.ntmps126 ?_;refine aSj ?_;refine ND.Run.draw2 (pc:=[]) 9 12 [0,0,0,0,0,0,0,0,1,1,1,1,2] [0,0,0,0,0,0,0,0,0,1,0,0,2] [0,1,3,7,0,15,0,127,255,511,255,1279,4095] [0,1,2,3,4,5,6,7,8,9,10,11,12] [0,0,0,0,0,0,0,0,1,2,1,1,1] [0,0,0,0,0,0,0,0,0,2,0,0,1] [0,1,3,7,0,15,0,127,255,7679,255,1279,3327] [0,4,6,1,2,3,5,7,10,11,12,8,9] aC aC aC aC ?_ ?_
  all_goals
   refine ND.DR.goA 7 fun K J=>?_
   refine yd ?_;simp[gM1];refine J _ _ _ _ ?_;clear J;refine ya ?_;refine ND.DR.appendN (ys:=[z5]) (sz:=5) (by_:=80) (e:=25) rfl rfl aA rfl rfl rfl rfl rfl aA aA aA aA aA aA ?_;intro c' hc';simp only[aZ1,aZ2] at hc'⊢;refine zm3 gM1 gM2 hbl ?_;refine y9 ?_;refine nv ?_;simp only[hp0];refine Run.nil ?_
   have hw:WF (List.set H M (some (AO.cells [bW env, .ptr q 0, .sm (H.length+2) 0 1 c' 5,bA fl,bA sk]))++[some (.cells [.p (iP 0), .p (sP n), .p (.sl 3 (cC qs))]),some (.cells [.p (iP t0), .p (iP t1), .p (sP t2), .p (.sl 2 (aW t3)), .p (.sl 5 (aL t4))]),some (.cells (buf 5 [[iP t0,iP t1,sP t2, .sl 2 (aW t3), .sl 5 (aL t4)]] (c'-1)))]):=by
    rw[<-gM2];exact(hh.app (by simp[bT])).set (by simp;omega)
   refine Fin.retM (l:=[]) aA aA hw (aZ0 _).symm rfl rfl (Weak.refl _) rfl ⟨rfl,⟨hw,?_,hqn,hnM,?_⟩,Fm.set_app (.inl hnM) hn0 _ _⟩
   ·exact y8x
   ·exact⟨_,gM4 _ _, .inr ⟨H.length+2,c',rfl,by simp[aL,aH],hc',by omega,by omega⟩⟩
 ·have hid1:=idf hid;obtain⟨gI1,gI2,gI3,gI4,gI5,hIl⟩:=hid1;have hes:∀e∈aL vals,e.length=5:=eJ _;have hle:(aL vals).length=vals.length:=aA
  have hbl:∀m,vals.length*5+5<=(buf 5 (aL vals++[z5]) m).length:=fun m=>by
   rw[kQ (by
    intro e he;rcases aZn.1 he with he|he
    ·exact eJ vals e he
    ·simp at he;subst he;rfl)]
   simp;omega
  have hp0:=hput;simp[patch] at hp0;have hMI:M≠id:=fun e=>hidM e.symm
  have hix:(vals.length:Int)<(vals.length:Int)+1:=aB
  have f1:∀(o:Option AO) l,(List.set H id o++l)[M]?=some (some (.cells [bW env, .ptr q 0, .sm id 0 vals.length cap 5,bA fl,bA sk])):=fun o l=>by
   rw[aZ8 (by simpa using hMl),aZk aB];exact hMB
  have f2:∀(o o2:Option AO) l,(List.set H id o++l).set M o2=(List.set H id o).set M o2++l:=fun o o2 l=>aZp _ _ (by simpa using hMl)
  have f3:∀(o o2:Option AO) l,((List.set H id o).set M o2++l)[id]?=some o:=fun o o2 l=>by
   rw[aZ8 (by simpa using hIl),aZk aB];exact gI3 o
  have f4:∀(o o2 o3:Option AO) l,((List.set H id o).set M o2++l).set id o3=(List.set H id o3).set M o2++l:=fun o o2 o3 l=>by
   rw[aZp _ _ (by simpa using hIl),List.set_comm _ _ aB,List.set_set]
  have hcells:(aL vals++[[iP t0,iP t1,sP t2, .sl 2 (aW t3), .sl 5 (aL t4)]])=aL (vals++[Tm.mk t0 t1 t2 t3 t4]):=by simp[eX,aH]
  refine zE Tryz.func126 Tryz.ntmps126 ?_;refine aSj ?_;refine ND.Run.draw2 (pc:=[]) 9 12 [0,0,0,0,0,0,0,0,1,1,1,1,2] [0,0,0,0,0,0,0,0,0,1,0,0,2] [0,1,3,7,0,15,0,127,255,511,255,1279,4095] [0,1,2,3,4,5,6,7,8,9,10,11,12] [0,0,0,0,0,0,0,0,1,2,1,1,1] [0,0,0,0,0,0,0,0,0,2,0,0,1] [0,1,3,7,0,15,0,127,255,7679,255,1279,3327] [0,4,6,1,2,3,5,7,10,11,12,8,9] aC aC aC aC ?_ ?_
  all_goals
   refine ND.DR.goA 7 fun K J=>?_
   refine yd ?_;simp[gM1];refine J _ _ _ _ ?_;clear J;refine ya ?_;refine ND.DR.appendS (id:=id) (es:=aL vals) (ys:=[z5]) (cap:=cap) (sz:=5) (by_:=80) (e:=25) rfl rfl aA rfl rfl rfl rfl rfl aA (by simp only[Heap.at];rw[gI1];simp) hes (by simpa using hcap) aA aA aA (by simp;omega) (by simp;omega) ?_ ?_
   ·intro hroom;simp only[aZ1,aZ2,hle] at hroom⊢;rw[gI2];refine zm8 gI4 gI5 f1 f2 f3 f4 hbl hix ?_;refine y9 ?_;refine nv ?_;simp only[hp0];refine Run.nil ?_
    have hw:WF ((List.set H id (some (.cells (buf 5 (aL (vals++[Tm.mk t0 t1 t2 t3 t4])) (cap-(vals.length+1)))))).set M (some (.cells [bW env, .ptr q 0, .sm id 0 (vals.length+1) cap 5,bA fl,bA sk]))):=
     (hh.set (by simp[bT])).set (by simp;omega)
    refine Fin.retM (h0:=(List.set H id (some (.cells (buf 5 (aL (vals++[Tm.mk t0 t1 t2 t3 t4])) (cap-(vals.length+1)))))).set M (some (.cells [bW env, .ptr q 0, .sm id 0 (vals.length+1) cap 5,bA fl,bA sk]))) aA aA hw rfl rfl rfl (Weak.refl _) rfl ⟨rfl,⟨hw,?_,hqn,hnM,?_⟩,(Fm.set (.inl hid0) hn0 _).trans (Fm.set (.inl hnM) (by simpa using hn0) _)⟩
    ·rw[aZk aB,aZk aB];exact hq
    ·refine⟨_,by rw[List.getElem?_set_self (by simpa using hMl)], .inr ⟨id,cap,by simp,?_,by simp only[aZ4,bAx];omega,hidM,hid0⟩⟩;rw[aZk aB,gI3];simp
   ·intro c' hc';simp only[aZ1,aZ2,hle] at hc'⊢;refine zm4 gM1 gM2 hbl hix ?_;refine y9 ?_;refine nv ?_;simp only[hp0];refine Run.nil ?_
    have hw:WF (List.set H M (some (.cells [bW env, .ptr q 0, .sm (H.length+2) 0 (vals.length+1) c' 5,bA fl,bA sk]))++[some (.cells [.p (iP 0), .p (sP n), .p (.sl 3 (cC qs))]),some (.cells [.p (iP t0), .p (iP t1), .p (sP t2), .p (.sl 2 (aW t3)), .p (.sl 5 (aL t4))]),some (.cells (buf 5 (aL (vals++[Tm.mk t0 t1 t2 t3 t4])) (c'-(vals.length+1))))]):=by
     rw[<-gM2];exact(hh.app (by simp[bT])).set (by simp;omega)
    refine Fin.retM (l:=[]) aA aA hw (aZ0 _).symm rfl rfl (Weak.refl _) rfl ⟨rfl,⟨hw,?_,hqn,hnM,?_⟩,Fm.set_app (.inl hnM) hn0 _ _⟩
    ·exact y8x
    ·exact⟨_,gM4 _ _, .inr ⟨H.length+2,c',by simp,by simp,by simpa using hc',by omega,by omega⟩⟩
end Go.Proofs.YtcfcolkbeelegaaGreat
