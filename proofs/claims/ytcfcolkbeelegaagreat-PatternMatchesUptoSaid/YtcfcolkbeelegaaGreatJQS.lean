import Derived.Test.YtcfcolkbeelegaaGreatJA0
import Derived.Test.YtcfcolkbeelegaaGreatJRO
import Derived.Test.YtcfcolkbeelegaaGreatJT11
import Derived.Test.YtcfcolkbeelegaaGreatJFZ
import Derived.Test.YtcfcolkbeelegaaGreatJRD
import Derived.Test.YtcfcolkbeelegaaGreatJFLP
import Derived.Test.YtcfcolkbeelegaaGreatJT8
import Derived.Test.YtcfcolkbeelegaaGreatJX14
import Derived.Test.YtcfcolkbeelegaaGreatJX13
import Derived.Test.YtcfcolkbeelegaaGreatJFR
import Derived.Test.YtcfcolkbeelegaaGreatJPC
import Derived.Test.YtcfcolkbeelegaaGreatJX23
set_option maxRecDepth 8000
set_option maxHeartbeats 64000000
namespace Go.Proofs.YtcfcolkbeelegaaGreat
open Go Go.AI
structure WhI where
 t:Tm
 s:Int
 n:Nat
def whG (env:List Dc)(q:Nat)(h:Heap)(p:WhI):Heap:=List.set h q (dU env p.s)++[some (.cells (p.t.cells.map .p)),some (.cells zTm)]
def whP (env:List Dc)(n:Nat)(W:WO Tm)(p:WhI):Prop:=Gin p.t/\0<=p.s/\p.s<=20000/\p.n<=n/\bM env p.n p.t p.s=W
theorem aDf (env:List Dc)(hg:Env.good env)(hf:aP env)(hA:EnvA env)(n:Nat)(hWs:∀m,m<n->aSp env m):aSp env n:=by
 intro t s ht hs0 hs1 hne q h hh hq;obtain⟨g1,g2,g3,g4,g5,hlt⟩:=idf hq;obtain⟨W,hWe⟩:∃W,bM env n t s=W:=⟨_,rfl⟩;rw[hWe] at hne⊢;obtain⟨tc,htc⟩:∃tc,tc=t.cells.map AV.p:=⟨_,rfl⟩;have htl:tc.length=5:=by rw[htc];simp
 refine y28 ?_;refine zER Tryz.func211 Tryz.ntmps211 ?_;subst htc;refine Run.loopS (ι:=WhI) [0,3,4] (whP env n W) WhI.n (fun _=>[]) (whG env q h) ⟨t,s,n⟩ ⟨ht,hs0,hs1,aYw _,hWe⟩ ?_ ?_ ?_
 ·exact zS
 ·simp[whG,dO hq]
 clear ht hs0 hs1 hWe hq;rintro⟨t,s,m⟩ ⟨ht,hs0,hs1,hmn,hWe⟩ IH;simp only at ht hs0 hs1 hmn hWe IH
 cases m with
 |zero=>exact absurd hWe.symm hne
 |succ m=>
 have hW:=hWs m aB;have hgo:=fun(t':Tm) (ht':Gin t') (s':Int) (h0:0<=s')=>lK hg hf hA m t' s' ht' h0
 simp;simp only[whG];obtain⟨G,hG⟩:∃G,List.set h q (dU env s)=G:=⟨_,rfl⟩;have hGl:h.length=G.length:=by rw[<-hG];simp
 have hGw:WF G:=by rw[<-hG];exact hh.set aA
 have hGq:G[q]?=some (dU env s):=by rw[<-hG];exact g3 _
 rw[hG];simp only[hGl];simp only[hGl] at IH;obtain⟨k1,k2,k3,k4,k5,hGlt⟩:=idf hGq;have c1:=fun g hw=>zX g hw t ht.len
 have hth:=ht.head;have hta:=ht.args;have htl2:=ht.len;simp only[bM,aFc] at hWe;obtain⟨⟨hd,args⟩,hsp⟩:∃r,aG t=r:=⟨_,rfl⟩;rw[hsp] at c1 hth hta htl2;simp only[hsp] at hWe;simp only at c1 hth hta htl2;obtain⟨k,i,nm,ls,ks⟩:=hd;obtain⟨tk,ti,tn,tl,tks⟩:=t;have hGs:∀s',List.set G q (dU env s')=List.set h q (dU env s'):=fun s'=>by rw[<-hG];simp
 --the next round
 have hnext:∀(t':Tm) (s':Int) T,Gin t'->0<=s'->s'<=20000->bM env m t' s'=W->_:=fun t' s' T a b c e=>IH ⟨t',s',m⟩ T (List.set G q (dU env s')++[some (.cells (t'.cells.map .p)),some (.cells zTm)]) ⟨a,b,c,by simp only;omega,e⟩ (by simp only;omega)
 simp only[Tm.av,aH,List.map] at c1 hWe⊢;simp only[Tm.name,Tm.levels] at hWe;refine znr ?_;refine zL (c1 _ (hGw.app aA)) ?_;refine zor ?_
 by_cases hl:40960<args.length
 ·rw[if_pos hl] at hWe;subst hWe;have hl':(40960:Int)<args.length:=aB;refine kL hl' ?_;refine y23 ?_;exact Fin.panA (h0:=G) aA hGw rfl rfl ⟨rfl,hG.symm⟩
 rw[if_neg hl] at hWe;have hl':¬(40960:Int)<args.length:=aB;have hl2:(args.length:Int)<=40960:=aB;refine dJ hl' ?_
 have hsh:pA k ks.length:=by
  have:=hth.1;simp only[Tm.wf,rP] at this;exact this.1.2.2.2.2
 by_cases k5:k=5
 ·subst k5;rw[if_pos (show(Tm.mk 5 i nm ls ks).kind=5 from rfl)] at hWe
  obtain⟨a,b,rfl⟩:∃a b,ks=[a,b]:=by
   have:=hsh.1 rfl
   match ks,this with
   |[a,b],_=>exact⟨a,b,rfl⟩
  have hb:b.at_:=dY hth 1;refine aI3 ?_
  cases args with
  |nil=>
   rw[if_pos rfl] at hWe;subst hWe;refine rI ?_;exact y3y
  |cons x xs=>
  rw[if_neg aA] at hWe;have hx:=hta x aA;have hxs:∀a∈xs,a.at_:=fun a ha=>hta a (by simp[ha])
  have c2:=fun(l:List (Option AO)) (hw:WF (G++l))=>pY env b [x] hb (by simpa using hx) aA s aB aB q (G++l) hw (k1 l)
  have hpg:=oS hb (vs:=[x]) (by simpa using hx) hs0;have hpn:=pZ b [x] s;simp only[Tm.kid,Tm.kids,aZr,aZt,aZb,aZu,bBc,bB4,List.drop_zero] at hWe;generalize sC b [x] s=w at hWe c2 hpn hpg;obtain⟨a0,a1,a2,a3,a4⟩:=a;obtain⟨b0,b1,b2,b3,b4⟩:=b;obtain⟨x0,x1,x2,x3,x4⟩:=x;simp only[Tm.av,aH,List.map,aL] at c2
  cases w with
  |out=>exact absurd rfl hpn
  |fail s'=>
   simp only[WO.bind] at hWe;subst hWe;have c2:=fun l hw=>WPost.fails hGlt (c2 l hw)
   have hxn:¬(xs.length:Int)+1=0:=aB;have hxt:(aL xs).take xs.length=aL xs:=aZ6 aA;have hx1:1<=(xs.length:Int)+1:=aB;refine aFv hxn ?_;refine ND.Run.drawPanicP (pc:=[]) [0,0,0,0,0,0,0,0,0,0,0,0,1,2] [0,0,0,0,0,0,0,0,0,0,0,0,0,0] [0,0,2,6,14,0,32,96,224,511,0,1024,4095,8191] [0,1,2,3,4,5,6,7,8,10,11] 9 aC aC ?_;refine aY8 hxt hx1 ?_;exact y5z
  |ok y s'=>
   simp only[WO.bind] at hWe;obtain⟨hy,hs0',hs1'⟩:=hpg;have c2:=fun l hw=>WPost.oks hGlt (c2 l hw)
   have hxl:xs.length<=40960:=by simp at hl;omega
   have c3:=fun g hw=>dG g hw y xs aB
   have hgin:Gin (aN y xs):=(Gin.of_at hy).app hxs (by have:=fR hy;omega);have hgl:Gin (aN y xs):=hgin;generalize aN y xs=z at hWe c3 hgin hgl;obtain⟨y0,y1,y2,y3,y4⟩:=y;obtain⟨z0,z1,z2,z3,z4⟩:=z;simp only[Tm.av,aH,List.map] at c2 c3;have hxn:¬(xs.length:Int)+1=0:=aB;have hxt:(aL xs).take xs.length=aL xs:=aZ6 aA;have hx1:1<=(xs.length:Int)+1:=aB;refine aFv hxn ?_;refine ND.Run.drawP (pc:=[]) [0,0,0,0,0,0,0,0,0,0,0,0,1,2] [0,0,0,0,0,0,0,0,0,0,0,0,1,2] [0,0,2,6,14,0,32,96,224,511,0,1024,4095,8191] [0,1,2,3,4,5,6,7,8,9,10,11,12,13] aC aC ?_;refine aRc ?_;refine ND.DR.call rfl rfl rfl aA rfl rfl (c2 _ (hGw.app aA)) ?_;refine zm2 hxt hx1 ?_;refine ND.DR.call rfl rfl rfl aA rfl rfl (c3 _ ((hGw.set aA).app aA)) ?_;refine zm ?_;refine y9 ?_;refine nv ?_;refine yq ?_;refine IH ⟨.mk z0 z1 z2 z3 z4,s',m⟩ _ _ ⟨hgin,hs0',by simp only;omega,by simp only;omega,hWe⟩ (by simp only;omega) ?_ ?_
   ·exact zS
   ·simp[whG,hGs]
 have k5':(k==(5:Int))=false:=by simpa using k5
 rw[if_neg (show¬(Tm.mk k i nm ls ks).kind=5 from k5)] at hWe;refine nR k5' ?_
 by_cases k11:k=11
 ·subst k11;rw[if_pos (show(Tm.mk 11 i nm ls ks).kind=11 from rfl)] at hWe
  obtain⟨a,b,c,rfl⟩:∃a b c,ks=[a,b,c]:=by
   have:=hsh.2.1 rfl
   match ks,this with
   |[a,b,c],_=>exact⟨a,b,c,rfl⟩
  have hb:b.at_:=dY hth 1;have hc:c.at_:=dY hth 2;have c2:=fun(l:List (Option AO)) (hw:WF (G++l))=>pY env c [b] hc (by simpa using hb) aA s aB aB q (G++l) hw (k1 l)
  have hpg:=oS hc (vs:=[b]) (by simpa using hb) hs0;have hpn:=pZ c [b] s;simp only[Tm.kid,Tm.kids,aZr,aZt,aZb] at hWe;generalize sC c [b] s=w at hWe c2 hpn hpg;obtain⟨a0,a1,a2,a3,a4⟩:=a;obtain⟨b0,b1,b2,b3,b4⟩:=b;obtain⟨x0,x1,x2,x3,x4⟩:=c;simp only[Tm.av,aH,List.map,aL] at c2;refine aI3 ?_
  cases w with
  |out=>exact absurd rfl hpn
  |fail s'=>
   simp only[WO.bind] at hWe;subst hWe;have c2:=fun l hw=>WPost.fails hGlt (c2 l hw)
   refine nv ?_;refine ND.Run.drawPanicP (pc:=[]) [0,0,0,0,0,0,0,0,0,0,0,0,1,2] [0,0,0,0,0,0,0,0,0,0,0,0,0,0] [0,0,2,6,14,0,32,96,224,480,1023,0,4095,8191] [0,1,2,3,4,5,6,7,8,9,11] 10 aC aC ?_;refine aRc ?_;exact y5z
  |ok y s'=>
   simp only[WO.bind] at hWe;obtain⟨hy,hs0',hs1'⟩:=hpg;have c2:=fun l hw=>WPost.oks hGlt (c2 l hw)
   have c3:=fun g hw=>dG g hw y args aB
   have hgin:Gin (aN y args):=(Gin.of_at hy).app hta (by have:=fR hy;omega);generalize aN y args=z at hWe c3 hgin;obtain⟨y0,y1,y2,y3,y4⟩:=y;obtain⟨z0,z1,z2,z3,z4⟩:=z;simp only[Tm.av,aH,List.map] at c2 c3;refine nv ?_;refine ND.Run.drawP (pc:=[]) [0,0,0,0,0,0,0,0,0,0,0,0,1,2] [0,0,0,0,0,0,0,0,0,0,0,0,1,2] [0,0,2,6,14,0,32,96,224,480,1023,0,4095,8191] [0,1,2,3,4,5,6,7,8,9,10,11,12,13] aC aC ?_;refine aRc ?_;refine ND.DR.call rfl rfl rfl aA rfl rfl (c2 _ (hGw.app aA)) ?_;refine zm ?_;refine ND.DR.call rfl rfl rfl aA rfl rfl (c3 _ ((hGw.set aA).app aA)) ?_;refine zm ?_;refine y9 ?_;refine nv ?_;exact y6a
 have k11':(k==(11:Int))=false:=by simpa using k11
 rw[if_neg (show¬(Tm.mk k i nm ls ks).kind=11 from k11)] at hWe;refine nR k11' ?_
 by_cases k9:k=9\/k=10
 ·rw[if_pos (show(Tm.mk k i nm ls ks).kind=9\/(Tm.mk k i nm ls ks).kind=10 from k9)] at hWe
  obtain⟨a,rfl⟩:∃a,ks=[a]:=by
   have:ks.length=1:=by rcases k9 with h|h;exact hsh.2.2.1 h;exact hsh.2.2.2.1 h
   match ks,this with
   |[a],_=>exact⟨a,rfl⟩
  have ha:a.at_:=dY hth 0;have hgw:=hgo a (Gin.of_at ha) s hs0;have c2:=fun(l:List (Option AO)) (hw:WF (G++l)) (hn:bM env m a s≠ .out)=>hW a s (Gin.of_at ha) hs0 hs1 hn q (G++l) hw (k1 l)
  rw[show(Tm.mk k i nm ls [a]).kid 0=a from rfl] at hWe;obtain⟨a0,a1,a2,a3,a4⟩:=a;rcases k9 with rfl|rfl
  ·generalize bM env m (.mk a0 a1 a2 a3 a4) s=w at hWe c2 hgw;simp only[Tm.av,aH,List.map] at c2
   cases w with
   |out=>exact absurd hWe.symm hne
   |fail s'=>
    simp only[WO.bind] at hWe;subst hWe;have c2:=fun l hw=>WPost.fails hGlt (c2 l hw (by intro e;cases e))
    refine vM ?_;exact y3p
   |ok p s'=>
   simp only[WO.bind] at hWe;obtain⟨hp,hs0',hs1'⟩:=hgw;have c2:=fun l hw=>WPost.oks hGlt (c2 l hw (by intro e;cases e))
   obtain⟨p0,p1,p2,p3,p4⟩:=p;simp only[Tm.av,aH,List.map] at c2;refine vM ?_;refine zL (c2 _ (hGw.app aA)) ?_;refine zor ?_
   by_cases k8:p0=8
   rotate_left
   ·rw[if_pos (show(Tm.mk p0 p1 p2 p3 p4).kind≠8 from k8)] at hWe;subst hWe;have k8':(p0 !=(8:Int))=true:=by simpa using k8
    have c3:∀(g:Heap) (hw:WF g),ACalls Tryz.prog 234 [.agg [iA 9,iA 0, .p (sP []), .p (.prim (.slice none 0 0)), .p (.sl 5 [[iP p0,iP p1,sP p2, .sl 2 (aW p3), .sl 5 (aL p4)]])], .p (.sl 5 (aL args))] g fun o h'=>o= .ret (aN (.mk 9 0 [] [] [.mk p0 p1 p2 p3 p4]) args).av/\h'=g:=fun g hw=>
     ACalls.weak (args':=[(Tm.mk 9 0 [] [] [.mk p0 p1 p2 p3 p4]).av, .p (.sl 5 (aL args))]) (WeakL.cons (by simp only[Tm.av,aH,List.map,aL,aW];exact Weak.agg (WeakL.cons (Weak.refl _) (WeakL.cons (Weak.refl _) (WeakL.cons (Weak.refl _) (WeakL.cons (Weak.nil _) (WeakL.refl _)))))) (WeakL.refl _)) (dG g hw _ args aB)
    obtain⟨⟨z0,z1,z2,z3,z4⟩,hz⟩:∃z,aN (.mk 9 0 [] [] [.mk p0 p1 p2 p3 p4]) args=z:=⟨_,rfl⟩;rw[hz] at c3;simp only[Tm.av,aH,List.map] at c3;refine kL k8' ?_;refine zL (c3 _ ((hGw.set aA).app aA)) ?_;refine zox ?_;exact Fin.ret' (h0:=List.set G q (dU env s')) aA aA (show WF (List.set G q (dU env s')) from hGw.set aA) rfl aE rfl (Weak.refl _) aA ⟨by simp[Tm.kind,hz,Tm.av,aH],hGs s'⟩
   subst k8;rw[if_neg (show¬(Tm.mk 8 p1 p2 p3 p4).kind≠8 from fun h=>h rfl)] at hWe
   have hpa:(Tm.mk 8 p1 p2 p3 p4).at_:=by
    have:=hp.head;exact y58
   have hp3:p4.length=3:=by
    exact y91
   have hka:=dY hpa ((Tm.mk 9 i nm ls [.mk a0 a1 a2 a3 a4]).kind-8).toNat;have c4:=fun(l:List (Option AO)) (hw:WF (List.set G q (dU env s')++l))=>nZ env s' aB aB (.mk 9 i nm ls [.mk a0 a1 a2 a3 a4]) (.mk 8 p1 p2 p3 p4) (by simp[Tm.kind]) hp3 q (List.set G q (dU env s')++l) hw (k4 l _)
   have hGs2:q<(List.set G q (dU env s')).length:=by simpa using hGlt
   unfold iK at hWe c4;generalize (Tm.mk 8 p1 p2 p3 p4).kid ((Tm.mk 9 i nm ls [.mk a0 a1 a2 a3 a4]).kind-8).toNat=y at hWe c4 hka;exact y35
  ·generalize bM env m (.mk a0 a1 a2 a3 a4) s=w at hWe c2 hgw;simp only[Tm.av,aH,List.map] at c2
   cases w with
   |out=>exact absurd hWe.symm hne
   |fail s'=>
    simp only[WO.bind] at hWe;subst hWe;have c2:=fun l hw=>WPost.fails hGlt (c2 l hw (by intro e;cases e))
    refine qK ?_;exact y3p
   |ok p s'=>
   simp only[WO.bind] at hWe;obtain⟨hp,hs0',hs1'⟩:=hgw;have c2:=fun l hw=>WPost.oks hGlt (c2 l hw (by intro e;cases e))
   obtain⟨p0,p1,p2,p3,p4⟩:=p;simp only[Tm.av,aH,List.map] at c2;refine qK ?_;refine zL (c2 _ (hGw.app aA)) ?_;refine zor ?_
   by_cases k8:p0=8
   rotate_left
   ·rw[if_pos (show(Tm.mk p0 p1 p2 p3 p4).kind≠8 from k8)] at hWe;subst hWe;have k8':(p0 !=(8:Int))=true:=by simpa using k8
    have c3:∀(g:Heap) (hw:WF g),ACalls Tryz.prog 234 [.agg [iA 10,iA 0, .p (sP []), .p (.prim (.slice none 0 0)), .p (.sl 5 [[iP p0,iP p1,sP p2, .sl 2 (aW p3), .sl 5 (aL p4)]])], .p (.sl 5 (aL args))] g fun o h'=>o= .ret (aN (.mk 10 0 [] [] [.mk p0 p1 p2 p3 p4]) args).av/\h'=g:=fun g hw=>
     ACalls.weak (args':=[(Tm.mk 10 0 [] [] [.mk p0 p1 p2 p3 p4]).av, .p (.sl 5 (aL args))]) (WeakL.cons (by simp only[Tm.av,aH,List.map,aL,aW];exact Weak.agg (WeakL.cons (Weak.refl _) (WeakL.cons (Weak.refl _) (WeakL.cons (Weak.refl _) (WeakL.cons (Weak.nil _) (WeakL.refl _)))))) (WeakL.refl _)) (dG g hw _ args aB)
    obtain⟨⟨z0,z1,z2,z3,z4⟩,hz⟩:∃z,aN (.mk 10 0 [] [] [.mk p0 p1 p2 p3 p4]) args=z:=⟨_,rfl⟩;rw[hz] at c3;simp only[Tm.av,aH,List.map] at c3;refine kL k8' ?_;refine zL (c3 _ ((hGw.set aA).app aA)) ?_;refine zox ?_;exact Fin.ret' (h0:=List.set G q (dU env s')) aA aA (show WF (List.set G q (dU env s')) from hGw.set aA) rfl aE rfl (Weak.refl _) aA ⟨by simp[Tm.kind,hz,Tm.av,aH],hGs s'⟩
   subst k8;rw[if_neg (show¬(Tm.mk 8 p1 p2 p3 p4).kind≠8 from fun h=>h rfl)] at hWe
   have hpa:(Tm.mk 8 p1 p2 p3 p4).at_:=by
    have:=hp.head;exact y58
   have hp3:p4.length=3:=by
    exact y91
   have hka:=dY hpa ((Tm.mk 10 i nm ls [.mk a0 a1 a2 a3 a4]).kind-8).toNat;have c4:=fun(l:List (Option AO)) (hw:WF (List.set G q (dU env s')++l))=>nZ env s' aB aB (.mk 10 i nm ls [.mk a0 a1 a2 a3 a4]) (.mk 8 p1 p2 p3 p4) (by simp[Tm.kind]) hp3 q (List.set G q (dU env s')++l) hw (k4 l _)
   have hGs2:q<(List.set G q (dU env s')).length:=by simpa using hGlt
   unfold iK at hWe c4;generalize (Tm.mk 8 p1 p2 p3 p4).kid ((Tm.mk 10 i nm ls [.mk a0 a1 a2 a3 a4]).kind-8).toNat=y at hWe c4 hka;exact y35
 have k9':(k==(9:Int))=false:=by simp;omega
 have k10':(k==(10:Int))=false:=by simp;omega
 rw[if_neg (show¬((Tm.mk k i nm ls ks).kind=9\/(Tm.mk k i nm ls ks).kind=10) from k9)] at hWe;have n9:¬k=9:=aB;have n10:¬k=10:=aB;refine nR k9' ?_;refine zr1 k10' ?_;refine zf ?_
 by_cases k3:k=3
 ·subst k3;rw[if_pos (show(Tm.mk 3 i nm ls ks).kind=3 from rfl)] at hWe;have hcg:=wA hg hf hA _ (fun t s a b=>hgo t a s b) nm ls args hta aB s hs0;have c2:=fun(l:List (Option AO)) (hw:WF (G++l)) (hn:gD env (bM env m) nm ls args s≠ .out)=>sV env hg hf hA m hW (.mk 3 i nm ls ks) (aRn hth) args hta aB s hs0 hs1 hn q (G++l) hw (k1 l)
  simp only[Tm.name,Tm.levels] at c2;generalize gD env (bM env m) nm ls args s=w at hWe c2 hcg;simp only[Tm.av,aH,List.map] at c2;refine aI3 ?_
  cases w with
  |out=>exact absurd hWe.symm hne
  |fail s'=>
   simp only[WO.bind] at hWe;subst hWe;have c2:=fun l hw=>WPost.fails hGlt (c2 l hw (by intro e;cases e))
   refine znr ?_;exact y3p
  |ok o s'=>
   simp only[WO.bind] at hWe;obtain⟨ho,hs0',hs1'⟩:=hcg;have c2:=fun l hw=>WPost.oks hGlt (c2 l hw (by intro e;cases e))
   cases o with
   |none=>
    simp only at hWe;subst hWe;simp only[kZ,bBu,Option.isSome_none,Tm.av,zT,aH,List.map] at c2;refine znr ?_;refine zL (c2 _ (hGw.app aA)) ?_;refine pH ?_;exact Fin.ret' (h0:=List.set G q (dU env s')) aA aA (show WF (List.set G q (dU env s')) from hGw.set aA) rfl aE rfl (Weak.refl _) aA ⟨by simp[Tm.av,aH],hGs s'⟩
   |some z=>
    simp only at hWe;have hgin:=ho z rfl;obtain⟨z0,z1,z2,z3,z4⟩:=z;simp only[kZ,aZb,Option.isSome_some,Tm.av,aH,List.map] at c2;refine znr ?_;refine zL (c2 _ (hGw.app aA)) ?_;refine aOi ?_;exact y6a
 rw[if_neg (show¬(Tm.mk k i nm ls ks).kind=3 from k3)] at hWe;subst hWe;have k3':(k==(3:Int))=false:=by simpa using k3
 refine aFs k3' ?_;exact y3y
theorem aFq (env:List Dc)(hg:Env.good env)(hf:aP env)(hA:EnvA env)(n:Nat):aSp env n:=by
 induction n using Nat.strongRecOn with
 |_ n ih=>exact aDf env hg hf hA n ih
open Go Go.AI
theorem aY7:bZ Tryz.prog 298=some []:=aC
theorem aJl (h:Heap)(hh:WF h)(p:Nat) {c0:AV} (hp:h[p]?=some (some (.cells [c0]))):ADef Tryz.prog 233 [.ptr p 0] (some aBe) h (h.set p (some (.cells [iA 11]))):=by
 obtain⟨p1,p2,p3,p4,p5,p6⟩:=idf hp;refine ADef.of_run Tryz.func233 rfl rfl rfl fun K J=>?_
 simp only[Tryz.ntmps233,aZ1,aZ2];simp[aUz];refine J _ _ ?_;clear J;have hu:Tryz.prog.underlying 20=some (.interface #[]):=aC;refine aDk hu ?_;refine zr1 hp ?_;refine Run.regPre 1 fun K J=>?_
 simp only[aZu,bBc];simp;refine zi ?_;clear J;simp only[aZ3,bB4,List.drop_zero];refine Run.assertHit rfl (by simp[aJ]) Tryz.underlying298 aE ?_;refine zs ?_;refine aYi ?_;refine zr ?_;refine zf ?_;refine Run.nil ?_;exact Fin.ret' (h0:=h.set p (some (.cells [iA 11]))) aA aA (show WF (h.set p (some (.cells [iA 11]))) from hh.set aA) rfl rfl rfl (Weak.refl _) rfl ⟨⟨_,rfl⟩,rfl⟩
section
variable (env:List Dc) (t:Tm) (s':Int)
def sI:Prop:=∀(H:Heap)(q:Nat),WF H->H[q]?=some (some (.cells [bW env,iA 20000]))->ACalls Tryz.prog 211 [.ptr q 0,t.av] H fun o h'=>o= .panic aBe/\h'=H.set q (some (.cells [bW env,iA s']))
theorem aOd (hc:sI env t s')(H:Heap)(hh:WF H)(q p r:Nat)(hq:H[q]?=some (some (.cells [bW env,iA 20000])))(hp:H[p]?=some (some (.cells (t.cells.map .p)))):
  ACalls Tryz.prog 210 [.ptr q 0, .ptr p 0, .ptr r 0] H fun o h'=>o= .panic aBe/\h'=H.set q (some (.cells [bW env,iA s'])):=by
 have c1:=hc H q hh hq;obtain⟨k,i,nm,ls,ks⟩:=t;simp only[Tm.av,aH,List.map] at c1 hp⊢;refine zE Tryz.func210 Tryz.ntmps210 ?_;refine nQ hp ?_;refine Run.call rfl aF aA rfl (c1) ?_ ?_
 ·rintro v h' ⟨hv,_⟩;cases hv
 rintro v h' ⟨hv,rfl⟩;simp only[AOut.panic.injEq] at hv;subst hv;exact Fin.panA (h0:=List.set H q (some (.cells [bW env,iA s']))) aA (hh.set aA) (aZ0 _).symm rfl ⟨rfl,rfl⟩
theorem aJk (hc:sI env t s')(H:Heap)(hh:WF H)(p r:Nat)(hp:H[p]?=some (some (.cells (t.cells.map .p)))):
  AC 209 [bW env, .fn (.func 210) [] [.ptr p 0, .ptr r 0]] H (iA 11):=by
 have hpl:=(aYv.1 hp).1;have c1:=aOd env t s' hc (H++[some (.cells [iA 0]),some (.cells [bW env,iA 20000])]) (hh.app aA) (H.length+1) p r aA (by rw[aZ8 hpl];exact hp);have hs1:(H++[some (AO.cells [iA 0]),some (AO.cells [bW env,iA 20000])]).set (H.length+1) (some (AO.cells [bW env,iA s']))=H++[some (AO.cells [iA 0]),some (AO.cells [bW env,iA s'])]:=aA;rw[hs1] at c1;refine ACalls.of_runD Tryz.func209 rfl ?_;simp only[Tryz.ntmps209,aZ1,aZ2];refine znr ?_;refine Run.regPre 1 fun K J=>?_
 simp only[aZu,bBc];simp;refine zi ?_;clear J;simp only[aZ3,bB4,List.drop_zero];refine Run.defer (i:=233) (first:=[]) (cap:=[.ptr H.length 0]) rfl rfl rfl aA ?_;refine zor ?_;refine Run.call (args:=[.ptr (H.length+1) 0, .ptr p 0, .ptr r 0]) rfl rfl aA rfl c1 ?_ ?_
 ·rintro v h' ⟨hv,_⟩;cases hv
 rintro v h' ⟨hv,rfl⟩;simp only[AOut.panic.injEq] at hv;subst hv;simp only[aKd];have hd:=aJl (H++[some (AO.cells [iA 0]),some (AO.cells [bW env,iA s'])]) (hh.app aA) H.length (c0:=iA 0) aA;refine⟨by simp,rfl,_,hd,?_⟩;have e:(H++[some (AO.cells [iA 0]),some (AO.cells [bW env,iA s'])]).set H.length (some (AO.cells [iA 11]))=H++[some (AO.cells [iA 11]),some (AO.cells [bW env,iA s'])]:=aA;rw[e];refine zF1 hh ?_;exact⟨rfl,rfl⟩
theorem aFo (hc:sI env t s')(h:Heap)(hh:WF h):
  AC 173 [bW env,t.av] h (.tup [zT.av,iA 11]):=by
 have c1:=aJk env t s' hc (h++[some (AO.cells (t.cells.map .p)),some (AO.cells zTm),some (AO.cells zTm)]) (hh.app aA) h.length (h.length+2) aA;obtain⟨k,i,nm,ls,ks⟩:=t;simp only[Tm.av,aH,List.map] at c1⊢;refine zE Tryz.func173 Tryz.ntmps173 ?_;refine iQ ?_;refine zL (c1) ?_;refine pH ?_;exact Fin.ret' (h0:=h) (xs:=[.agg zTm,iA 11]) aA rfl hh rfl aA rfl (Weak.tup (WeakL.cons Weak.zT (WeakL.refl _))) (by simp[zT,aH]) ⟨rfl,rfl⟩
end
open Go Go.AI
set_option linter.unusedSectionVars false
theorem jR (l:List Tm):∀(t:Tm),(aN t l).size=t.size+(Tm.sizes l+l.length):=by
 induction l with
 |nil=>intro t;simp[aN,Tm.sizes]
 |cons a l ih=>
  intro t;have:aN t (a::l)=aN (vN t a) l:=rfl;rw[this,ih];simp only[vN,Tm.size,Tm.sizes,aZ1];omega
section
variable {env:List Dc} (hf:aP env) {i:Nat} {d:Dc} (hi:env[i]?=some d) (hk:d.k=3) (hfx:0<=d.fx)
include hf hi hk hfx
end
open Go Go.AI
set_option linter.unusedSectionVars false
theorem aLg {env:List Dc} (hf:aP env) {i:Nat} {d:Dc} (hi:env[i]?=some d)(hk:d.k=3):d.cs.length<=32/\(∀c∈d.cs,c.ty.size<=4096):=by
 have h0:=hf.2 i d hi;unfold oC at h0;split at h0
 ·simp at h0
 split at h0
 ·simp at h0
 split at h0
 ·exact y6g
 rename_i hc;split at h0
 ·exact y6g
 have hc:gH d=0:=by simpa using hc
 constructor
 ·unfold gH at hc;split at hc
  ·simp at hc
  split at hc
  ·simp at hc
  rename_i h1;simp only[bAd,aZh,not_or] at h1;omega
 ·unfold lI at h0;split at h0
  ·rename_i hc;exact absurd h0 hc.2
  split at h0
  ·rename_i hc;omega
  try rw[if_pos hk] at h0
  split at h0
  ·exact y6g
  rename_i h1;have h1:aT (d.cs.map fun c=>bS (env.take i) [d.nm] d c.ty 0 d.ps)=0:=by simpa using h1
  intro c hcm;obtain⟨j,hj⟩:=bAl hcm;have hz:bS (env.take i) [d.nm] d c.ty 0 d.ps=0:=iB h1 _ (aZq.2 ⟨c,hcm,rfl⟩);unfold bS at hz
  have hz2:eQ 0 d.ps 0 0 c.ty=0:=by
   by_cases h:eQ 0 d.ps 0 0 c.ty=0
   ·exact h
   ·rw[if_neg h] at hz;exact absurd hz h
  refine Decidable.byContradiction fun hn=>?_
  have h4:4096<(c.ty.size:Int):=aB;simp only[eQ,h4,if_true] at hz2;generalize chk (if(0:Int)<0 then 0 else 0) d.ps 0 0 0 c.ty=e at hz2
  by_cases he:e=0
  ·rw[if_neg (by simpa using he)] at hz2;cases hz2
  ·rw[if_pos he] at hz2;exact he hz2
section
variable {env:List Dc} (hf:aP env) {i:Nat} {d:Dc} (hi:env[i]?=some d) (hk:d.k=3) {last:Nat} (hla:last<d.cs.length)
include hf hi hk hla
end
end Go.Proofs.YtcfcolkbeelegaaGreat
