import Derived.Test.YtcfcolkbeelegaaGreatJA0
import Derived.Test.YtcfcolkbeelegaaGreatJRL
import Derived.Test.YtcfcolkbeelegaaGreatJFLP
set_option maxRecDepth 8000
set_option maxHeartbeats 32000000
namespace Go.Proofs.YtcfcolkbeelegaaGreat
open Go Go.AI
theorem aC0 (env:List Dc)(hg:Env.good env)(hf:aP env)(hA:EnvA env)(n0:Nat)(hW:aSp env n0)(a0:Int)(n i:Nat)(a3:Int)(ty:Tm)(d:Dc)(hd:env[n]?=some d)(hk:d.k=4)(f:Fu)(hfi:d.fs[i]?=some f)(t:Tm)(ht:pQ t.levels)(args:List Tm)(haa:∀a∈args,a.at_)(hl:args.length<=40960)
  (s:Int) (hs0:0<=s) (hs1:s<=20000) (hne:aLs env (bM env n0) f t.levels args s≠ .out) (q:Nat) (h:Heap) (hh:WF h) (hq:h[q]?=some (dU env s)):
  ACalls Tryz.prog 264 [.ptr q 0,(En.mk a0 n i a3 ty).av,t.av, .p (.sl 5 (aL args))] h (WPost env q h kZ (aLs env (bM env n0) f t.levels args s)):=by
 obtain⟨g1,g2,g3,g4,g5,hlt⟩:=idf hq;have hm:=aZ9 hd;obtain⟨r0,r1,r2⟩:=hA.fs d hm hk f (aZ9 hfi);have hnl:=(aYv.1 hd).1;have hd':∀q:n<env.length,env[n]'q=d:=fun q=>(aYv.1 hd).2
 have hil:=(aYv.1 hfi).1;have hfi':∀q:i<d.fs.length,d.fs[i]'q=f:=fun q=>(aYv.1 hfi).2
 obtain⟨W,hWe⟩:∃W,aLs env (bM env n0) f t.levels args s=W:=⟨_,rfl⟩;rw[hWe] at hne⊢;unfold aLs at hWe;obtain⟨ar,har⟩:∃ar:Nat,f.ar=ar:=⟨f.ar.toNat,by omega⟩;rw[har] at hWe r0 r1;have hlg:=tS hg hf hA (bM env n0) (lK hg hf hA n0) f.tr 200 (args.take ar) s r2 (fun a hx=>haa a (bA3 hx)) (by simp only[aZm];omega) hs0;have c1:=fun(l:Heap) (hw:WF (h++l)) hn=>aEg env hg hf hA n0 hW f.tr 200 r2 (args.take ar) (fun a hx=>haa a (bA3 hx)) (by simp only[aZm];omega) (aYw _) s hs0 hs1 hn q (h++l) hw (g1 l)
 obtain⟨nf,⟨y1,y2,y3,y4,y5⟩,af,⟨z1,⟨z2,z3,z4,z5,z6⟩,z7,z8⟩⟩:=f;simp only at har;subst har;obtain⟨k,ix,nmt,ls,ks⟩:=t;obtain⟨u1,u2,u3,u4,u5⟩:=ty;simp only[aZj,Tm.levels] at hWe;simp only[Tr.av,Tr.cells,aH,List.map,aYy,aZ3] at c1;simp only[En.av,En.cells,Tm.av,aH,List.map];generalize kN env (bM env n0) (.mk z1 (.mk z2 z3 z4 z5 z6) z7 z8) (args.take ar) s=w at hWe hlg c1
 have hfsr:∀q:22<d.row.length,d.row[22]'q= .p (.sl 15 (d.fs.map Fu.cells)):=fun q=>by
  have:d.row[22]?=some (.p (.sl 15 (d.fs.map Fu.cells))):=by
   exact y3g
  exact y4o
 have hfsc:∀q:22<d.cells.length,d.cells[22]'q= .sl 15 (d.fs.map Fu.cells):=fun q=>by
  obtain⟨k,nm,ps,⟨k1,i1,n1,l1,s1⟩,⟨k2,i2,n2,l2,s2⟩,fx,cs,rp,⟨k3,i3,n3,l3,s3⟩,rr,fs⟩:=d;simp[Dc.cells,aH]
 refine zER Tryz.func264 Tryz.ntmps264 ?_;refine ND.Run.drawP (pc:=[]) [0,0,0,0,0,0,0,0,0,0,0,0,0,0,1] [0,0,0,0,0,0,0,0,0,0,0,0,0,0,1] [0,1,3,7,0,16,63,127,255,0,512,2047,4095,0,16383] [13,0,1,2,3,4,5,6,7,8,9,10,11,12,14] aC aC ?_;refine aYe g1 hd' hnl hfsc hfi' hil ?_;refine y9 ?_;refine nv ?_
 by_cases hla:(args.length:Int)<ar
 ·rw[if_pos hla] at hWe;subst hWe;have hla2:args.length<ar:=aB;refine gB hla ?_;exact y78
 rw[if_neg hla] at hWe;have hla2:¬args.length<ar:=aB;have hla3:ar<=args.length:=aB;refine nR hla ?_
 cases w with
 |out=>
  exact y8z
 |fail s'=>
  simp only[WO.bind] at hWe;subst hWe;have c1:=fun l hw=>(c1 l hw (by intro e;cases e)).mono (R':=fun o g=>o= .panic aBe/\g=List.set h q (dU env s')++l) (fun o g e=>⟨e.1,by rw[e.2,aZp _ _ hlt]⟩)
  refine nv ?_;refine ND.Run.drawE3 (pc:=[]) 7 13 14 [0,1,2,3,4,5,6,7,13,14,8,9,15,10,11,12,16,17,18] [0,0,0,0,0,0,0,0,1,1,1,1,1,1,2,3,4,4,4] [0,0,0,0,0,0,0,0,0,0,0,0,0,0,0,0,0,0,0] [0,0,2,0,0,16,56,127,255,511,511,511,511,255,8447,25599,59391,126975,262143] [0,1,2,3,4,5,6] [0,0,0,0,0,0,0,0,1,1,1,1,1,2,1,3,4,4,4] [0,0,0,0,0,0,0,0,0,0,0,0,0,0,0,0,0,0,0] [0,0,2,0,0,16,56,127,255,511,511,511,511,16639,255,25599,59391,126975,262143] [0,1,3,4,2,5,6] [0,0,0,0,0,0,0,1,2,2,2,2,2,0,2,3,4,4,4] [0,0,0,0,0,0,0,0,0,0,0,0,0,0,0,0,0,0,0] [0,0,2,0,0,16,56,8319,8447,8703,8703,8703,8703,0,8447,25599,59391,126975,262143] [13,0,1,3,4,2,5,6] [0,0,0,0,0,0,0,2,3,3,3,3,3,0,1,3,4,4,4] [0,0,0,0,0,0,0,0,0,0,0,0,0,0,1,0,0,0,0] [0,0,2,0,0,16,56,24703,24831,25087,25087,25087,25087,0,8192,25599,59391,126975,262143] [13,14,0,1,3,4,2,5,6] [0,0,0,0,0,0,0,1,2,2,2,2,2,2,0,3,4,4,4] [0,0,0,0,0,0,0,0,0,0,0,0,0,0,0,0,0,0,0] [0,0,2,0,0,16,56,16511,16639,16895,16895,16895,16895,16639,0,25599,59391,126975,262143] [14,0,1,3,4,2,5,6] [0,0,0,0,0,0,0,2,3,3,3,3,3,1,0,3,4,4,4] [0,0,0,0,0,0,0,0,0,0,0,0,0,1,0,0,0,0,0] [0,0,2,0,0,16,56,24703,24831,25087,25087,25087,25087,16384,0,25599,59391,126975,262143] [14,13,0,1,3,4,2,5,6] aC aC aC aC aC aC aC aC ?_ ?_ ?_ ?_ ?_ ?_
  all_goals
   refine zm1 hla3 ?_;refine⟨_,_,_,_,_,_,rfl,rfl,rfl,by simp,rfl,(c1 _ (hh.app aA)),?_⟩;intro T' hT;exact Fin.panA (h0:=List.set h q (dU env s')) aA (hh.set aA) aE rfl ⟨rfl,rfl⟩
 |ok o s'=>
  simp only[WO.bind] at hWe;obtain⟨hgo,hs0',hs1'⟩:=hlg;obtain⟨G,hG⟩:∃G,List.set h q (dU env s')=G:=⟨_,rfl⟩;have hGl:h.length=G.length:=by rw[<-hG];simp
  have hGw:WF G:=by rw[<-hG];exact hh.set aA
  have hGq:G[q]?=some (dU env s'):=by rw[<-hG];exact g3 _
  obtain⟨k1,k2,k3,k4,k5,hGlt⟩:=idf hGq
  have c1:=fun l hw=>(c1 l hw (by intro e;cases e)).mono (R':=fun o' g=>∃v,o'= .ret v/\((∃z,v=gU o z)/\g=G++l)) (fun o' g e=>by
   obtain⟨⟨z,rfl⟩,rfl⟩:=e;exact⟨_,rfl,⟨z,rfl⟩,by rw[aZp _ _ hlt,hG]⟩)
  cases o with
  |none=>
   simp only at hWe;subst hWe;obtain⟨⟨b1,b2,b3,b4,b5⟩,hzz⟩:∃z,zT=z:=⟨_,rfl⟩;have c5:∀z1 z2 z3 z4 z5,gU none (.mk z1 z2 z3 z4 z5)= .tup [.agg [iA b1,iA b2, .p (sP b3), .p (.sl 2 (aW b4)), .p (.sl 5 (aL b5))], .p (.sl 5 []),bA false, .agg [iA z1,iA z2, .p (sP z3), .p (.sl 2 (aW z4)), .p (.sl 5 (aL z5))]]:=fun _ _ _ _ _=>by simp[gU,hzz,Tm.av,aH,aL]
   refine nv ?_;refine ND.Run.draw3 (pc:=[]) 7 13 14 [0,0,0,0,0,0,0,0,1,1,1,1,1,1,2,3,4,4,4] [0,0,0,0,0,0,0,0,0,0,0,0,0,1,2,3,0,0,4] [0,0,2,0,0,16,56,127,255,511,511,511,511,255,8447,25599,59391,126975,262143] [0,1,2,3,4,5,6,7,13,14,8,9,15,10,11,12,16,17,18] [0,0,0,0,0,0,0,0,1,1,1,1,1,2,1,3,4,4,4] [0,0,0,0,0,0,0,0,0,0,0,0,0,2,1,3,0,0,4] [0,0,2,0,0,16,56,127,255,511,511,511,511,16639,255,25599,59391,126975,262143] [0,1,3,4,2,5,6,7,14,13,8,9,15,10,11,12,16,17,18] [0,0,0,0,0,0,0,1,2,2,2,2,2,0,2,3,4,4,4] [0,0,0,0,0,0,0,1,0,0,0,0,0,0,2,3,0,0,4] [0,0,2,0,0,16,56,8319,8447,8703,8703,8703,8703,0,8447,25599,59391,126975,262143] [13,0,1,3,4,2,5,6,7,14,8,9,15,10,11,12,16,17,18] [0,0,0,0,0,0,0,2,3,3,3,3,3,0,1,3,4,4,4] [0,0,0,0,0,0,0,2,0,0,0,0,0,0,1,3,0,0,4] [0,0,2,0,0,16,56,24703,24831,25087,25087,25087,25087,0,8192,25599,59391,126975,262143] [13,14,0,1,3,4,2,5,6,7,8,9,15,10,11,12,16,17,18] [0,0,0,0,0,0,0,1,2,2,2,2,2,2,0,3,4,4,4] [0,0,0,0,0,0,0,1,0,0,0,0,0,2,0,3,0,0,4] [0,0,2,0,0,16,56,16511,16639,16895,16895,16895,16895,16639,0,25599,59391,126975,262143] [14,0,1,3,4,2,5,6,7,13,8,9,15,10,11,12,16,17,18] [0,0,0,0,0,0,0,2,3,3,3,3,3,1,0,3,4,4,4] [0,0,0,0,0,0,0,2,0,0,0,0,0,1,0,3,0,0,4] [0,0,2,0,0,16,56,24703,24831,25087,25087,25087,25087,16384,0,25599,59391,126975,262143] [14,13,0,1,3,4,2,5,6,7,8,9,15,10,11,12,16,17,18] aC aC aC aC aC aC aC aC ?_ ?_ ?_ ?_ ?_ ?_
   all_goals
    refine zm1 hla3 ?_;refine yz ?_;rintro v g ⟨⟨⟨w1,w2,w3,w4,w5⟩,rfl⟩,rfl⟩;refine y1q ?_;refine y9 ?_;refine rI ?_;exact y40
  |some p=>
   obtain⟨b,vs⟩:=p;obtain⟨hba,hva,hvl⟩:=hgo _ rfl;simp only at hWe hba hva hvl;have c2:=fun g hw=>tV b hba ls ht g hw
   have hra:=mQ (ls:=ls) hba;obtain⟨⟨⟨r1,r2,r3,r4,r5⟩,e⟩,hr⟩:∃r,bF (lvF ls false) b=r:=⟨_,rfl⟩;simp only[hr] at hWe c2 hra;have c3:=fun(l:Heap) (hw:WF (G++l))=>aDy env (.mk r1 r2 r3 r4 r5) vs hra hva hvl s' aB aB q (G++l) hw (k1 l)
   obtain⟨b1,b2,b3,b4,b5⟩:=b;simp only[Tm.av,aH,List.map] at c2 c3;have c5:∀z1 z2 z3 z4 z5,gU (some (.mk b1 b2 b3 b4 b5,vs)) (.mk z1 z2 z3 z4 z5)= .tup [.agg [iA b1,iA b2, .p (sP b3), .p (.sl 2 (aW b4)), .p (.sl 5 (aL b5))], .p (.sl 5 (aL vs)),bA true, .agg [iA z1,iA z2, .p (sP z3), .p (.sl 2 (aW z4)), .p (.sl 5 (aL z5))]]:=fun _ _ _ _ _=>by simp[gU,Tm.av,aH]
   by_cases he:e=0
   rotate_left
   ·rw[if_pos he] at hWe;subst hWe;have heb:(e !=(0:Int))=true:=by simpa using he
    refine nv ?_;refine ND.Run.draw3 (pc:=[]) 7 13 14 [0,0,0,0,0,0,0,0,1,1,1,1,1,1,2,3,4,4,4] [0,0,0,0,0,0,0,0,0,0,0,0,0,1,2,3,0,0,4] [0,0,2,0,0,16,56,127,255,511,511,511,511,255,8447,25599,59391,126975,262143] [0,1,2,3,4,5,6,7,13,14,8,9,15,10,11,12,16,17,18] [0,0,0,0,0,0,0,0,1,1,1,1,1,2,1,3,4,4,4] [0,0,0,0,0,0,0,0,0,0,0,0,0,2,1,3,0,0,4] [0,0,2,0,0,16,56,127,255,511,511,511,511,16639,255,25599,59391,126975,262143] [0,1,3,4,2,5,6,7,14,13,8,9,15,10,11,12,16,17,18] [0,0,0,0,0,0,0,1,2,2,2,2,2,0,2,3,4,4,4] [0,0,0,0,0,0,0,1,0,0,0,0,0,0,2,3,0,0,4] [0,0,2,0,0,16,56,8319,8447,8703,8703,8703,8703,0,8447,25599,59391,126975,262143] [13,0,1,3,4,2,5,6,7,14,8,9,15,10,11,12,16,17,18] [0,0,0,0,0,0,0,2,3,3,3,3,3,0,1,3,4,4,4] [0,0,0,0,0,0,0,2,0,0,0,0,0,0,1,3,0,0,4] [0,0,2,0,0,16,56,24703,24831,25087,25087,25087,25087,0,8192,25599,59391,126975,262143] [13,14,0,1,3,4,2,5,6,7,8,9,15,10,11,12,16,17,18] [0,0,0,0,0,0,0,1,2,2,2,2,2,2,0,3,4,4,4] [0,0,0,0,0,0,0,1,0,0,0,0,0,2,0,3,0,0,4] [0,0,2,0,0,16,56,16511,16639,16895,16895,16895,16895,16639,0,25599,59391,126975,262143] [14,0,1,3,4,2,5,6,7,13,8,9,15,10,11,12,16,17,18] [0,0,0,0,0,0,0,2,3,3,3,3,3,1,0,3,4,4,4] [0,0,0,0,0,0,0,2,0,0,0,0,0,1,0,3,0,0,4] [0,0,2,0,0,16,56,24703,24831,25087,25087,25087,25087,16384,0,25599,59391,126975,262143] [14,13,0,1,3,4,2,5,6,7,8,9,15,10,11,12,16,17,18] aC aC aC aC aC aC aC aC ?_ ?_ ?_ ?_ ?_ ?_
    all_goals
     refine zm1 hla3 ?_;refine yz ?_;rintro v g ⟨⟨⟨w1,w2,w3,w4,w5⟩,rfl⟩,rfl⟩;refine y1q ?_;refine y9 ?_;refine mI ?_;refine zL (c2 _ (hGw.app aA)) ?_;refine aA9 heb ?_;exact y40
   subst he;rw[if_neg aA] at hWe;have hpn:=pZ (.mk r1 r2 r3 r4 r5) vs.reverse s';generalize sC (.mk r1 r2 r3 r4 r5) vs.reverse s'=w2 at hWe c3 hpn
   cases w2 with
   |out=>exact absurd rfl hpn
   |fail s2=>
    simp only[] at hWe;subst hWe;have c3:=fun l hw=>WPost.fails hGlt (c3 l hw)
    refine nv ?_;refine ND.Run.draw3 (pc:=[]) 7 13 14 [0,0,0,0,0,0,0,0,1,1,1,1,1,1,2,3,4,4,4] [0,0,0,0,0,0,0,0,0,0,0,0,0,1,2,3,0,0,4] [0,0,2,0,0,16,56,127,255,511,511,511,511,255,8447,25599,59391,126975,262143] [0,1,2,3,4,5,6,7,13,14,8,9,15,10,11,12,16,17,18] [0,0,0,0,0,0,0,0,1,1,1,1,1,2,1,3,4,4,4] [0,0,0,0,0,0,0,0,0,0,0,0,0,2,1,3,0,0,4] [0,0,2,0,0,16,56,127,255,511,511,511,511,16639,255,25599,59391,126975,262143] [0,1,3,4,2,5,6,7,14,13,8,9,15,10,11,12,16,17,18] [0,0,0,0,0,0,0,1,2,2,2,2,2,0,2,3,4,4,4] [0,0,0,0,0,0,0,1,0,0,0,0,0,0,2,3,0,0,4] [0,0,2,0,0,16,56,8319,8447,8703,8703,8703,8703,0,8447,25599,59391,126975,262143] [13,0,1,3,4,2,5,6,7,14,8,9,15,10,11,12,16,17,18] [0,0,0,0,0,0,0,2,3,3,3,3,3,0,1,3,4,4,4] [0,0,0,0,0,0,0,2,0,0,0,0,0,0,1,3,0,0,4] [0,0,2,0,0,16,56,24703,24831,25087,25087,25087,25087,0,8192,25599,59391,126975,262143] [13,14,0,1,3,4,2,5,6,7,8,9,15,10,11,12,16,17,18] [0,0,0,0,0,0,0,1,2,2,2,2,2,2,0,3,4,4,4] [0,0,0,0,0,0,0,1,0,0,0,0,0,2,0,3,0,0,4] [0,0,2,0,0,16,56,16511,16639,16895,16895,16895,16895,16639,0,25599,59391,126975,262143] [14,0,1,3,4,2,5,6,7,13,8,9,15,10,11,12,16,17,18] [0,0,0,0,0,0,0,2,3,3,3,3,3,1,0,3,4,4,4] [0,0,0,0,0,0,0,2,0,0,0,0,0,1,0,3,0,0,4] [0,0,2,0,0,16,56,24703,24831,25087,25087,25087,25087,16384,0,25599,59391,126975,262143] [14,13,0,1,3,4,2,5,6,7,8,9,15,10,11,12,16,17,18] aC aC aC aC aC aC aC aC ?_ ?_ ?_ ?_ ?_ ?_
    all_goals
     refine zm1 hla3 ?_;refine yz ?_;rintro v g ⟨⟨⟨w1,w2,w3,w4,w5⟩,rfl⟩,rfl⟩;refine y1q ?_;refine y9 ?_;refine mI ?_;refine zL (c2 _ (hGw.app aA)) ?_;refine aSk ?_;refine ND.Run.drawPanicP (pc:=[]) [0,0,0,0,0,0,0,0,1,2,3] [0,0,0,0,0,0,0,0,0,0,0] [0,0,0,7,0,0,32,112,255,511,1023] [0,1,2,4,5,6,7] 3 aC aC ?_;refine zm1 hla3 ?_;refine⟨_,_,_,_,_,_,rfl,rfl,rfl,by simp,rfl,(c3 _ (hGw.app aA)),?_⟩;intro T' hT;exact Fin.panA (h0:=List.set G q (dU env s2)) aA (hGw.set aA) aE rfl ⟨rfl,by rw[<-hG];simp⟩
   |ok b' s2=>
    simp only[] at hWe;subst hWe;have c3:=fun l hw=>WPost.oks hGlt (c3 l hw)
    have c4:=fun g hw=>dG g hw b' (args.drop ar) (by simp only[bA0];omega)
    obtain⟨⟨q1,q2,q3,q4,q5⟩,hqq⟩:∃z,aN b' (args.drop ar)=z:=⟨_,rfl⟩;rw[hqq] at c4⊢;obtain⟨x1,x2,x3,x4,x5⟩:=b';simp only[Tm.av,aH,List.map] at c3 c4;refine nv ?_;refine ND.Run.draw3 (pc:=[]) 7 13 14 [0,0,0,0,0,0,0,0,1,1,1,1,1,1,2,3,4,4,4] [0,0,0,0,0,0,0,0,0,0,0,0,0,1,2,3,0,0,4] [0,0,2,0,0,16,56,127,255,511,511,511,511,255,8447,25599,59391,126975,262143] [0,1,2,3,4,5,6,7,13,14,8,9,15,10,11,12,16,17,18] [0,0,0,0,0,0,0,0,1,1,1,1,1,2,1,3,4,4,4] [0,0,0,0,0,0,0,0,0,0,0,0,0,2,1,3,0,0,4] [0,0,2,0,0,16,56,127,255,511,511,511,511,16639,255,25599,59391,126975,262143] [0,1,3,4,2,5,6,7,14,13,8,9,15,10,11,12,16,17,18] [0,0,0,0,0,0,0,1,2,2,2,2,2,0,2,3,4,4,4] [0,0,0,0,0,0,0,1,0,0,0,0,0,0,2,3,0,0,4] [0,0,2,0,0,16,56,8319,8447,8703,8703,8703,8703,0,8447,25599,59391,126975,262143] [13,0,1,3,4,2,5,6,7,14,8,9,15,10,11,12,16,17,18] [0,0,0,0,0,0,0,2,3,3,3,3,3,0,1,3,4,4,4] [0,0,0,0,0,0,0,2,0,0,0,0,0,0,1,3,0,0,4] [0,0,2,0,0,16,56,24703,24831,25087,25087,25087,25087,0,8192,25599,59391,126975,262143] [13,14,0,1,3,4,2,5,6,7,8,9,15,10,11,12,16,17,18] [0,0,0,0,0,0,0,1,2,2,2,2,2,2,0,3,4,4,4] [0,0,0,0,0,0,0,1,0,0,0,0,0,2,0,3,0,0,4] [0,0,2,0,0,16,56,16511,16639,16895,16895,16895,16895,16639,0,25599,59391,126975,262143] [14,0,1,3,4,2,5,6,7,13,8,9,15,10,11,12,16,17,18] [0,0,0,0,0,0,0,2,3,3,3,3,3,1,0,3,4,4,4] [0,0,0,0,0,0,0,2,0,0,0,0,0,1,0,3,0,0,4] [0,0,2,0,0,16,56,24703,24831,25087,25087,25087,25087,16384,0,25599,59391,126975,262143] [14,13,0,1,3,4,2,5,6,7,8,9,15,10,11,12,16,17,18] aC aC aC aC aC aC aC aC ?_ ?_ ?_ ?_ ?_ ?_
    all_goals
     refine zm1 hla3 ?_;refine yz ?_;rintro v g ⟨⟨⟨w1,w2,w3,w4,w5⟩,rfl⟩,rfl⟩;refine y1q ?_;refine y9 ?_;refine mI ?_;refine zL (c2 _ (hGw.app aA)) ?_;refine aSk ?_;refine yy ?_;refine zm1 hla3 ?_;refine ND.DR.call rfl rfl rfl aA rfl rfl (c4 _ ((hGw.set aA).app aA)) ?_;refine zm ?_;refine y9 ?_;refine znx ?_;exact Fin.ret' (h0:=List.set G q (dU env s2)) aA aA (hGw.set aA) aE aE rfl (Weak.refl _) aA ⟨by simp[kZ,Tm.av],by rw[<-hG];simp⟩
open Go Go.AI
theorem sV (env:List Dc)(hg:Env.good env)(hf:aP env)(hA:EnvA env)(n0:Nat)(hW:aSp env n0)(t:Tm)(ht:pQ t.levels)(args:List Tm)(haa:∀a∈args,a.at_)(hl:args.length<=40960)
  (s:Int) (hs0:0<=s) (hs1:s<=20000) (hne:gD env (bM env n0) t.name t.levels args s≠ .out) (q:Nat) (h:Heap) (hh:WF h) (hq:h[q]?=some (dU env s)):
  ACalls Tryz.prog 237 [.ptr q 0,t.av, .p (.sl 5 (aL args))] h (WPost env q h kZ (gD env (bM env n0) t.name t.levels args s)):=by
 obtain⟨g1,g2,g3,g4,g5,hlt⟩:=idf hq
 by_cases hst:aCy env t.name t.levels
 ·have e:gD env (bM env n0) t.name t.levels args s= .ok none s:=by
   unfold gD;rcases hst with h1|h1|h1|h1|h1<;>simp[h1]
  rw[e];obtain⟨k,i,nm,ls,ks⟩:=t;exact(mK env hg hf.1 k i nm ls ks args q s h hh hq hst).mono fun o h' e=>⟨by rw[e.1];rfl,by rw[e.2];exact(dO hq).symm⟩
 have hu:usB env t.name t.levels=true:=by
  cases hb:usB env t.name t.levels with
  |true=>rfl
  |false=>exact absurd (.inl hb) hst
 obtain⟨j,d,h1,h2,h3,h4,h5,h6,h7,h8⟩:=iT hf hu;have hm:=aZ9 h1;unfold aCy at hst;simp only[not_or] at hst;obtain⟨n1,n2,n3,n4,n5⟩:=hst;obtain⟨W,hWe⟩:∃W,gD env (bM env n0) t.name t.levels args s=W:=⟨_,rfl⟩;rw[hWe] at hne⊢;unfold gD at hWe;rw[if_neg (by simp[hu])] at hWe;have hd:(env[(aK env t.name).1.at_.toNat]?).getD zDc=d:=by rw[h2,aZj,h1];rfl
 simp only[hd] at hWe;have c1:=fun(l:List (Option AO)) (hw:WF (h++l))=>xE env hg hf.1 t.kind t.index t.name t.levels t.kids q s (h++l) hw (g1 l)
 rw[hu] at c1;have hk:(aK env t.name).1.k=1\/(aK env t.name).1.k=5\/(aK env t.name).1.k=6:=aB
 have hc:∃f:Nat,((f=262/\(aK env t.name).1.k=1)\/(f=263/\(aK env t.name).1.k=5)\/(f=264/\(aK env t.name).1.k=6))/\∀l,WF (h++l)->ACalls Tryz.prog f [.ptr q 0,(aK env t.name).1.av,t.av, .p (.sl 5 (aL args))] (h++l) (WPost env q (h++l) kZ W):=by
  generalize aK env t.name=r at h2 h4 h5 h6 hWe hk;obtain⟨⟨a0,a1,a2,a3,ty⟩,e⟩:=r;simp only at h2 h4 h5 h6 hWe hk;subst h2;rcases hk with rfl|rfl|rfl
  ·refine⟨262, .inl ⟨rfl,rfl⟩,fun l hw=>?_⟩;rw[if_pos rfl] at hWe;have:=aB9 env 1 j a2 a3 ty d h1 (hA.va d hm (h4 rfl)) t ht args aB s aB aB q (h++l) hw (g1 l);unfold aGr at this
   rwa [hWe] at this
  ·refine⟨263, .inr (.inl ⟨rfl,rfl⟩),fun l hw=>?_⟩;rw[if_neg aD,if_pos rfl] at hWe;have e:aW6 env (bM env n0) d t.levels args s=W:=hWe;have:=uN env hg hf hA n0 hW 5 j a2 a3 ty d h1 (h5 rfl) t ht args haa hl s hs0 hs1 (by rw[e];exact hne) q (h++l) hw (g1 l)
   rwa [e] at this
  ·refine⟨264, .inr (.inr ⟨rfl,rfl⟩),fun l hw=>?_⟩;obtain⟨k4,i,f,hi,hfi⟩:=h6 rfl;subst hi;rw[if_neg aD,if_neg aD,if_pos rfl,aZj,hfi,aZb] at hWe;have:=aC0 env hg hf hA n0 hW 6 j i a3 ty d h1 k4 f hfi t ht args haa hl s hs0 hs1 (by rw[hWe];exact hne) q (h++l) hw (g1 l)
   rwa [hWe] at this
 obtain⟨F,hF,c2⟩:=hc;clear hWe h2 h3 h4 h5 h6 h7 h8 hd n1 n2 n3 n4 n5;generalize aK env t.name=r at c1 c2 hk hF;obtain⟨⟨a0,a1,a2,a3,⟨b0,b1,b2,b3,b4⟩⟩,e⟩:=r;obtain⟨k,i,nm,ls,ks⟩:=t;simp only[En.av,En.cells,aH,List.map,Tm.av,Tm.kind,Tm.index,Tm.name,Tm.levels,Tm.kids] at c1 c2;refine y1o ?_;simp only at hF;refine cW Tryz.func237 Tryz.ntmps237 ?_;refine zL (c1 _ (hh.app aA)) ?_;refine aSk ?_
 cases W with
 |out=>exact absurd rfl hne
 |fail s'=>
  have c2:=fun l hw=>WPost.fails hlt (c2 l hw)
  rcases hF with ⟨rfl,rfl⟩|⟨rfl,rfl⟩|⟨rfl,rfl⟩
  all_goals
   refine zn ?_;refine aUm ?_;refine Run.regPre 1 fun K J=>?_
   refine yd ?_;simp;refine zi ?_;clear J;refine ya ?_;refine Run.funcNil false rfl (by simp[aJ]) aUi (.inr ⟨⟨_,_,_,rfl⟩,rfl⟩) ?_;refine aUq ?_;refine Run.call rfl aF aA rfl (c2 _ (hh.app aA)) ?_ ?_
   ·rintro v h' ⟨hv,_⟩;cases hv
   rintro v h' ⟨hv,rfl⟩;simp only[AOut.panic.injEq] at hv;subst hv;exact y8l
 |ok o s'=>
  have c2:=fun l hw=>WPost.oks hlt (c2 l hw)
  obtain⟨⟨p1,p2,p3,p4,p5⟩,hz1⟩:∃z,o.getD zT=z:=⟨_,rfl⟩;simp only[kZ,hz1,Tm.av,aH,List.map] at c2;rcases hF with ⟨rfl,rfl⟩|⟨rfl,rfl⟩|⟨rfl,rfl⟩
  all_goals
   refine zn ?_;refine aUm ?_;refine Run.regPre 1 fun K J=>?_
   refine yd ?_;simp;refine zi ?_;clear J;refine ya ?_;refine Run.funcNil false rfl (by simp[aJ]) aUi (.inr ⟨⟨_,_,_,rfl⟩,rfl⟩) ?_;refine aUq ?_;refine zL (c2 _ (hh.app aA)) ?_;obtain⟨G,hG⟩:∃G,List.set h q (dU env s')=G:=⟨_,rfl⟩;have hGl:h.length=G.length:=by rw[<-hG];simp
   have hGw:WF G:=by rw[<-hG];exact hh.set aA
   have hGq:G[q]?=some (dU env s'):=by rw[<-hG];exact g3 _
   rw[hG];simp only[hGl];refine zox ?_;refine zF1 hGw ?_;exact⟨by simp[kZ,hz1,Tm.av],hG.symm⟩
end Go.Proofs.YtcfcolkbeelegaaGreat
