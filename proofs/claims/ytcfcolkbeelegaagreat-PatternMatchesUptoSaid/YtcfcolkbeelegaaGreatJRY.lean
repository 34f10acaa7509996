import Derived.Test.YtcfcolkbeelegaaGreatJA0
import Derived.Test.YtcfcolkbeelegaaGreatJRW
set_option maxRecDepth 8000
set_option maxHeartbeats 8000000
namespace Go.Proofs.YtcfcolkbeelegaaGreat
open Go Go.AI
structure Kt where
 st:Int
 nd:Int
 fo:Int
 lm:Int
 ov:Bool
abbrev ktB (c:Kt):Option AO:=some (.cells [iA c.st,iA c.nd,iA c.fo,iA c.lm,bA c.ov])
def Kt.over (c:Kt)(t:Tm)(e:Int):Bool:=(e !=0)||decide (c.lm<c.st)||decide (IntKind.i64.wrap (2*c.lm)<c.nd)||decide (IntKind.i64.wrap (40*c.lm)<c.fo)||decide ((2000:Int)<t.size)||decide ((95:Int)<t.depth)
def Kt.form (c:Kt)(t:Tm)(e:Int):Kt:=⟨c.st,c.nd,IntKind.i64.wrap (c.fo+t.size),c.lm,c.ov||Kt.over ⟨c.st,c.nd,IntKind.i64.wrap (c.fo+t.size),c.lm,c.ov⟩ t e⟩
def Kt.result (c:Kt)(t:Tm)(e:Int):Kt:=Kt.form ⟨IntKind.i64.wrap (c.st+1),IntKind.i64.wrap (c.nd+t.size),c.fo,c.lm,c.ov⟩ t e
theorem aE8 (c:Kt)(t:Tm)(e:Int)(ht:t.size<=1099511627776)(q:Nat)(h:Heap)(hh:WF h)(hq:h[q]?=some (ktB c)):
  ACalls Tryz.prog 239 [.ptr q 0,t.av,iA e] h fun o h'=>o= .ret (.tup [])/\h'=h.set q (ktB (c.form t e)):=by
 obtain⟨g1,g2,g3,g4,g5,hlt⟩:=idf hq;obtain⟨st,nd,fo,lm,ov⟩:=c;try simp only at g1 g2 g3 g4 g5 hq
 have c1:=fun g hw=>pB t.size t g (aYw _) ht hw
 have c2:=fun g hw=>oD t.size t g (aYw _) ht hw
 simp only[Kt.form,Kt.over];generalize t.size=z at c1 c2⊢;generalize t.depth=dp at c2⊢;obtain⟨f,hf⟩:∃f,IntKind.i64.wrap (fo+z)=f:=⟨_,rfl⟩;obtain⟨l2,hl2⟩:∃f,IntKind.i64.wrap (2*lm)=f:=⟨_,rfl⟩;obtain⟨l4,hl4⟩:∃f,IntKind.i64.wrap (40*lm)=f:=⟨_,rfl⟩;simp only[hf,hl2,hl4];have hwf:WF (h.set q (some (.cells [iA st,iA nd,iA f,iA lm,bA ov]))):=hh.set aA;obtain⟨k,i,n,ls,ks⟩:=t;simp only[Tm.av,aH,List.map] at c1 c2;refine ACalls.of_run Tryz.func239 rfl ?_;simp only[Tryz.ntmps239,aZ1,aZ2,Tm.av,aH,List.map];refine znr ?_;refine Run.draw [0,0,0,0,0,0,1,1,1,1] [0,0,0,0,0,0,0,0,0,1] [0,1,3,7,0,16,63,127,255,511] [4,5,0,1,2,3,6,7,8,9] aC aC ?_;refine zd ?_;refine y2e ?_;refine zd3 g1 g2 hf ?_;change Run _ _ _ _ _ _ _ _;refine nv ?_
 by_cases he:e≠0
 ·have he':(e !=(0:Int))=true:=by simpa using he
  refine nv ?_;refine Run.draw [0,0,0,0,0,0,0,0,0,0,0,0,0,0,0,0,0,0,0,0,0,0,0,0,0,0,0,0,0,0,0,0,0,0,0,0,0,0,0,0,1,1,1,1,1,2,2] [0,0,0,0,0,0,0,0,0,0,0,0,0,0,0,0,0,0,0,0,0,0,0,0,0,0,0,0,0,0,0,0,0,0,0,0,0,0,0,0,0,0,0,0,1,0,0] [0,1,3,7,15,31,63,7,135,391,903,2047,4095,8191,16383,32767,65535,131071,16383,278527,802815,1851391,3948543,8388607,16777215,33554431,67108863,134217727,268435455,536870911,67108863,1140850687,3288334335,7583301631,16173236223,34359738367,68719476735,137438953471,274877906943,549755813887,1099511627775,2199023255551,4398046511103,8796093022207,17592186044415,35184372088831,70368744177663] [0,1,2,3,4,5,6,7,8,9,10,11,12,13,14,15,16,17,18,19,20,21,22,23,24,25,26,27,28,29,30,31,32,33,34,35,36,37,38,39,40,41,42,43,44,45,46] aC aC ?_;refine zd1 he' ?_;change Run _ _ _ _ _ _ _ _;refine aFz g4 g5 ?_;refine Run.nil ?_;exact Fin.ret' (h0:=h.set q (some (.cells [iA st,iA nd,iA f,iA lm,bA true]))) aA aA (show WF (h.set q (some (.cells [iA st,iA nd,iA f,iA lm,bA true]))) from hh.set aA) rfl rfl rfl (Weak.refl _) rfl ⟨rfl,by simp[he']⟩
 have he':(e !=(0:Int))=false:=by simpa using he
 have he2:e=0:=by simpa using he
 by_cases h1:lm<st
 ·refine nv ?_;refine Run.draw [0,0,0,0,0,0,0,0,0,0,0,0,0,0,0,0,0,0,0,0,0,0,0,0,0,0,0,0,0,0,0,0,0,0,0,0,0,0,0,0,1,1,1,1,1,2,2] [0,0,0,0,0,0,0,0,0,0,0,0,0,0,0,0,0,0,0,0,0,0,0,0,0,0,0,0,0,0,0,0,0,0,0,0,0,0,0,0,0,0,0,0,1,0,0] [0,1,3,7,15,31,63,7,135,391,903,2047,4095,8191,16383,32767,65535,131071,16383,278527,802815,1851391,3948543,8388607,16777215,33554431,67108863,134217727,268435455,536870911,67108863,1140850687,3288334335,7583301631,16173236223,34359738367,68719476735,137438953471,274877906943,549755813887,1099511627775,2199023255551,4398046511103,8796093022207,17592186044415,35184372088831,70368744177663] [0,1,2,3,4,5,6,7,8,9,10,11,12,13,14,15,16,17,18,19,20,21,22,23,24,25,26,27,28,29,30,31,32,33,34,35,36,37,38,39,40,41,42,43,44,45,46] aC aC ?_;refine zd3 he2 h1 g4 ?_;change Run _ _ _ _ _ _ _ _;refine aFz g4 g5 ?_;refine Run.nil ?_;exact Fin.ret' (h0:=h.set q (some (.cells [iA st,iA nd,iA f,iA lm,bA true]))) aA aA (show WF (h.set q (some (.cells [iA st,iA nd,iA f,iA lm,bA true]))) from hh.set aA) rfl rfl rfl (Weak.refl _) rfl ⟨rfl,by simp[he2,h1]⟩
 have h1n:st<=lm:=aB
 by_cases h2:l2<nd
 ·refine nv ?_;refine Run.draw [0,0,0,0,0,0,0,0,0,0,0,0,0,0,0,0,0,0,0,0,0,0,0,0,0,0,0,0,0,0,0,0,0,0,0,0,0,0,0,0,1,1,1,1,1,2,2] [0,0,0,0,0,0,0,0,0,0,0,0,0,0,0,0,0,0,0,0,0,0,0,0,0,0,0,0,0,0,0,0,0,0,0,0,0,0,0,0,0,0,0,0,1,0,0] [0,1,3,7,15,31,63,7,135,391,903,2047,4095,8191,16383,32767,65535,131071,16383,278527,802815,1851391,3948543,8388607,16777215,33554431,67108863,134217727,268435455,536870911,67108863,1140850687,3288334335,7583301631,16173236223,34359738367,68719476735,137438953471,274877906943,549755813887,1099511627775,2199023255551,4398046511103,8796093022207,17592186044415,35184372088831,70368744177663] [0,1,2,3,4,5,6,7,8,9,10,11,12,13,14,15,16,17,18,19,20,21,22,23,24,25,26,27,28,29,30,31,32,33,34,35,36,37,38,39,40,41,42,43,44,45,46] aC aC ?_;refine zd5 he2 h1 h2 g4 hl2 ?_;change Run _ _ _ _ _ _ _ _;refine aFz g4 g5 ?_;refine Run.nil ?_;exact Fin.ret' (h0:=h.set q (some (.cells [iA st,iA nd,iA f,iA lm,bA true]))) aA aA (show WF (h.set q (some (.cells [iA st,iA nd,iA f,iA lm,bA true]))) from hh.set aA) rfl rfl rfl (Weak.refl _) rfl ⟨rfl,by simp[he2,h1,h2]⟩
 have h2n:nd<=l2:=aB
 by_cases h3:l4<f
 ·refine nv ?_;refine Run.draw [0,0,0,0,0,0,0,0,0,0,0,0,0,0,0,0,0,0,0,0,0,0,0,0,0,0,0,0,0,0,0,0,0,0,0,0,0,0,0,0,1,1,1,1,1,2,2] [0,0,0,0,0,0,0,0,0,0,0,0,0,0,0,0,0,0,0,0,0,0,0,0,0,0,0,0,0,0,0,0,0,0,0,0,0,0,0,0,0,0,0,0,1,0,0] [0,1,3,7,15,31,63,7,135,391,903,2047,4095,8191,16383,32767,65535,131071,16383,278527,802815,1851391,3948543,8388607,16777215,33554431,67108863,134217727,268435455,536870911,67108863,1140850687,3288334335,7583301631,16173236223,34359738367,68719476735,137438953471,274877906943,549755813887,1099511627775,2199023255551,4398046511103,8796093022207,17592186044415,35184372088831,70368744177663] [0,1,2,3,4,5,6,7,8,9,10,11,12,13,14,15,16,17,18,19,20,21,22,23,24,25,26,27,28,29,30,31,32,33,34,35,36,37,38,39,40,41,42,43,44,45,46] aC aC ?_;refine zd7 he2 h1 h2 h3 g4 hl2 hl4 ?_;change Run _ _ _ _ _ _ _ _;refine aFz g4 g5 ?_;refine Run.nil ?_;exact Fin.ret' (h0:=h.set q (some (.cells [iA st,iA nd,iA f,iA lm,bA true]))) aA aA (show WF (h.set q (some (.cells [iA st,iA nd,iA f,iA lm,bA true]))) from hh.set aA) rfl rfl rfl (Weak.refl _) rfl ⟨rfl,by simp[he2,h1,h2,h3]⟩
 have h3n:f<=l4:=aB
 by_cases h4:(2000:Int)<z
 ·refine nv ?_;refine Run.draw [0,0,0,0,0,0,0,0,0,0,0,0,0,0,0,0,0,0,0,0,0,0,0,0,0,0,0,0,0,0,0,0,0,0,0,0,0,0,0,0,1,1,1,1,1,2,2] [0,0,0,0,0,0,0,0,0,0,0,0,0,0,0,0,0,0,0,0,0,0,0,0,0,0,0,0,0,0,0,0,0,0,0,0,0,0,0,0,0,0,0,0,1,0,0] [0,1,3,7,15,31,63,7,135,391,903,2047,4095,8191,16383,32767,65535,131071,16383,278527,802815,1851391,3948543,8388607,16777215,33554431,67108863,134217727,268435455,536870911,67108863,1140850687,3288334335,7583301631,16173236223,34359738367,68719476735,137438953471,274877906943,549755813887,1099511627775,2199023255551,4398046511103,8796093022207,17592186044415,35184372088831,70368744177663] [0,1,2,3,4,5,6,7,8,9,10,11,12,13,14,15,16,17,18,19,20,21,22,23,24,25,26,27,28,29,30,31,32,33,34,35,36,37,38,39,40,41,42,43,44,45,46] aC aC ?_;refine zd7 he2 h1 h2 h3 g4 hl2 hl4 ?_;refine DR.call rfl rfl rfl aA rfl (c1 _ (hwf.app aA)) ?_;refine zd1 h4 ?_;change Run _ _ _ _ _ _ _ _;refine aFz g4 g5 ?_;refine Run.nil ?_;exact Fin.ret' (h0:=h.set q (some (.cells [iA st,iA nd,iA f,iA lm,bA true]))) aA aA (show WF (h.set q (some (.cells [iA st,iA nd,iA f,iA lm,bA true]))) from hh.set aA) rfl rfl rfl (Weak.refl _) rfl ⟨rfl,by simp[he2,h1,h2,h3,h4]⟩
 have h4n:z<=(2000:Int):=aB
 by_cases h5:(95:Int)<dp
 ·refine nv ?_;refine Run.draw [0,0,0,0,0,0,0,0,0,0,0,0,0,0,0,0,0,0,0,0,0,0,0,0,0,0,0,0,0,0,0,0,0,0,0,0,0,0,0,0,1,1,1,1,1,2,2] [0,0,0,0,0,0,0,0,0,0,0,0,0,0,0,0,0,0,0,0,0,0,0,0,0,0,0,0,0,0,0,0,0,0,0,0,0,0,0,0,0,0,0,0,1,0,0] [0,1,3,7,15,31,63,7,135,391,903,2047,4095,8191,16383,32767,65535,131071,16383,278527,802815,1851391,3948543,8388607,16777215,33554431,67108863,134217727,268435455,536870911,67108863,1140850687,3288334335,7583301631,16173236223,34359738367,68719476735,137438953471,274877906943,549755813887,1099511627775,2199023255551,4398046511103,8796093022207,17592186044415,35184372088831,70368744177663] [0,1,2,3,4,5,6,7,8,9,10,11,12,13,14,15,16,17,18,19,20,21,22,23,24,25,26,27,28,29,30,31,32,33,34,35,36,37,38,39,40,41,42,43,44,45,46] aC aC ?_;refine zd7 he2 h1 h2 h3 g4 hl2 hl4 ?_;refine DR.call rfl rfl rfl aA rfl (c1 _ (hwf.app aA)) ?_;refine zd1 h4 ?_;refine DR.call rfl rfl rfl aA rfl (c2 _ (hwf.app aA)) ?_;refine zd1 h5 ?_;change Run _ _ _ _ _ _ _ _;refine aFz g4 g5 ?_;refine Run.nil ?_;exact Fin.ret' (h0:=h.set q (some (.cells [iA st,iA nd,iA f,iA lm,bA true]))) aA aA (show WF (h.set q (some (.cells [iA st,iA nd,iA f,iA lm,bA true]))) from hh.set aA) rfl rfl rfl (Weak.refl _) rfl ⟨rfl,by simp[he2,h1,h2,h3,h4,h5]⟩
 have h5n:dp<=(95:Int):=aB;refine nv ?_;refine Run.draw [0,0,0,0,0,0,0,0,0,0,0,0,0,0,0,0,0,0,0,0,0,0,0,0,0,0,0,0,0,0,0,0,0,0,0,0,0,0,0,0,1,1,1,1,1,2,2] [0,0,0,0,0,0,0,0,0,0,0,0,0,0,0,0,0,0,0,0,0,0,0,0,0,0,0,0,0,0,0,0,0,0,0,0,0,0,0,0,0,0,0,0,1,0,0] [0,1,3,7,15,31,63,7,135,391,903,2047,4095,8191,16383,32767,65535,131071,16383,278527,802815,1851391,3948543,8388607,16777215,33554431,67108863,134217727,268435455,536870911,67108863,1140850687,3288334335,7583301631,16173236223,34359738367,68719476735,137438953471,274877906943,549755813887,1099511627775,2199023255551,4398046511103,8796093022207,17592186044415,35184372088831,70368744177663] [0,1,2,3,4,5,6,7,8,9,10,11,12,13,14,15,16,17,18,19,20,21,22,23,24,25,26,27,28,29,30,31,32,33,34,35,36,37,38,39,40,41,42,43,44,45,46] aC aC ?_;refine zd7 he2 h1 h2 h3 g4 hl2 hl4 ?_;refine DR.call rfl rfl rfl aA rfl (c1 _ (hwf.app aA)) ?_;refine zd1 h4 ?_;refine DR.call rfl rfl rfl aA rfl (c2 _ (hwf.app aA)) ?_;refine zd1 h5 ?_;change Run _ _ _ _ _ _ _ _;refine znf ?_;refine Run.nil ?_;exact Fin.ret' (h0:=h.set q (some (.cells [iA st,iA nd,iA f,iA lm,bA ov]))) aA aA hwf rfl rfl rfl (Weak.refl _) rfl ⟨rfl,by simp[he2,h1,h2,h3,h4,h5]⟩
theorem eM (c:Kt)(t:Tm)(e:Int)(ht:t.size<=1099511627776)(q:Nat)(h:Heap)(hh:WF h)(hq:h[q]?=some (ktB c)):
  ACalls Tryz.prog 215 [.ptr q 0,t.av,iA e] h fun o h'=>o= .ret t.av/\h'=h.set q (ktB (c.result t e)):=by
 obtain⟨g1,g2,g3,g4,g5,hlt⟩:=idf hq;obtain⟨st,nd,fo,lm,ov⟩:=c;try simp only at g1 g2 g3 g4 g5 hq
 have c1:=fun g hw=>pB t.size t g (aYw _) ht hw
 simp only[Kt.result];obtain⟨s1,hs1⟩:∃f,IntKind.i64.wrap (st+1)=f:=⟨_,rfl⟩;obtain⟨n1,hn1⟩:∃f,IntKind.i64.wrap (nd+t.size)=f:=⟨_,rfl⟩;simp only[hs1,hn1];have c3:=fun(l:List (Option AO)) (hw:WF (h.set q (ktB ⟨s1,n1,fo,lm,ov⟩)++l))=>aE8 ⟨s1,n1,fo,lm,ov⟩ t e ht q (h.set q (ktB ⟨s1,n1,fo,lm,ov⟩)++l) hw (g4 l _)
 simp only[g5] at c3;generalize Kt.form ⟨s1,n1,fo,lm,ov⟩ t e=c' at c3⊢;obtain⟨s2,n2,f2,l2,o2⟩:=c';try simp only at c3⊢
 generalize t.size=z at c1 hn1;obtain⟨k,i,n,ls,ks⟩:=t;simp only[Tm.av,aH,List.map] at c1 c3;refine ACalls.of_run Tryz.func215 rfl ?_;simp only[Tryz.ntmps215,aZ1,aZ2,Tm.av,aH,List.map];refine znr ?_;refine zr3 g1 g2 hs1 ?_;refine Run.draw [0,0,0,0,0,0,1,1,1,1] [0,0,0,0,0,0,0,0,0,1] [0,1,3,7,0,16,63,127,255,511] [4,5,0,1,2,3,6,7,8,9] aC aC ?_;refine zd ?_;refine DR.call rfl rfl rfl aA rfl (c1 _ ((hh.set aA).app aA)) ?_;refine zd3 g4 g5 hn1 ?_;change Run _ _ _ _ _ _ _ _;refine znr ?_;refine zL (c3 _ ((hh.set aA).app aA)) ?_;refine aWs ?_;exact Fin.ret' (h0:=h.set q (some (.cells [iA s2,iA n2,iA f2,iA l2,bA o2]))) aA aA (show WF (h.set q (some (.cells [iA s2,iA n2,iA f2,iA l2,bA o2]))) from hh.set aA) rfl aE rfl (Weak.refl _) aA ⟨by simp,rfl⟩
open Go Go.AI
theorem aIp (h:Heap)(hh:WF h)(d:Dc)(hd:d.good)(h0:0<=d.fx)(h1:d.fx<=1048576):AC 266 [d.av] h (iA (ixZ d)):=by
 have c1:=fun g hw=>aAh g hw d.ty hd.ty.1
 have h2:=(qM d.ty hd.ty.2.2 hd.ty.1).2.2.2;have h3:=hd.ty.1;obtain⟨z,hz⟩:∃z,ixZ d=z:=⟨_,rfl⟩;rw[hz];unfold ixZ at hz;obtain⟨kk,nm,pr,⟨k1,i1,n1,l1,s1⟩,⟨k2,i2,n2,l2,s2⟩,fx,cs,rp,⟨k3,i3,n3,l3,s3⟩,rr,fs⟩:=d;simp only at c1 h0 h1 h2 h3 hz;generalize bY (Tm.mk k1 i1 n1 l1 s1)=r at c1 h2 hz;obtain⟨tel,⟨u1,u2,u3,u4,u5⟩⟩:=r;simp only at c1 h2 hz;simp only[Tm.av,aH,List.map] at c1;refine y1a ?_;refine cW Tryz.func266 Tryz.ntmps266 ?_;exact y3r
theorem uA (h:Heap)(hh:WF h)(d:Dc)(hd:d.good)(h0:0<=d.fx)(h1:d.fx<=1048576):AC 241 [d.av] h (iA (kF d)):=by
 have c1:=fun g hw=>aIp g hw d hd h0 h1
 have h4:=hd.csl;have hb:=jJ hd h0 h1
 have hix:0<=ixZ d/\ixZ d<=1048576:=by
  have h2:=(qM d.ty hd.ty.2.2 hd.ty.1).2.2.2;have h3:=hd.ty.1;unfold ixZ;split<;>omega
 have hz:kF d=d.fx+1+d.cs.length+ixZ d:=rfl;rw[hz];generalize ixZ d=ix at c1 hix⊢;have h13:∀q,d.row[13]'q=iA d.fx:=fun q=>by have:=d.row_fx;rw[aYu q] at this;exact bAf this
 have h14:∀q,d.row[14]'q= .p (.sl 6 (d.cs.map Ct.cells)):=fun q=>by have:=d.row_cs;rw[aYu q] at this;exact bAf this
 rw[Dc.av_row] at c1⊢;refine zER Tryz.func241 Tryz.ntmps241 ?_;refine ND.Run.drawP (pc:=[8]) [0,0,0,0,0,0,0,0,0,0,0] [0,0,0,0,0,0,0,0,0,0,0] [0,1,3,0,8,24,63,0,128,511,1023] [0,1,2,3,4,5,6,7,8,9,10] aC aC ?_;refine zm2 h13 h14 ?_;refine ND.DR.pcall rfl rfl rfl aA rfl rfl (fun g hg=>(c1) g ?_) ?_
 ·exact y2v
 refine zm ?_;change Run _ _ _ _ _ _ _ _;refine znx ?_;exact y2s
theorem gX (env:List Dc)(hg:Env.good env)(hn:Env.short env)(k i:Int)(nm:List UInt8)(ls:List Lv)(ks:List Tm)(h:Heap)(hh:WF h):
  AC 240 [bW env,(Tm.mk k i nm ls ks).av] h (.tup [(aK env nm).1.av,bA (usB env nm ls)]):=by
 have c1:=fun g hw=>iG g hw env nm hg hn
 unfold usB;generalize aK env nm=r at c1⊢;obtain⟨⟨a0,a1,a2,a3,⟨b0,b1,b2,b3,b4⟩⟩,e⟩:=r;simp only[En.av,En.cells,aH,List.map] at c1;refine ACalls.of_run Tryz.func240 rfl ?_;simp only[Tryz.ntmps240,aZ1,aZ2,Tm.av,aH,List.map];refine rS ?_;refine zL (c1 _ (hh.app aA)) ?_;refine zo ?_;exact y3s
theorem aJg (h:Heap)(hh:WF h)(l:List Tm)(hl:l.length<=1048576):AC 244 [.p (.sl 5 (aL l))] h (.p (.sl 5 (aL l.reverse))):=by
 refine cW Tryz.func244 Tryz.ntmps244 ?_;refine Run.tok 3 5 aA ?_;refine cI ?_;refine Run.loopS [0] (fun m:Nat=>m<=l.length) (fun m=>m) (fun m=>[(3, .own h.length 5 (aL (l.drop m).reverse)),(4,iA ((m:Int)-1))]) (fun m=>h++[some (.tok (l.length-m) 5)]) l.length aA ?_ aA ?_
 ·simp[aL];exact zK
 intro m hm IH;refine cI ?_
 cases m with
 |zero=>
  refine cY ?_;exact Fin.ret' (h0:=h) (xs:=[.own h.length 5 (aL l.reverse)]) aA rfl hh rfl aA rfl (Weak.own _ _ _) aA ⟨rfl,rfl⟩
 |succ m=>
  have hlt:m<l.length:=aB;have hg:l[m]?=some l[m]:=aYu hlt;have htk:(l.drop m).reverse=(l.drop (m+1)).reverse++[l[m]]:=by rw[bAu hlt,List.reverse_cons]
  generalize l[m]=u at hg htk;have hlen:(l.drop (m+1)).reverse.length=l.length-(m+1):=aA;obtain⟨u0,u1,u2,u3,u4⟩:=u;have e1:((m+1:Nat):Int)-1=m:=aB;have hb1:(l.length-(m+1)+1)*80<=140737488355328:=aB;have hb2:l.length-(m+1)+1<=9223372036854775807:=aB;have e2:l.length-(m+1)+1=l.length-m:=aB;have e3:(1:Int)<=(m:Int)+1:=aB;refine dF e3 ?_;refine zr4 hg hb1 hb2 hlen ?_;refine zr ?_;refine IH m _ _ aB aB ?_ ?_
  ·rw[htk,eX];exact zS
  ·simp[e2]
def brW (n:List UInt8):List Br->Tr
 |[]=>zTr
 | .mk c _ t::bs=>if c=n then t else brW n bs
theorem aRt {n:List UInt8} :∀ {bs:List Br} {j:Nat} {b:Br},bs[j]?=some b->brN b=n->(∀x∈bs.take j,brN x≠n)->brW n bs=brT b
 |[],_,_,h,_,_=>by simp at h
 | .mk c a t::bs,0,b,h,hn,_=>by
  simp at h;subst h;simp only[brN] at hn;rw[brW,if_pos hn]
  rfl
 | .mk c a t::bs,j+1,b,h,hn,hx=>by
  have h0:=hx (.mk c a t) aA;simp only[brN] at h0;simp only[brW,if_neg h0];exact aRt (by simpa using h) hn fun x hm=>hx x (by simp[hm])
theorem aGg {n:List UInt8} :∀ {bs:List Br},(∀x∈bs,brN x≠n)->brW n bs=zTr
 |[],_=>rfl
 | .mk c a t::bs,h=>by
  have h0:=h (.mk c a t) aA;simp only[brN] at h0;simp only[brW,if_neg h0];exact aGg fun x hm=>h x (by simp[hm])
theorem aGh {n:List UInt8} :∀ {bs:List Br} {t:Tr},brZ n bs=some t->brW n bs=t
 |[],_,h=>by simp[brZ] at h
 | .mk c a t::bs,u,h=>by
  simp only[brZ] at h;simp only[brW];split at h
  ·rename_i hc;rw[if_pos hc];split at h
   ·cases h
   ·exact bAf h
  ·rename_i hc;rw[if_neg hc];exact aGh h
theorem xW (h:Heap)(hh:WF h)(t:Tr)(n:List UInt8)(hl:(trB t).length<=1048576):AC 267 [t.av, .p (sP n)] h (.tup [(brW n (trB t)).av,bA (brZ n (trB t)).isSome]):=by
 obtain⟨k,⟨m1,m2,m3,m4,m5⟩,v,bs⟩:=t;simp only[trB] at hl⊢;have hzu:AV.under h.length (.tup [zTr.av,bA false])=true:=by simp[zTr,zT,Tr.av,Tr.cells]
 have wk:Weak (.tup [.agg aWn,bA false]) (.tup [zTr.av,bA false]):=Weak.tup (WeakL.cons aHy (WeakL.refl _));simp only[Tr.av,Tr.cells,aH,List.map,aYy,aZ3];rw[dX];refine cW Tryz.func267 Tryz.ntmps267 ?_;refine Run.loopS [1,2,4] (fun j:Nat=>j<=bs.length/\∀x∈bs.take j,brN x≠n) (fun j=>bs.length-j) (fun j=>[(6,iA j)]) (fun _=>_) 0 ⟨by simp,by simp⟩ ?_ rfl ?_
 ·exact zS
 rintro j ⟨hj,hall⟩ IH;refine cI ?_
 by_cases hjl:j<bs.length
 ·have hgj:bs[j]?=some bs[j]:=aYu hjl;have htk:bs.take (j+1)=bs.take j++[bs[j]]:=aZ5 hjl;have hz:=fun hn=>aKu (n:=n) hgj hn hall
  have hzw:=fun hn=>aRt (n:=n) hgj hn hall
  generalize hb:bs[j]=b at hgj htk hz hzw;have hgj':∀q:j<bs.length,bs[j]'q=b:=fun _=>hb
  obtain⟨c,a,⟨k2,⟨n1,n2,n3,n4,n5⟩,v2,bs2⟩⟩:=b;simp only[brN,brA,brT] at hz hzw;refine dF hjl ?_;refine aRg hgj' hjl ?_
  by_cases hc:c=n
  ·subst hc;have hz:=hz rfl;have hzw:=hzw rfl;refine znt ?_;refine Run.draw [0,0,0,0,0,0,0,0,0,0,0,0,0,0,1] [0,0,0,0,0,0,0,0,0,0,0,0,0,0,0] [0,1,0,7,15,31,0,64,0,448,960,1984,4032,63,16383] [0,1,2,3,4,5,13,6,7,8,9,10,11,12,14] aC aC ?_;refine aY4 hgj' hjl ?_;change Run _ _ _ _ _ _ _ _;refine znx ?_
   cases a with
   |true=>
    have hz:brZ c bs=none:=by simpa using hz
    rw[hz,hzw];exact y5o
   |false=>
    have hz:brZ c bs=some (.mk k2 (.mk n1 n2 n3 n4 n5) v2 bs2):=by simpa using hz
    rw[hz,hzw];exact y5o
  ·refine dJ hc ?_;refine IH (j+1) _ _ ⟨by omega,?_⟩ aB ?_ rfl
   ·rw[htk];intro x hx;rcases aZn.1 hx with hx|hx
    ·exact hall x hx
    ·simp at hx;subst hx;exact hc
   ·exact zS
 ·have hje:bs.length<=j:=aB;rw[aZ6 hje] at hall;have hz:=xV hall;rw[hz,aGg hall];refine aHz hjl ?_;exact Fin.ret' (h0:=h) (xs:=[.agg aWn,bA false]) aA rfl hh rfl aA rfl wk hzu ⟨by simp[Tr.av],rfl⟩
end Go.Proofs.YtcfcolkbeelegaaGreat
