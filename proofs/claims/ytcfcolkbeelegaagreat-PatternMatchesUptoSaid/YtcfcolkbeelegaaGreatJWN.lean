import Derived.Test.YtcfcolkbeelegaaGreatJA0
import Derived.Test.YtcfcolkbeelegaaGreatJWH
import Derived.Test.YtcfcolkbeelegaaGreatJRW
import Derived.Test.YtcfcolkbeelegaaGreatJFZ
import Derived.Test.YtcfcolkbeelegaaGreatJFR
import Derived.Test.YtcfcolkbeelegaaGreatJFLP
import Derived.Test.YtcfcolkbeelegaaGreatJG1
set_option maxRecDepth 8000
set_option maxHeartbeats 32000000
namespace Go.Proofs.YtcfcolkbeelegaaGreat
open Go Go.AI
set_option linter.unusedSectionVars false
theorem MOk.app {env:List Dc} {n0 q M:Nat} {s:MS} {c:Kt} {H:Heap} (h:MOk env n0 q M s c H) {l:List (Option AO)} (hw:WF (H++l)):MOk env n0 q M s c (H++l):=by
 obtain⟨h1,h2,h3,h4,vA,h5,h6⟩:=h;have hap:∀ {i:Nat} {o:Option AO},H[i]?=some o->(H++l)[i]?=some o:=fun {i o} h=>by rw[aZ8 (aYv.1 h).1];exact h
 refine⟨hw,hap h2,h3,h4,vA,hap h5,?_⟩;rcases h6 with h6|⟨id,cap,e1,e2,e3⟩
 ·exact .inl h6
 ·exact .inr ⟨id,cap,e1,hap e2,e3⟩
theorem MOk.setQ {env:List Dc} {n0 q M:Nat} {s:MS} {c:Kt} {H:Heap} (h:MOk env n0 q M s c H)(c':Kt):MOk env n0 q M s c' (H.set q (ktB c')):=by
 obtain⟨h1,h2,h3,h4,vA,h5,h6⟩:=h;have hql:=(aYv.1 h2).1;refine⟨h1.set aA,by simp[hql],h3,h4,vA,by rw[aZk aB];exact h5,?_⟩;exact y6n
theorem MOk.flag {env:List Dc} {n0 q M:Nat} {s:MS} {c:Kt} {H:Heap} (h:MOk env n0 q M s c H) {vA:AV} (hB:H[M]?=some (some (.cells [bW env, .ptr q 0,vA,bA s.fl,bA s.sk])))(fl sk:Bool):MOk env n0 q M ⟨s.vals,fl,sk⟩ c (H.set M (some (.cells [bW env, .ptr q 0,vA,bA fl,bA sk]))):=by
 obtain⟨h1,h2,h3,h4,vA2,h5,h6⟩:=h;rw[hB] at h5;simp only[aYz,AO.cells.injEq,aZy,and_true,true_and] at h5;subst h5;have hMl:=(aYv.1 hB).1;have hql:=(aYv.1 h2).1;refine⟨h1.set ?_,by rw[aZk aB];exact h2,h3,h4,vA,by rw[List.getElem?_set_self hMl],?_⟩
 ·rcases h6 with ⟨_,rfl⟩|⟨id,cap,rfl,e2,_⟩
  ·simp;omega
  ·have:=(aYv.1 e2).1;simp;omega
 ·exact y6n
section
variable {env:List Dc} (hg:Env.good env) (hf:aP env)
include hg hf
mutual
theorem aHp:∀(p:Pt)(t:Tm)(s:MS)(c:Kt),t.at_->K2 c->K2 (rmP env p t s c).2/\(rmP env p t s c).1.vals.length<=s.vals.length+p.size
 | .mk k n qs,t,s,c,ht,hc=>by
  simp only[rmP,Pt.size];split
  ·exact⟨hc,by simp only[aZ4,bAx];omega⟩
  split
  ·exact⟨hc,by simp only;omega⟩
  split
  rotate_left
  ·exact⟨hc,by simp only;omega⟩
  obtain⟨h1,h2⟩:=aA3 hg hf (InQ.of_at ht hc) hc;split
  ·exact⟨h1,by simp only;omega⟩
  split
  ·exact⟨h1,by simp only;omega⟩
  ·rename_i co hco;split
   ·exact⟨h1,by simp only;omega⟩
   ·obtain⟨h3,h4⟩:=uR qs co.as_ s (wQ env t c).2 (eE hg hf (kS hg hf) h2.1 hco).1 h1;exact⟨h3,by omega⟩
theorem uR:∀(l:List Pt)(ts:List Tm)(s:MS)(c:Kt),(∀t∈ts,t.at_)->K2 c->K2 (kO env l ts s c).2/\(kO env l ts s c).1.vals.length<=s.vals.length+Pt.sizes l
 |[],ts,s,c,_,hc=>by simp only[kO,Pt.sizes];exact⟨hc,by omega⟩
 |_::_,[],s,c,_,hc=>by simp only[kO,Pt.sizes];exact⟨hc,by omega⟩
 |p::ps,t::ts,s,c,ht,hc=>by
  simp only[kO,Pt.sizes];split
  ·exact⟨hc,by simp only;omega⟩
  ·obtain⟨h1,h2⟩:=aHp p t s c (ht t aA) hc;obtain⟨h3,h4⟩:=uR ps ts (rmP env p t s c).1 (rmP env p t s c).2 (fun x hx=>ht x (by simp[hx])) h1;exact⟨h3,by omega⟩
end
theorem aN9 (k:Int)(n:List UInt8)(qs:List Pt)(t:Tm)(ht:t.at_)(s:MS)(hvl:s.vals.length+Pt.sizes qs<=4000000)(hqs:Pt.sizes qs<=1048576)(c:Kt)(hc:K2 c)(n0 q M:Nat)
  (ih:∀(ts:List Tm) (s:MS) (c:Kt) (H:Heap),(∀t∈ts,t.at_)->qs.length<=ts.length->s.vals.length+Pt.sizes qs<=4000000->K2 c->MOk env n0 q M s c H->n0<=H.length->ACalls Tryz.prog 73 [.ptr M 0, .p (.sl 3 (cC qs)), .p (.sl 5 (aL ts))] H (aKf env n0 q M H (kO env qs ts s c)))
  (H:Heap) (hM:MOk env n0 q M s c H) (hn0:n0<=H.length):
  ACalls Tryz.prog 126 [.ptr M 0,(Pt.mk k n qs).av,t.av] H (aKf env n0 q M H (rmP env (.mk k n qs) t s c)):=by
 by_cases k0:k=0
 ·subst k0;rw[show rmP env (.mk 0 n qs) t s c=(⟨s.vals++[t],s.fl,s.sk⟩,c) by simp[rmP]];exact aNa env n qs t s aB c n0 q M H hM hn0
 have hM0:=hM;obtain⟨hh,hq,hqn,hnM,vA,hMB,hv⟩:=hM;obtain⟨gM1,gM2,gM3,gM4,gM5,hMl⟩:=idf hMB;obtain⟨gq1,gq2,gq3,gq4,gq5,hql⟩:=idf hq;have hflag:=fun fl sk=>hM0.flag hMB fl sk
 have m0:(k==(0:Int))=false:=by simpa using k0
 obtain⟨R,hR⟩:∃R,rmP env (.mk k n qs) t s c=R:=⟨_,rfl⟩;rw[hR];simp only[rmP,if_neg k0] at hR
 by_cases k3:k=3
 ·subst k3;rw[if_pos rfl] at hR;subst hR;obtain⟨t0,t1,t2,t3,t4⟩:=t;refine y24 ?_;refine zE Tryz.func126 Tryz.ntmps126 ?_;refine iQ ?_;refine yw ?_;refine Go.AI.ct aA (nv ?_);refine zr2 gM1 gM2 ?_;refine Run.nil ?_;exact Fin.ret' (h0:=List.set H M (some (.cells [bW env, .ptr q 0,vA,bA true,bA s.sk]))) aA aA (hflag true s.sk).wf rfl rfl rfl (Weak.refl _) rfl ⟨rfl,hflag true s.sk,Fm.set (.inl hnM) hn0 _⟩
 have m3:(k==(3:Int))=false:=by simpa using k3
 rw[if_neg k3] at hR
 by_cases k1:k=1
 rotate_left
 ·have m1:(k==(1:Int))=false:=by simpa using k1
  rw[if_neg k1] at hR;subst hR;obtain⟨t0,t1,t2,t3,t4⟩:=t;refine y24 ?_;refine cW Tryz.func126 Tryz.ntmps126 ?_;refine zr1 m0 ?_;refine zf ?_;refine zr1 m3 ?_;refine zf ?_;refine zr1 m1 ?_;refine zf ?_;refine Run.nil ?_;refine zF2 hh ?_;exact⟨rfl,hM0,aYw _,fun _ _ _=>rfl⟩
 subst k1;rw[if_pos rfl] at hR;obtain⟨hw1,hw2⟩:=aA3 hg hf (InQ.of_at ht hc) hc;have cw:=fun(l:List (Option AO)) (hw:WF (H++l))=>aWh hg hf (InQ.of_at ht hc) hc q (H++l) hw (gq1 l)
 simp only[gq2] at cw;have hcx:=fun co=>eE (co:=co) hg hf (kS hg hf) hw2.1
 have hci:=fun co=>aE1 (m:=(wQ env t c).1) (co:=co) hf
 have hmal:(aG (wQ env t c).1).2.length<=1048576:=by have:=hw2.2;unfold jC at this;omega
 have c2:=fun g hw=>nJ g hw env (wQ env t c).1 hg hf hmal
 generalize wQ env t c=mr at hR cw hw1 hcx hci c2;obtain⟨m,c1⟩:=mr;simp only at hR cw hw1 hcx hci c2;generalize hU env m=oc at hR hcx hci c2;obtain⟨t0,t1,t2,t3,t4⟩:=t;obtain⟨m1,m2,m3,m4,m5⟩:=m;obtain⟨st,nd,fo,lm,ov⟩:=c1;simp only[Tm.av,aH,List.map,Dc.av_row] at cw c2;refine y24 ?_;have hq1:=hM0.setQ ⟨st,nd,fo,lm,ov⟩;have hMB1:(List.set H q (some (.cells [iA st,iA nd,iA fo,iA lm,bA ov])))[M]?=some (some (.cells [bW env, .ptr q 0,vA,bA s.fl,bA s.sk])):=by rw[aZk aB];exact hMB
 have hq1':(List.set H q (some (.cells [iA st,iA nd,iA fo,iA lm,bA ov])))[q]?=some (some (.cells [iA st,iA nd,iA fo,iA lm,bA ov])):=gq3 _;have hFm1:Fm n0 q H (List.set H q (some (.cells [iA st,iA nd,iA fo,iA lm,bA ov]))):=Fm.set (.inr rfl) hn0 _;obtain⟨fM1,fM2,fM3,fM4,fM5,_⟩:=idf hMB1;obtain⟨fq1,fq2,fq3,fq4,fq5,_⟩:=idf hq1';have hflag1:=fun fl sk=>hq1.flag hMB1 fl sk
 have hH1w:=hq1.wf;have hh:=hH1w;refine zE Tryz.func126 Tryz.ntmps126 ?_;refine iQ ?_;refine yw ?_;refine yw ?_;refine Go.AI.ct aA (nv ?_);refine ND.Run.draw2 (pc:=[14]) 13 20 [0,0,0,0,0,0,0,0,0,0,0,0,0,0,1,1,1,1,1,1,1,2,3,3,3] [0,0,0,0,0,0,0,0,0,0,0,0,0,0,0,0,0,0,0,0,1,2,0,0,0] [0,1,3,7,0,16,48,112,0,0,512,1536,3584,8176,16383,32767,65535,65535,65535,65535,16368,1179647,3407871,7864319,16777215] [4,5,6,7,8,9,10,11,12,13,20,0,1,2,3,14,15,16,21,17,18,19,22,23,24] [0,0,0,0,0,0,0,0,0,0,0,0,0,1,2,2,2,2,2,2,0,2,3,3,3] [0,0,0,0,0,0,0,0,0,0,0,0,0,1,0,0,0,0,0,0,0,2,0,0,0] [0,1,3,7,0,16,48,112,0,0,512,1536,3584,1056752,1064959,1081343,1114111,1114111,1114111,1114111,0,1179647,3407871,7864319,16777215] [20,4,8,9,5,10,6,11,7,12,13,0,1,2,3,14,15,16,21,17,18,19,22,23,24] aC aC aC aC ?_ ?_
 all_goals
  refine zm1 gM1 ?_;refine ND.DR.call rfl rfl rfl aA rfl rfl (cw _ (hM0.wf.app aA)) ?_;refine zm2 gM1 fM1 ?_;refine ND.DR.pcall rfl rfl rfl aA rfl rfl (fun g hg=>(c2) g ?_) ?_
  ·exact y2v
  refine aWq ?_;refine y9 ?_;refine nv ?_
  cases oc with
  |none=>
   simp only[ite_self] at hR;subst hR;cases ov
   all_goals
    refine zn ?_;refine aUp fM1 fq1 ?_;refine Go.AI.ct aA (nv ?_);refine zr2 fM1 fM2 ?_;refine zx ?_;exact Fin.retM (h0:=List.set (List.set H q (ktB _)) M (some (.cells [bW env, .ptr q 0,vA,bA s.fl,bA true]))) aA aA (hflag1 s.fl true).wf rfl rfl rfl (Weak.refl _) rfl ⟨rfl,hflag1 s.fl true,hFm1.trans (Fm.set (.inl hnM) (by simpa using hn0) _)⟩
  |some co=>
   cases ov with
   |true=>
    simp only[if_true] at hR;subst hR;refine zn ?_;refine aUp fM1 fq1 ?_;refine Go.AI.ct aA (nv ?_);refine zr2 fM1 fM2 ?_;refine zx ?_;exact Fin.retM (h0:=List.set (List.set H q (ktB ⟨st,nd,fo,lm,true⟩)) M (some (.cells [bW env, .ptr q 0,vA,bA s.fl,bA true]))) aA aA (hflag1 s.fl true).wf rfl rfl rfl (Weak.refl _) rfl ⟨rfl,hflag1 s.fl true,hFm1.trans (Fm.set (.inl hnM) (by simpa using hn0) _)⟩
   |false=>
    simp only[aZd,if_false] at hR;obtain⟨hca,hcl⟩:=hcx co rfl;obtain⟨hcd,hck,hcil⟩:=hci co rfl;refine zn ?_;refine aUp fM1 fq1 ?_;refine zf ?_;have hgc:co.d.cs[co.i]?=some co.d.cs[co.i]:=aYu hcil;simp only[hgc,bA1,aZb] at hR;generalize hce:co.d.cs[co.i]=cc at hgc hR;have h14:∀q,co.d.row[14]'q= .p (.sl 6 (co.d.cs.map Ct.cells)):=fun q=>by have:=co.d.row_cs;rw[aYu q] at this;exact bAf this
    obtain⟨cn,ct⟩:=cc;simp only at hR
    by_cases hcn:cn=n
    rotate_left
    ·rw[if_pos (.inl hcn)] at hR;subst hR;have hcb:(cn==n)=false:=by simpa using hcn
     exact y4b
    subst hcn
    by_cases hcl2:co.as_.length≠qs.length
    ·rw[if_pos (.inr hcl2)] at hR;subst hR;have hcb:((co.as_.length:Int) !=(qs.length:Int))=true:=by simp;omega
     exact y4b
    have hcl3:co.as_.length=qs.length:=aB;rw[if_neg (by simp[hcl3])] at hR;subst hR;refine yn ?_;refine aWp hce hcil h14 hcl3 ?_;refine y9 ?_;refine znf ?_;refine Run.regPre 12 fun K J=>?_
    simp only[aZu];simp;refine zi ?_;clear J;simp only[bB4];have hin:=hq1.app (l:=[some (.cells [.p (iP 1), .p (sP cn), .p (.sl 3 (cC qs))]),some (.cells [.p (iP t0), .p (iP t1), .p (sP t2), .p (.sl 2 (aW t3)), .p (.sl 5 (aL t4))]),some (.cells co.d.row)]) (hH1w.app aA);refine Run.call rfl aF aA rfl (ih co.as_ s _ _ hca aB hvl hw1 hin (by simp;omega)) ?_ ?_
    ·rintro v h' ⟨hv',hM',hF'⟩
     injection hv' with hv'
     subst hv';refine zo ?_;refine Run.nil ?_;exact Fin.retM (h0:=h') (l:=[]) aA (bAr aA hF'.1) hM'.wf (aZ0 _).symm rfl rfl (Weak.refl _) rfl ⟨rfl,hM',hFm1.trans ((Fm.app (by simpa using hn0) _).trans hF')⟩
    ·rintro v h' ⟨hv',_⟩
     cases hv'
end
open Go Go.AI
set_option linter.unusedSectionVars false
theorem MOk.any {env:List Dc} {n0 q M:Nat} {s:MS} {c:Kt} {H:Heap} (h:MOk env n0 q M s c H)(hn0:n0<=H.length)(s':MS)(c':Kt):∃g,MOk env n0 q M s' c' g/\Fm n0 q H g:=by
 obtain⟨h1,h2,h3,h4,vA,h5,_⟩:=h;have hql:=(aYv.1 h2).1;have hMl:=(aYv.1 h5).1;refine⟨(H.set q (ktB c')++[some (AO.cells (buf 5 (aL s'.vals) 0))]).set M (some (AO.cells [bW env, .ptr q 0, .sm H.length 0 s'.vals.length s'.vals.length 5,bA s'.fl,bA s'.sk])),⟨?_,?_,h3,h4,_,?_, .inr ⟨H.length,s'.vals.length,rfl,?_,aYw _,by omega,hn0⟩⟩,?_⟩
 ·refine WF.set (WF.app (h1.set aA) (by simp[bT])) ?_;simp;omega
 ·rw[aZk aB,aZ8 (by simpa using hql)];simp[hql]
 ·rw[List.getElem?_set_self (by simp;omega)]
 ·rw[aZk aB,bA7 aA];simp
 ·exact(Fm.set_app (.inr rfl) hn0 _ _).trans (Fm.set (.inl h4) (by simp;omega) _)
structure MJ where
 i:Nat
 s:MS
 c:Kt
 H:Heap
theorem uS (env:List Dc)(l:List Pt)(ts:List Tm)(s:MS)(c:Kt)(h:s.fl=true\/s.sk=true):kO env l ts s c=(s,c):=by
 cases l with
 |nil=>simp only[kO]
 |cons p ps=>cases ts with
  |nil=>simp only[kO]
  |cons t ts=>simp only[kO,if_pos h]
section
variable {env:List Dc} (hg:Env.good env) (hf:aP env)
include hg hf
theorem aQp:∀(m:Nat)(qs:List Pt),Pt.sizes qs<=m->Pt.sizes qs<=1048576->∀(n0 q M:Nat)(ts:List Tm)(s:MS)(c:Kt)(H:Heap),(∀t∈ts,t.at_)->qs.length<=ts.length->s.vals.length+Pt.sizes qs<=4000000->K2 c->MOk env n0 q M s c H->n0<=H.length->ACalls Tryz.prog 73 [.ptr M 0, .p (.sl 3 (cC qs)), .p (.sl 5 (aL ts))] H (aKf env n0 q M H (kO env qs ts s c)):=by
 intro m
 induction m using Nat.strongRecOn with
 |_ m IHm=>
 intro qs hm hqs n0 q M ts s c H hts hlen hvl hc hM hn0;obtain⟨R,hR⟩:∃R,kO env qs ts s c=R:=⟨_,rfl⟩;rw[hR];refine zER Tryz.func73 Tryz.ntmps73 ?_;refine Run.loopS (ι:=MJ) [0,1,2] (fun p=>p.i<=qs.length/\MOk env n0 q M p.s p.c p.H/\Fm n0 q H p.H/\K2 p.c/\p.s.vals.length+Pt.sizes (qs.drop p.i)<=4000000/\kO env (qs.drop p.i) (ts.drop p.i) p.s p.c=R) (fun p=>qs.length-p.i) (fun p=>[(6,iA p.i)]) (fun p=>p.H) ⟨0,s,c,H⟩ ⟨Nat.zero_le _,hM,⟨aYw _,fun _ _ _=>rfl⟩,hc,by simpa using hvl,by simpa using hR⟩ ?_ rfl ?_
 ·exact zS
 clear hR hc hvl;rintro⟨i,s',c',H'⟩ ⟨hi,hM',hF',hc,hvl,hR⟩ IH;simp only at hi hM' hF' hc hvl hR IH;clear hM;simp;have hn1:n0<=H'.length:=bAr hn0 hF'.1;have hh:=hM'.wf;have hlq:=gK qs;obtain⟨vA,hMB,_⟩:=hM'.ex;obtain⟨gM1,gM2,gM3,gM4,gM5,hMl⟩:=idf hMB;obtain⟨vals,fl,sk⟩:=s';simp only at hM' hR hvl hMB
 by_cases hil:i<qs.length
 rotate_left
 ·have he:i=qs.length:=aB;subst he;simp only[bAn,kO] at hR;subst hR;refine aV4 ?_;exact y4y
 by_cases hst:fl=true\/sk=true
 ·rw[uS env _ _ _ _ hst] at hR;subst hR;rcases hst with rfl|rfl
  ·refine sH hil hMB ?_;refine zf ?_;exact y4y
  ·cases fl
   all_goals
    refine sH hil hMB ?_;refine zf ?_;exact y4y
 simp only[not_or,Bool.not_eq_true] at hst;obtain⟨rfl,rfl⟩:=hst;have hgi:qs[i]?=some qs[i]:=aYu hil;have htl:i<ts.length:=aB;have hgt:ts[i]?=some ts[i]:=aYu htl;have hta:=hts _ (aYx htl);have hpz:=Pt.size_at (aYx hil);generalize qs[i]=p at hgi hpz;generalize ts[i]=t at hgt hta;rw[bD hgi,bD hgt] at hR;rw[bD hgi] at hvl;simp only[Pt.sizes] at hvl;simp only[kO,aZd,or_self,if_false] at hR;obtain⟨hk1,hk2⟩:=aHp hg hf p t ⟨vals,false,false⟩ c' hta hc;simp only at hk2
 have cm:ACalls Tryz.prog 126 [.ptr M 0,p.av,t.av] H' (aKf env n0 q M H' (rmP env p t ⟨vals,false,false⟩ c')):=by
  obtain⟨k,n,l⟩:=p;simp only[Pt.size] at hpz hvl;exact aN9 hg hf k n l t hta _ (by simp only;omega) aB c' hc n0 q M (fun ts s c H a b d e f g=>IHm (Pt.sizes l) aB l (aYw _) aB n0 q M ts s c H a b d e f g) H' hM' hn1
 have hne:=hM'.any hn1 (rmP env p t ⟨vals,false,false⟩ c').1 (rmP env p t ⟨vals,false,false⟩ c').2;generalize rmP env p t ⟨vals,false,false⟩ c'=r at cm hR hk1 hk2 hne;obtain⟨s2,c2⟩:=r;simp only at hR hk1 hk2 hne;obtain⟨k,n,l⟩:=p;obtain⟨t0,t1,t2,t3,t4⟩:=t;simp only[Tm.av,Pt.av,bC,aH,List.map] at cm;refine sH hil hMB ?_;refine Go.AI.ct aA (nv ?_);refine ND.Run.drawP (pc:=[]) [0,0,0,0,0,0,0,0,0,0] [0,0,0,0,0,0,0,0,0,0] [0,0,0,6,14,0,0,96,224,511] [0,1,2,3,4,5,6,7,8,9] aC aC ?_
 have hgp:∀z,(cC qs)[i]'z=[iP k,sP n, .sl 3 (cC l)]:=fun z=>by
  have e:(cC qs)[i]?=some [iP k,sP n, .sl 3 (cC l)]:=by simp[hgi,bC]
  rw[aYu z] at e;exact bAf e
 have hgq:∀z,(aL ts)[i]'z=[iP t0,iP t1,sP t2, .sl 2 (aW t3), .sl 5 (aL t4)]:=fun z=>by
  have e:(aL ts)[i]?=some [iP t0,iP t1,sP t2, .sl 2 (aW t3), .sl 5 (aL t4)]:=by simp[hgt,aH]
  rw[aYu z] at e;exact bAf e
 refine zm4 hgp hgq htl hil ?_;refine ND.DR.callR (R:=fun v g=>v= .tup []/\MOk env n0 q M s2 c2 g/\Fm n0 q H' g) rfl rfl aA rfl rfl rfl (cm.mono fun o g e=>⟨_,e.1,rfl,e.2⟩) (by obtain⟨g,e⟩:=hne;exact⟨_,g,rfl,e⟩) ?_;rintro v g ⟨rfl,hM2,hF2⟩;refine zm ?_;refine y9 ?_;refine znr ?_;refine IH ⟨i+1,s2,c2,g⟩ _ _ ⟨by show i+1<=qs.length;omega,hM2,hF'.trans hF2,hk1,by show s2.vals.length+Pt.sizes (List.drop (i+1) qs)<=4000000;omega,hR⟩ (by show qs.length-(i+1)<qs.length-i;omega) ?_ rfl;exact zS
end
end Go.Proofs.YtcfcolkbeelegaaGreat
namespace Go.Proofs.YtcfcolkbeelegaaGreat
open Go Go.AI
set_option linter.unusedSectionVars false
noncomputable def jB (env:List Dc)(ts:List Tm):Nat->List Cl->Kt->(Int×List Tm×Int)×Kt
 |_,[],c=>((0,[],9),c)
 |i,cl::cs,c=>if(kO env cl.ps ts ⟨[],false,false⟩ c).1.sk=true then((0,[],19),(kO env cl.ps ts ⟨[],false,false⟩ c).2)
  else if(kO env cl.ps ts ⟨[],false,false⟩ c).1.fl=false then((i,(kO env cl.ps ts ⟨[],false,false⟩ c).1.vals,0),(kO env cl.ps ts ⟨[],false,false⟩ c).2)
  else jB env ts (i+1) cs (kO env cl.ps ts ⟨[],false,false⟩ c).2
noncomputable def kC (env:List Dc)(cls:List Cl)(ts:List Tm)(c:Kt):(Int×List Tm×Int)×Kt:=
 if bB (yD env ts.length cls) cls.length=false then((0,[],6),c) else jB env ts 0 cls c
theorem aH1 {h H:Heap} {q:Nat} {o:Option AO} (_hl:h.length<=H.length)(hF:∀i,i<h.length->i≠q->H[i]?=h[i]?)(hq:H[q]?=some o)(hqn:q<h.length):H=h.set q o++H.drop h.length:=by
 have e:H.take h.length=h.set q o:=by
  refine bAi fun i=>?_
  rw[bB1,List.getElem?_set]
  by_cases h1:i<h.length
  ·rw[if_pos h1]
   by_cases h2:q=i
   ·subst h2;rw[if_pos rfl,if_pos hqn,hq]
   ·rw[if_neg h2,hF i h1 (fun e=>h2 e.symm)]
  ·rw[if_neg h1,if_neg aB,bAy aB]
 rw[<-e,bA4]
section
variable {env:List Dc} (hg:Env.good env) (hf:aP env)
include hg hf
theorem aJh (cls:List Cl)(ts:List Tm)(hs:PSmall cls [])(hts:∀t∈ts,t.at_)(_htl:ts.length<=1048576)(c:Kt)(hc:K2 c)(q:Nat)(h:Heap)(hh:WF h)(hq:h[q]?=some (ktB c)):
  ACalls Tryz.prog 24 [bW env, .p (.sl 6 (aAy cls)), .p (.sl 5 (aL ts)), .ptr q 0] h fun o h'=>o= .ret (mtA (kC env cls ts c).1)/\h'=h.set q (ktB (kC env cls ts c).2)/\K2 (kC env cls ts c).2:=by
 have hcl:=hs.cl;have hqn:=(aYv.1 hq).1
 have hss:h.set q (ktB c)=h:=by
  exact y4w
 obtain⟨r,hr⟩:∃r,kC env cls ts c=r:=⟨_,rfl⟩;rw[hr];unfold kC at hr;refine cW Tryz.func24 Tryz.ntmps24 ?_;refine Run.loopS [0,1,2,3] (fun j:Nat=>j<=cls.length/\bB (yD env ts.length cls) j=true) (fun j=>cls.length-j) (fun j=>[(11,iA j)]) (fun _=>h) 0 (by simp[bB]) ?_ rfl ?_
 ·exact zS
 rintro j ⟨hj,hall⟩ IH;refine cI ?_
 by_cases hjl:j<cls.length
 ·have hgj:cls[j]?=some cls[j]:=aYu hjl;have hmem:=aYx hjl;generalize cls[j]=c' at hgj hmem;have hcz:=hs.cs c' hmem;have hcln:=gK c'.ps;have c1:=fun g hw=>aEt env hg hf.1 c'.ps hcz g hw
  have hok:=jT (env:=env) (n:=ts.length) hgj;unfold mF at hok;generalize cD env c'.ps=e at c1 hok;obtain⟨ps,⟨k,i,nm,ls,ks⟩⟩:=c';simp only at c1 hcz hcln hok;refine nv ?_;refine Go.AI.ct (by simp[hjl]) (nv ?_)
  by_cases hle:ps.length=ts.length
  ·refine zn ?_;refine aWx hgj hle ?_;refine Run.call rfl aF aA rfl (c1 _ hh) ?_ ?_
   rotate_left
   ·rintro v h' ⟨hv,_⟩;cases hv
   rintro v h' ⟨hv,e'⟩;simp only[AOut.ret.injEq] at hv;subst hv;obtain rfl:=e'.symm
   by_cases he:e=0
   ·subst he;refine rJ ?_;exact y89
   ·have hf:=aU hjl (p:=yD env ts.length cls) (by rw[hok];simp[he]);rw[if_pos hf] at hr;subst hr;have heb:(e !=(0:Int))=true:=by simpa using he
    refine zo1 heb ?_;exact y5t
  ·have hlb:((ps.length:Int) !=(ts.length:Int))=true:=by simp;omega
   have hf:=aU hjl (p:=yD env ts.length cls) (by rw[hok];simp[hle]);rw[if_pos hf] at hr;subst hr;refine zn ?_;refine aWx hgj hlb ?_;exact y5t
 have hje:j=cls.length:=aB;subst hje;rw[if_neg (by rw[hall];simp)] at hr;refine rH ?_;refine Run.loopS (ι:=Nat×Kt) [0,1,2,3] (fun p=>p.1<=cls.length/\K2 p.2/\jB env ts p.1 (cls.drop p.1) p.2=r) (fun p=>cls.length-p.1) (fun p=>[(12,iA p.1)]) (fun p=>h.set q (ktB p.2)) (0,c) (by simp[hr,hc]) ?_ hss ?_
 ·exact zS
 clear hr IH hc hss;rintro⟨j,c⟩ ⟨hj,hc,hr⟩ IH;simp only at hj hc hr IH;simp;have hh1:WF (h.set q (ktB c)):=hh.set aA;refine znr ?_
 by_cases hjl:j<cls.length
 rotate_left
 ·have hje:j=cls.length:=aB;subst hje;simp only[bAn,jB] at hr;subst hr;refine cY ?_;exact Fin.ret' (h0:=h.set q (ktB c)) (xs:=[iA 0, .p (.prim (.slice none 0 0)),iA 9]) aA aA hh1 (aZ0 _).symm aA rfl (qW 0 9) (by simp[mtA]) ⟨rfl,rfl,hc⟩
 have hgj:cls[j]?=some cls[j]:=aYu hjl;have hmem:=aYx hjl;have hokj:=jP hall hjl;rw[jT hgj] at hokj;rw[bD hgj] at hr;generalize cls[j]=cc at hgj hmem hokj hr;simp[mF] at hokj;have hcz:=hs.cs cc hmem
 have hM0:MOk env h.length q h.length ⟨[],false,false⟩ c (h.set q (ktB c)++[some (.cells [bW env, .ptr q 0, .p (.prim (.slice none 0 0)),bA false,bA false])]):=
  ⟨hh1.app (by simp;omega),by rw[aZ8 (by simpa using hqn)];simp[hqn],hqn,aYw _,_,by rw[bA7 aA];simp, .inl ⟨rfl,rfl⟩⟩
 have c1:=aQp hg hf _ cc.ps (aYw _) hcz h.length q h.length ts ⟨[],false,false⟩ c _ hts aB (by simp;omega) hc hM0 aA;have hk:=(uR hg hf cc.ps ts ⟨[],false,false⟩ c hts hc).1;simp only[jB] at hr;generalize kO env cc.ps ts ⟨[],false,false⟩ c=r1 at c1 hk hr;obtain⟨⟨vals,fl,sk⟩,c2⟩:=r1;simp only at hr hk;obtain⟨ps,⟨k,i,nm,ls,ks⟩⟩:=cc;simp only at c1;refine nv ?_;refine Go.AI.ct (by simp[hjl]) (nv ?_);refine zr ?_;refine Run.regPre 7 fun K J=>?_
 refine yd ?_;simp[hgj,Cl.cells];refine zi ?_;clear J;refine ya ?_;refine Run.call rfl aF aA rfl c1 ?_ ?_
 rotate_left
 ·rintro v h' ⟨hv,_⟩;cases hv
 rintro v H ⟨hv,hM,hF⟩;simp only[AOut.ret.injEq] at hv;subst hv;have hlH:h.length+1<=H.length:=by have:=hF.1;simpa using this
 have hFh:∀i,i<h.length->i≠q->H[i]?=h[i]?:=fun i a b=>by
  rw[hF.2 i a b,aZ8 (by simpa using a),aZk (fun e=>b e.symm)]
 obtain⟨hHw,hHq,_,_,vA,hMB,hvA⟩:=hM;simp only at hHq hMB hvA;have hcut:=aH1 aB hFh hHq hqn;have hh2:WF (h.set q (ktB c2)):=hh.set aA;refine zo ?_;refine zr1 hMB ?_
 cases sk with
 |true=>
  simp only[if_true] at hr;subst hr;refine nv ?_;refine Go.AI.ct aA (nv ?_);refine zrx ?_;exact Fin.ret' (h0:=h.set q (ktB c2)) (xs:=[iA 0, .p (.prim (.slice none 0 0)),iA 19]) aA aA hh2 hcut aA rfl (qW 0 19) (by simp[mtA]) ⟨rfl,rfl,hk⟩
 |false=>
  simp only[aZd,if_false] at hr;refine znf ?_;refine zr1 hMB ?_
  cases fl with
  |true=>
   simp only[Bool.true_eq_false,if_false] at hr;refine aAc ?_;refine Run.keep [0,1,2,3,12] ?_;refine yf ?_;refine Run.cutAt (h0:=h.set q (ktB c2)) 0 hh2 hcut aA aA (by simp[hqn]) aA rfl ?_;simp;refine IH (j+1,c2) _ _ ⟨by show j+1<=cls.length;omega,hk,hr⟩ (by show cls.length-(j+1)<cls.length-j;omega) ?_ rfl;exact zS
  |false=>
   simp only[if_true] at hr;subst hr;refine nv ?_;refine Go.AI.ct aA (nv ?_);refine Run.draw [0,0,0,0,0,0,0,0] [0,0,0,0,0,0,0,0] [0,0,2,6,14,1,63,127] [0,1,2,3,4,5,6,7] aC aC ?_;refine zd1 hMB ?_;refine y9 ?_;refine nv ?_;rcases hvA with ⟨rfl,rfl⟩|⟨id,cap,rfl,hid,hcap,hidM,hid0⟩
   ·refine Run.ret ?_;exact Fin.ret' (h0:=h.set q (ktB c2)) (xs:=[iA j, .p (.prim (.slice none 0 0)),iA 0]) aA aA hh2 hcut aA rfl (qW j 0) (by simp[mtA]) ⟨rfl,rfl,hk⟩
   ·refine Run.freezeS 9 (id:=id) (n:=vals.length) (cap:=cap) (sz:=5) (m:=cap-vals.length) (es:=aL vals) aA (by simp only[Heap.at];rw[hid];rfl) (eJ _) aA hcap ?_;have hcut2:=aH1 (H:=H.set id none) (h:=h) (q:=q) (o:=ktB c2) (by simp;omega) (fun i a b=>by rw[aZk aB];exact hFh i a b) (by rw[aZk aB];exact hHq) hqn;refine Run.ret ?_;exact Fin.ret' (h0:=h.set q (ktB c2)) (xs:=[iA j, .p (.sl 5 (aL vals)),iA 0]) aA aA hh2 hcut2 aA rfl (Weak.refl _) aA ⟨rfl,rfl,hk⟩
end
open Go Go.AI
section
variable {env:List Dc} (hg:Env.good env) (hf:aP env)
include hg hf
theorem whW:WOk env (gM env) Gin where
 run:=fun t ht h hh=>aOe hg hf ht h hh
 sz:=fun t ht h=>by have:=(vK hg hf ht h).len;omega
 args:=fun t ht h a ha=>Gin.of_at ((vK hg hf ht h).args a ha)
end
open Go Go.AI
def aI4 (o:Oc)(n:Int):Prop:=match o with| .mat l=>(l.length:Int)=n| .given e=>e≠0|_=>True
mutual
theorem aQh (W:Tm->Tm×Int) {env:List Dc} (hf:aP env)(hg:Env.good env):∀(p:Pt)(t:Tm),jS env p=0->aI4 (qX W env p t) (aXu p)
 | .mk k n qs,t,hc=>by
  rw[qX,aXu]
  by_cases k0:k=0
  ·subst k0
   have hq:qs=[]:=by
    rw[jS,if_pos (.inl rfl)] at hc;exact y8q
   subst hq;simp[aI4,aAz]
  rw[if_neg k0,if_neg k0]
  by_cases k2:k=2
  ·subst k2
   have hq:qs=[]:=by
    rw[jS,if_pos (.inr (.inl rfl))] at hc;exact y8q
   subst hq;simp[aI4,aAz]
  rw[if_neg k2]
  by_cases k3:k=3
  ·rw[if_pos k3];trivial
  rw[if_neg k3]
  by_cases hw:(W t).2≠0
  ·rw[if_pos hw];exact hw
  rw[if_neg hw]
  have k1:k=1:=by
   by_cases k1:k=1
   ·exact k1
   ·rw[rX k0 k1 k2 k3] at hc;exact absurd hc aD
  subst k1;obtain⟨h1,h2,h3⟩:=eR hc
  cases ho:nF env n (aG (W t).1).1 (aG (W t).1).2 with
  |some o=>
   simp only;unfold nF at ho;split at ho
   ·cases ho;trivial
   split at ho
   ·cases ho;trivial
   split at ho
   ·cases ho;trivial
   ·cases ho
  |none=>
   simp only;unfold nF at ho;split at ho
   ·cases ho
   split at ho
   ·cases ho
   rename_i hn;split at ho
   ·cases ho
   rename_i hnm;have hnm:(aG (W t).1).1.name=n:=by simpa using hnm
   rw[hnm] at hn;simp only[not_or,Bool.not_eq_false,ne_eq,Classical.not_not] at hn;have h4:=aBg hf hg h1;have:=rY W hf hg qs ((aG (W t).1).2.drop (aM env n).1.fx.toNat) h3 (by rw[bA0];omega);exact y6y
theorem rY (W:Tm->Tm×Int) {env:List Dc} (hf:aP env)(hg:Env.good env):∀(ps:List Pt)(us:List Tm),cD env ps=0->ps.length<=us.length->aI4 (iU W env ps us) (aAz ps)
 |[],us,_,_=>by simp[iU,aI4,aAz]
 |p::ps,[],_,h=>by simp at h
 |p::ps,a::us,hc,h=>by
  rw[iU,aAz];have h1:=aQh W hf hg p a (eS hc p aA)
  have h2:=rY W hf hg ps us (by
   rw[cD] at hc
   by_cases e:jS env p=0
   ·rw[if_pos (by simpa using e)] at hc;exact hc
   ·rw[if_neg (by simpa using e)] at hc;exact absurd hc e) (by simpa using h)
  cases ho:qX W env p a with
  |mat m=>
   rw[ho] at h1;simp only
   cases hm:iU W env ps us with
   |mat m2=>
    rw[hm] at h2;simp only[aI4,Oc.join,aZ4] at h1 h2⊢;omega
   |given e=>rw[hm] at h2;exact h2
   |stuck=>trivial
   |failed=>trivial
  |given e=>rw[ho] at h1;exact h1
  |stuck=>trivial
  |failed=>trivial
end
mutual
theorem aQi {W:Tm->Tm×Int} {env:List Dc} {P:Tm->Prop} (hW:∀t,P t->(W t).2=0->∀a∈(aG (W t).1).2,P a):∀(p:Pt)(t:Tm)(l:List Tm),P t->qX W env p t= .mat l->∀v∈l,P v
 | .mk k n qs,t,l,ht,h=>by
  rw[qX] at h;split at h
  ·cases h;intro v hv;simp at hv;subst hv;exact ht
  split at h
  ·cases h;intro v hv;cases hv
  split at h
  ·cases h
  split at h
  ·cases h
  rename_i hw;have hw:(W t).2=0:=by simpa using hw
  split at h
  ·rename_i o ho;subst h;simp only[nF] at ho;split at ho
   ·simp at ho
   split at ho
   ·simp at ho
   split at ho
   ·simp at ho
   ·cases ho
  ·exact zC hW qs _ l (fun a ha=>hW t ht hw a (bAp ha)) h
theorem zC {W:Tm->Tm×Int} {env:List Dc} {P:Tm->Prop} (hW:∀t,P t->(W t).2=0->∀a∈(aG (W t).1).2,P a):∀(ps:List Pt)(us:List Tm)(l:List Tm),(∀u∈us,P u)->iU W env ps us= .mat l->∀v∈l,P v
 |[],us,l,_,h=>by rw[iU] at h;cases h;intro v hv;cases hv
 |p::ps,[],l,_,h=>by rw[iU] at h;cases h;intro v hv;cases hv
 |p::ps,a::us,l,hu,h=>by
  rw[iU] at h
  cases ho:qX W env p a with
  |mat m=>
   rw[ho] at h;simp only at h;have h1:=aQi hW p a m (hu a aA) ho
   cases hm:iU W env ps us with
   |mat m2=>
    rw[hm] at h;simp only[Oc.join] at h;cases h;have h2:=zC hW ps us m2 (fun x hx=>hu x (by simp[hx])) hm;intro v hv;rcases aZn.1 hv with hv|hv
    ·exact h1 v hv
    ·exact h2 v hv
   |given e=>rw[hm] at h;cases h
   |stuck=>rw[hm] at h;cases h
   |failed=>rw[hm] at h;cases h
  |given e=>rw[ho] at h;cases h
  |stuck=>rw[ho] at h;cases h
  |failed=>rw[ho] at h;cases h
end
theorem aC1 (W:Tm->Tm×Int)(env:List Dc)(ts:List Tm):∀(cls:List Cl)(i:Nat),(∀c∈cls,∀e,iU W env c.ps ts= .given e->e≠0)->
  (∃j c l,cls[j]?=some c/\iU W env c.ps ts= .mat l/\gQ W env ts i cls=(((i+j:Nat):Int),l,0)/\∀k,k<j->∃c',cls[k]?=some c'/\iU W env c'.ps ts= .failed)\/((gQ W env ts i cls).2.1=[]/\(gQ W env ts i cls).2.2≠0)
 |[],i,_=> .inr ⟨rfl,by simp[gQ]⟩
 |c::cls,i,h=>by
  rw[gQ]
  cases ho:iU W env c.ps ts with
  |mat l=>exact .inl ⟨0,c,l,rfl,ho,rfl,fun k hk=>by omega⟩
  |stuck=>exact .inr ⟨rfl,by simp⟩
  |given e=>exact .inr ⟨rfl,h c aA e ho⟩
  |failed=>
   simp only;rcases aC1 W env ts cls (i+1) (fun c' hc'=>h c' (by simp[hc'])) with ⟨j,c',l,h1,h2,h3,h4⟩|h5
   ·refine .inl ⟨j+1,c',l,by simpa using h1,h2,by rw[h3];congr 2;omega,fun k hk=>?_⟩
    cases k with
    |zero=>exact⟨c,rfl,ho⟩
    |succ k=>obtain⟨c2,a,b⟩:=h4 k aB;exact⟨c2,by simpa using a,b⟩
   ·exact .inr h5
theorem aPn {env:List Dc} (hg:Env.good env)(hf:aP env) {W:Tm->Tm×Int} (hW:∀t,t.at_->(W t).2=0->∀a∈(aG (W t).1).2,a.at_)(cls:List Cl)(ts:List Tm)(hts:∀t∈ts,t.at_):
  (∃(j:Nat) (c:Cl) (l:List Tm),cls[j]?=some c/\iV W env cls ts=((j:Int),l,0)/\(l.length:Int)=aAz c.ps/\l.length<=Pt.sizes c.ps/\(∀v∈l,v.at_)/\iV W env [c] ts=(0,l,0)/\∀k,k<j->∃c',cls[k]?=some c'/\iV W env [c'] ts=(0,[],9))\/((iV W env cls ts).2.1=[]/\(iV W env cls ts).2.2≠0):=by
 unfold iV
 by_cases hok:bB (yD env ts.length cls) cls.length=false
 ·rw[if_pos hok];exact .inr ⟨rfl,by simp⟩
 rw[if_neg hok];have hok:bB (yD env ts.length cls) cls.length=true:=by simpa using hok
 have hat:∀(k:Nat) (c:Cl),cls[k]?=some c->c.ps.length=ts.length/\cD env c.ps=0:=fun k c hk=>by
  have h1:=jP hok (aYv.1 hk).1;rw[jT hk] at h1;simpa [mF] using h1
 have hone:∀(k:Nat) (c:Cl),cls[k]?=some c->bB (yD env ts.length [c]) [c].length=true:=fun k c hk=>by
  obtain⟨h1,h2⟩:=hat k c hk;rw[cJ];intro j hj;have:j=0:=by simpa using hj
  subst this;rw[jT (c:=c) rfl];simp[mF,h1,h2]
 rcases aC1 W env ts cls 0 (fun c hc e he=>by
  obtain⟨k,hk⟩:=bAl hc;obtain⟨h1,h2⟩:=hat k c hk;have:=rY W hf hg c.ps ts h2 aB;rw[he] at this;exact this) with ⟨j,c,l,h1,h2,h3,h4⟩|h5
 ·refine .inl ⟨j,c,l,h1,by rw[h3];simp,?_,yZ W env c.ps ts l h2,zC hW c.ps ts l hts h2,?_,fun k hk=>?_⟩
  ·obtain⟨a,b⟩:=hat j c h1;have:=rY W hf hg c.ps ts b aB;rw[h2] at this;exact this
  ·rw[if_neg (by rw[hone j c h1];simp),gQ,h2]
   rfl
  ·obtain⟨c',a,b⟩:=h4 k hk;refine⟨c',a,?_⟩;rw[if_neg (by rw[hone k c' a];simp),gQ,b]
   rfl
 ·exact .inr h5
open Go Go.AI
theorem aMd (h:Heap)(hh:WF h):ACalls Tryz.prog 23 [] h fun o h'=>o= .ret (.ptr h.length 0)/\h'=h++[ktB ⟨0,0,0,1000,false⟩]:=by
 refine ACalls.of_run Tryz.func23 rfl ?_;simp only[Tryz.ntmps23,aZ2];refine aDl ?_;exact Fin.retM (h0:=h++[ktB ⟨0,0,0,1000,false⟩]) (l:=[]) aA aA (hh.app aA) (aZ0 _).symm aE rfl (Weak.refl _) aA ⟨rfl,rfl⟩
theorem aH4:K2 ⟨0,0,0,1000,false⟩:=⟨⟨rfl,fun _=>by decide⟩,fun _=>by decide⟩
end Go.Proofs.YtcfcolkbeelegaaGreat
