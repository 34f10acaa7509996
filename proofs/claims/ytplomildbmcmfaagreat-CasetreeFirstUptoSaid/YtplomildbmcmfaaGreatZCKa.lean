import Derived.Test.YtplomildbmcmfaaGreatZA0
import Derived.Test.YtplomildbmcmfaaGreatZPQ
import Derived.Test.YtplomildbmcmfaaGreatZT8
import Derived.Test.YtplomildbmcmfaaGreatZT7
import Derived.Test.YtplomildbmcmfaaGreatZQCa
import Derived.Test.YtplomildbmcmfaaGreatZFLB
import Derived.Test.YtplomildbmcmfaaGreatZEVq
import Derived.Test.YtplomildbmcmfaaGreatZYC
import Derived.Test.YtplomildbmcmfaaGreatZD
import Derived.Test.YtplomildbmcmfaaGreatZX14
import Derived.Test.YtplomildbmcmfaaGreatZCG
set_option maxRecDepth 8000
set_option maxHeartbeats 16000000
namespace Go.Proofs.YtplomildbmcmfaaGreat
open Go Go.AI
theorem aB9 (N:Nat):∀(l:List Pt)(m:Int),Pt.sizes l<=N->Pt.sizes l<=1048576->-1<=m->m<=1048576->∀h,WF h->ACalls Tryz.prog 89 [.p (.sl 3 (ptPs l)),iA m] h fun o h'=>bGi (fun _=>True) o/\h'=h:=by
 have key:∀(l:List Pt) (m:Int),Pt.sizes l<=1048576->-1<=m->m<=1048576->(∀p∈l,∀k,-1<=k->k<=1048576->∀g,WF g->ACalls Tryz.prog 89 [.p (.sl 3 (ptPs p.args)),iA k] g fun o h'=>bGi (fun _=>True) o/\h'=g)->
   ∀h,WF h->ACalls Tryz.prog 89 [.p (.sl 3 (ptPs l)),iA m] h fun o h'=>bGi (fun _=>True) o/\h'=h:=by
  intro l m hB hm1 hm2 ih h hh;have hll:=vS l;have hpl:(ptPs l).length=l.length:=aA;refine zE Tryz.func89 Tryz.ntmps89 ?_;refine sE ?_;refine Run.loopS (ι:=Nat×Int) [0,1] (fun p=>p.1<=l.length) (fun p=>l.length-p.1) (fun p=>[(5,iA p.2),(6,iA p.1)]) (fun _=>h) (0,0) aA ?_ rfl ?_
  ·exact zS
  rintro⟨j,k⟩ hj IH;simp only at hj;simp
  by_cases hjl:j<l.length
  ·have hg:l[j]?=some l[j]:=bLv hjl;have hmem:=bLy hjl
   by_cases hm:0<m
   ·have ihx:=ih l[j] hmem (m-1) aB aB;have hgq:∀q:j<l.length,l[j]'q=l[j]:=fun _=>rfl
    generalize l[j]=x at hg hmem ihx hgq;obtain⟨pk,pn,qs⟩:=x;simp only[Pt.args] at ihx;have hpgt:(ptPs l)[j]?=some [iP pk,sP pn, .sl 3 (ptPs qs)]:=by rw[vU,hg];simp[pcells_mk]
    have hpgq:∀q:j<(ptPs l).length,(ptPs l)[j]'q=[iP pk,sP pn, .sl 3 (ptPs qs)]:=fun q=>by rw[bLv q] at hpgt;exact bNg hpgt
    refine zn ?_;refine zr2 hjl hm ?_;refine zt ?_;refine zr3 hpgq hjl hpl ?_;refine zB (ihx _ hh) fun d hd=>?_
    refine zor ?_;refine Run.keep [0,1,5,6] ?_;simp;refine IH (j+1,if k<IntKind.i64.wrap (1+d) then IntKind.i64.wrap (1+d) else k) _ _ (by simp only;omega) (by simp only;omega) ?_ aA;exact zS
   ·refine aAh hjl hm ?_;exact y2l
  ·refine aAg hjl ?_;exact y2l
 induction N with
 |zero=>
  intro l m hl hB hm1 hm2
  cases l with
  |nil=>exact key [] m hB hm1 hm2 (fun p hp=>by cases hp)
  |cons p ps=>have:=p.size_pos;simp only[Pt.sizes] at hl;omega
 |succ N ih=>
  intro l m hl hB hm1 hm2;refine key l m hB hm1 hm2 fun p hp k hk1 hk2=>?_
  have h2:=Pt.size_at hp;obtain⟨pk,pn,qs⟩:=p;simp only[Pt.size] at h2;exact ih qs k aB aB hk1 hk2
theorem aBv (cls:List Cl)(_hl:cls.length<=1048576)(hc:∀c∈cls,Pt.sizes c.ps<=1048576/\c.b.size<=1099511627776)(h:Heap)(hh:WF h):
  ACalls Tryz.prog 41 [.p (.sl 6 (clPs cls))] h fun o h'=>aU0 (fun _=>True) o/\h'=h:=by
 refine dE Tryz.func41 Tryz.ntmps41 ?_;refine Run.loopS [0] (fun j:Nat=>j<=cls.length) (fun j=>cls.length-j) (fun j=>[(3,iA j)]) (fun _=>h) 0 aA ?_ rfl ?_
 ·exact zS
 intro j hj IH;simp
 by_cases hjl:j<cls.length
 ·by_cases hj20:j<20
  ·have hj20i:(j:Int)<20:=aB;have hgc:cls[j]?=some cls[j]:=bLv hjl;have hcj:=hc _ (bLy hjl);have c54:=fun g hw=>zQ g hw cls[j] hcj.1
   have c89:=fun g hw=>aB9 _ cls[j].ps 8 (bLx _) hcj.1 aB aB g hw
   have c77:=fun g hw=>mK _ cls[j].b g (bLx _) hcj.2 hw
   generalize hcj':cls[j]=c at hgc hcj c54 c89 c77;obtain⟨ps,⟨b0,b1,b2,b3,b4⟩⟩:=c;simp only at c54 c89 c77;have hgq:∀q:j<cls.length,cls[j]'q=⟨ps, .mk b0 b1 b2 b3 b4⟩:=fun q=>hcj'
   have hcc:(Cl.mk ps (.mk b0 b1 b2 b3 b4)).cells=[.sl 3 (ptPs ps),iP b0,iP b1,sP b2, .sl 2 (lvPs b3), .sl 5 (tmPs b4)]:=by simp[Cl.cells]
   have hpl:(ptPs ps).length=ps.length:=aA;simp only[Cl.av,Tm.av,cells_mk,hcc,List.map] at c54 c77;refine zn ?_;refine zr2 hjl hj20i ?_;refine zt ?_
   by_cases h1:8<ps.length
   ·have h1i:(8:Int)<ps.length:=aB;refine zn ?_;refine zr5 hgq hcc hjl hpl h1i ?_;refine zt ?_;refine yi ?_;exact y2l
   ·have h1i:¬(8:Int)<ps.length:=aB;refine zn ?_;refine zr5 hgq hcc hjl hpl h1i ?_;refine zB (c89 _ hh) fun d hd=>?_
    rename Heap=>h
    by_cases h2:6<d
    ·refine aOw h2 ?_;exact y2l
    ·refine zo4 h2 hgq hcc hjl ?_;refine zL (c54 _ hh) ?_
     rename Heap=>h
     generalize bT ps=v
     by_cases h3:(30:Int)<v
     ·have h3n:30<v:=aB;refine aOw h3 ?_;exact y2l
     ·have h3n:¬30<v:=aB;refine zo4 h3 hgq hcc hjl ?_;refine zL (c77 _ hh) ?_
      rename Heap=>h
      generalize (Tm.mk b0 b1 b2 b3 b4).size=sz
      by_cases h4:(60:Int)<sz
      ·have h4n:60<sz:=aB;refine aOw h4 ?_;exact y2l
      ·have h4n:¬60<sz:=aB;refine aT2 h4 ?_;refine Run.keep [0,3] ?_;simp;refine IH (j+1) _ _ aB aB ?_ aA;exact zS
  ·have hj20i:¬(j:Int)<20:=aB;refine aAh hjl hj20i ?_;exact y2l
 ·refine aAg hjl ?_;exact y2l
theorem aLm (env:List Dc)(hg:Env.good env)(t:Tm)(hsz:t.size<=1048576)(hf:t.fit)(cls:List Cl)(hl:cls.length<=1048576)(hc:∀c∈cls,Pt.sizes c.ps<=1048576/\c.b.size<=1099511627776)(h:Heap)(hh:WF h):
  ACalls Tryz.prog 9 [eU env,t.av, .p (.sl 6 (clPs cls))] h fun o h'=>aU0 (fun b=>b=true->aIs env/\aQ2 0 t=true) o/\h'=h:=by
 have c39:=fun g hw=>aC1 g hw env hg
 have c40:=fun g hw=>aQ3 g hw t 0 aB hf
 have c35:=fun g hw=>lP g hw t 0 8 0 0 aB hf
 have c41:=fun g hw=>aBv cls hl hc g hw
 generalize aQ2 0 t=b2 at c40⊢;generalize dK 0 8 0 0 t=z at c35;obtain⟨t0,t1,t2,t3,t4⟩:=t;simp only[Tm.av,cells_mk,List.map] at c40 c35⊢;refine dE Tryz.func9 Tryz.ntmps9 ?_;refine zB (c39 _ (hh.app aA)) fun b1 hb1=>?_
 cases b1 with
 |false=>
  refine zox ?_;exact y4e
 |true=>
  refine zo ?_;refine zL (c40 _ (hh.app aA)) ?_
  cases b2 with
  |false=>
   refine zox ?_;exact y4e
  |true=>
   refine zo ?_;refine zL (c35 _ (hh.app aA)) ?_
   by_cases hz:z=0
   ·subst hz;refine zo ?_;refine zB (c41 _ (hh.app aA)) fun b4 hb4=>?_
    refine zox ?_;refine zF1 hh ?_;exact⟨⟨_,rfl,fun _=>⟨hb1 rfl,rfl⟩⟩,rfl⟩
   ·have hzb:(z==0)=false:=by simpa using hz
    refine zo1 hzb ?_;refine zx ?_;exact y4e
end Go.Proofs.YtplomildbmcmfaaGreat
namespace Go.AI.NB
open Go Go.AI
section
variable {pc:List Nat} {P:Program} {rd:Option Nat} {nb:Nat} {ops:Array Oper} {D:List AD} {Q:AX->List AV->Heap->List AD->Prop} {k:List It} {T:List AV} {h:Heap} {o:Oper}
theorem NStep.appendV {s x:Operand} {t e:TypeId} {es ys:List (List PV)} {id sz by_:Nat} {z:List Value} (ho:o.op= .call ⟨.builtin .append,#[s,x],#[t,t]⟩)(he:elT P t=some e)(hsz:szT P e=some sz)(hby:byT P e=some by_)(hz:aS P e=some z)
  (hs:aev T s= .vec id es.length) (hid:h.at id=some (.vec sz es)) (hes:∀e∈es,e.length=sz) (hx:sI (aev T x)=some ys) (hx2:srcSz sz (aev T x)=true) (hpos:0<ys.length)
  (hb:(es.length+ys.length)*by_<=140737488355328) (hb2:es.length+ys.length<=9223372036854775807):
  NStep P T o h fun x h'=>x= .vec id (es.length+ys.length)/\h'=h.set id (some (.vec sz (es++ys))):=by
 refine .inr ⟨fun c hc=>(by rw[hc] at ho;cases ho),fun T' hT E w a D st=>?_⟩
 replace hs:=(hT s (uW ho).1).trans hs
 rw[<-hT x (uW ho).2] at hx hx2;have hlt:=bD hid;have hsr:=aev_rep st s;rw[hs] at hsr;simp only[Rep] at hsr;obtain⟨L,hL,_,ad0,cap0,hsv,hcur⟩:=hsr;obtain⟨blk,cap,ht,k1,k2,k3⟩:=st.rel.toks id _ _ _ _ _ hid rfl;rw[hL] at ht;cases ht;obtain⟨ha0,hc0⟩:=hcur rfl;simp only at hc0;rw[ha0,hc0] at hsv;have hX:=iR hx hx2 (aev_rep st x);simp only[RepP] at hX;obtain⟨ad,cx,hxv,_,hX⟩:=hX;have hne:ys≠[]:=by intro h0;rw[h0] at hpos;simp at hpos
 obtain⟨b,off,rfl,hr⟩:=hX.resolve_left hne;have hu:=eZ he;obtain⟨i,zv,hi,hzv,hzc,hzl,_⟩:=aN hz;have hisz:i.size=sz:=by unfold szT at hsz;rw[hi] at hsz;simpa using hsz
 have hiby:i.bytes=by_:=by unfold byT at hby;rw[hi] at hby;simpa using hby
 have hyl:=hr.length;obtain⟨news,n1,n2,n3⟩:=hr.values;have hlY:(ys.flatten.map AV.p).length=ys.length*sz:=by rw[bMp,flat_length hyl]
 have hlE:(es.flatten.map AV.p).length=es.length*sz:=by rw[bMp,flat_length hes]
 have hadd:(es.length+ys.length)*sz=es.length*sz+ys.length*sz:=bO3 _ _ _;have hlA:((es++ys).flatten.map AV.p).length=(es.length+ys.length)*sz:=by rw[bOa,bMy,bM5,hlE,hlY,hadd]
 have hk':(AO.vec sz (es++ys)).tk=some (es.length+ys.length,sz,0,(es++ys).flatten.map .p):=by simp[AO.tk]
 cases blk with
 |none=>
  exact y24
 |some g=>
  obtain⟨cur,hrow,hcl,hcr⟩:=k3 g rfl;have hnro:∀off,¬E.ro g off:=fun off=>st.rel.sepT id _ _ _ _ _ g _ _ off hid rfl hL aB
  have hlec:es.length*sz<=cap*sz:=bNk _ k1;rw[hlE] at hcr
  by_cases hroom:es.length+ys.length<=cap
  ·exact y25
  ·exact y20
theorem NStep.buildV {t:TypeId} {len sz:Nat} {parts:Array (Nat×Operand)} {es:List (List PV)} (ho:o.op= .buildSlice t len parts)
  (hb:eW P t len (parts.toList.map fun p=>(p.1,aev T p.2))=some (.p (.sl sz es))) (hpos:0<es.length):
  NStep P T o h fun x h'=>x= .vec h.length es.length/\h'=h++[some (.vec sz es)]:=by
 refine .inr ⟨fun c hc=>(by rw[hc] at ho;cases ho),fun T' hT E w a D st=>?_⟩
 have hb':eW P t len (parts.toList.map fun p=>(p.1,aev T' p.2))=some (.p (.sl sz es)):=by
  rw[<-hb]
  congr 1
  refine List.map_congr_left fun p hp=>?_
  rw[hT p.2 (by rw[ho];simp only[Op.operands];exact Array.mem_toList_iff.1 (by simpa using⟨p.1,Array.mem_toList_iff.1 hp⟩))]
 obtain⟨p1,p2⟩:=mF st parts;obtain⟨vs,T0,hes,hrep,hrun⟩:=kK (P:=P) p1 p2 hb';exact y2c
theorem NStep.frozen {id sz:Nat} {es:List (List PV)} {h1:Heap} (hat:h1.at id=some (.vec sz es))(hes:∀e∈es,e.length=sz)(s:NStep P T o h fun x h'=>x= .vec id es.length/\h'=h1)(hf:∀c,o.op≠ .call c\/∃b a t,c=⟨.builtin b,a,t⟩):
  NStep P T o h fun x h'=>x= .p (.sl sz es)/\h'=h1.set id none:=by
 rcases s with ⟨c,f,args,h1,h2,_⟩|⟨hn,s⟩
 ·rcases hf c with h|⟨b,a,t,rfl⟩
  ·exact absurd h1 h
  ·simp[acallee] at h2
 refine .inr ⟨hn,fun T' hT E w a D st=>?_⟩;obtain⟨x,h',E',w',v,⟨rfl,rfl⟩,hrun,hrel,hfr,hrep,hF⟩:=s T' hT E w a D st;simp only[Rep] at hrep;obtain⟨L,hL,_,ad,cap0,hv,hcur⟩:=hrep;obtain⟨blk,cap,ht,k1,k2,k3⟩:=hrel.toks id _ _ _ _ _ hat rfl;rw[hL] at ht;cases ht;obtain⟨ha0,hc0⟩:=hcur rfl;simp only at hc0;rw[ha0,hc0] at hv
 cases blk with
 |none=>
  have hc0:=k2 rfl;have he0:es=[]:=bNw aB;subst he0;obtain⟨f1,f2⟩:=hrel.forget (id:=id);refine⟨_,_,E',w',v,⟨rfl,rfl⟩,hrun,f1,fun i hi=>hfr i (by simpa using hi),?_,hF.trans f2⟩;subst hv;simp only[Rep,RepP];exact⟨_,cap,rfl,k1, .inl trivial⟩
 |some b=>
  obtain⟨vals,hrow,hcl,hcr⟩:=k3 b rfl;obtain⟨f1,f2⟩:=hrel.freezeG (b:=b) hat (.inr ⟨_,_,_,_,hat,rfl,hL⟩);have hel:(es.flatten.map AV.p).length=es.length*sz:=by rw[bMp,flat_length hes]
  refine⟨_,_,_,w',v,⟨rfl,rfl⟩,hrun,f1,fun i hi=>hfr i (by simpa using hi),?_,hF.trans f2⟩;subst hv;simp only[Rep,RepP];refine⟨_,cap,rfl,k1, .inr ⟨b,0,rfl,?_⟩⟩;rw[hel] at hcr;refine RepEs.of_row (vs:=vals.take (es.length*sz)) hes (fun j v hj=>⟨.inr rfl,?_⟩) (hcr.ext f2.ext);rw[hrow.cell,bMw];exact y3h
theorem DR.mono {lo:List Nat} {K1 K2:List AV->Heap->Prop} (J:∀T h,K1 T h->K2 T h):∀(π:List Nat)(hist:List Heap)(T:List AV)(h:Heap),DR pc P ops lo K1 π hist T h->DR pc P ops lo K2 π hist T h
 |[],_,T,h,d=>J T h d
 |_i::π,_hist,_T,_h,d=>drStep_mono (fun hist' T' h' _ d=>DR.mono J π hist' T' h' d) d
theorem pO {τ:List Nat} (hnd:τ.Nodup) {x y:Nat} (hx:x∈τ)(hy:y∈τ)(hne:x≠y):(∀τ1 τ2,τ=τ1++y::τ2->x∈τ1)\/(∀τ1 τ2,τ=τ1++x::τ2->y∈τ1):=by
 obtain⟨a1,b1,hab⟩:=bNt hy;rw[hab] at hx;rcases bMo.1 hx with hxa|hxb
 ·left;intro τ1 τ2 hτ;rw[<-split_unique (by rw[<-hab];exact hnd) (hab.symm.trans hτ)];exact hxa
 ·rcases bMh.1 hxb with e|hxc
  ·exact absurd e hne
  right;intro τ1 τ2 hτ;obtain⟨c,d,hcd⟩:=bNt hxc;have hab2:τ=(a1++y::c)++x::d:=by rw[hab,hcd];simp
  rw[<-split_unique (by rw[<-hab2];exact hnd) (hab2.symm.trans hτ)];simp
theorem Run.drawIns {id:Nat} (z a b c:Nat)(lo0 rk0 tbl0 π0 lo1 rk1 tbl1 π1 lo2 rk2 tbl2 π2 lo3 rk3 tbl3 π3:List Nat)(S:List AV->Heap->Prop)(hm:P.follows .mixedOrders=true)(hz:(decide (z<ops.size)&& decide (a<ops.size)&& decide (b<ops.size)&& decide (c<ops.size)&& (z !=a)&& (z !=b)&& (z !=c))=true)
  (ok0:dP pc ops lo0 rk0 tbl0 [(z,a)] π0=true) (ok1:dP pc ops lo1 rk1 tbl1 [(a,z),(z,b)] π1=true) (ok2:dP pc ops lo2 rk2 tbl2 [(b,z),(z,c)] π2=true) (ok3:dP pc ops lo3 rk3 tbl3 [(c,z)] π3=true)
  (tail:∀T h,S T h->Run P rd nb k T h D Q)
  (d0:DR pc P ops lo0 S π0 [] T h) (d1:DR pc P ops lo1 S π1 [] T h) (d2:DR pc P ops lo2 S π2 [] T h) (d3:DR pc P ops lo3 S π3 [] T h):Run P rd nb (.code (.region id ops true)::k) T h D Q:=by
 replace d0:=DR.mono tail _ _ _ _ d0
 replace d1:=DR.mono tail _ _ _ _ d1
 replace d2:=DR.mono tail _ _ _ _ d2
 replace d3:=DR.mono tail _ _ _ _ d3
 intro E w act s;refine wpIn_region_draw fun t=>?_
 simp only[Region.schedule,hm,bOs,if_true];obtain⟨s',hfr⟩:=s.drew;have L:=qU ok0 t;simp only[bM8,bMi,bne_iff_ne,ne_eq] at hz;obtain⟨⟨⟨⟨⟨⟨hz,ha⟩,hb⟩,hc⟩,na⟩,nb'⟩,nc⟩:=hz;refine yy ?_;generalize Region.linearise.go .any ops ops.size t (Array.replicate ops.size false) []=τ at L;have mem:∀x,x<ops.size->x∈τ:=fun x hx=>(L.mem x).2 (unl_mem.2 ⟨hx,by simp[hx]⟩)
 have fin:(∀E w a,St E w a T h D->wpOpsIn (fen rd) 0 P ops (K P rd (Post nb Q E h w) k) τ a w)->wpOpsIn (fen rd) 0 P ops (K P rd (Post nb Q E h w) k) τ act {w with drawn:=w.drawn+1} :=fun hall=>
  wpOps_post (K_mono (P:=P) (rd:=rd) (Post.of_fr (Q:=Q) hfr) k) τ _ _ (hall E _ act s')
 have hnd:=L.nodup;rcases pO hnd (mem z hz) (mem a ha) na with h1|h1
 ·refine fin (bV ok0 L (fun u v hp=>?_) d0);simp at hp;obtain⟨rfl,rfl⟩:=hp;exact h1
 rcases pO hnd (mem z hz) (mem b hb) nb' with h2|h2
 ·refine fin (bV ok1 L (fun u v hp=>?_) d1);simp at hp;rcases hp with ⟨rfl,rfl⟩|⟨rfl,rfl⟩
  ·exact h1
  ·exact h2
 rcases pO hnd (mem z hz) (mem c hc) nc with h3|h3
 ·refine fin (bV ok2 L (fun u v hp=>?_) d2);simp at hp;rcases hp with ⟨rfl,rfl⟩|⟨rfl,rfl⟩
  ·exact h2
  ·exact h3
 ·refine fin (bV ok3 L (fun u v hp=>?_) d3);simp at hp;obtain⟨rfl,rfl⟩:=hp;exact h3
end
open Go Go.AI
section
variable {pc:List Nat} {P:Program} {rd:Option Nat} {nb:Nat} {ops:Array Oper} {D:List AD} {Q:AX->List AV->Heap->List AD->Prop} {k:List It} {T:List AV} {h:Heap} {o:Oper}
theorem NStep.appendV0 {s x:Operand} {t e:TypeId} {es:List (List PV)} {id sz sz':Nat} {z:List Value} (ho:o.op= .call ⟨.builtin .append,#[s,x],#[t,t]⟩)(he:elT P t=some e)(hz:aS P e=some z)
  (hs:aev T s= .vec id es.length) (hid:h.at id=some (.vec sz es)) (hx:aev T x= .p (.sl sz' [])):
  NStep P T o h fun x h'=>x= .vec id es.length/\h'=h:=by
 refine .inr ⟨fun c hc=>(by rw[hc] at ho;cases ho),fun T' hT E w a D st=>?_⟩
 replace hs:=(hT s (uW ho).1).trans hs
 replace hx:=(hT x (uW ho).2).trans hx
 have hsr:=aev_rep st s;have hsr':=hsr;rw[hs] at hsr hsr';simp only[Rep] at hsr;obtain⟨L,hL,_,ad0,cap0,hsv,hcur⟩:=hsr;obtain⟨blk,cap,ht,k1,k2,k3⟩:=st.rel.toks id _ _ _ _ _ hid rfl;rw[hL] at ht;cases ht;obtain⟨ha0,hc0⟩:=hcur rfl;simp only at hc0;have hxr:=aev_rep st x;rw[hx] at hxr;simp only[Rep,RepP] at hxr;obtain⟨ad2,cap2,hv2,_,_⟩:=hxr;obtain⟨i,_,hi,_,_,_,_⟩:=aN hz;refine⟨_,h,E,w,a.eval s,⟨rfl,rfl⟩,?_,st.rel,st.fresh,hsr',Fr.refl _ _ _⟩;refine exec_append ho ?_;rw[hsv,hv2];exact fJ (eZ he) hi ad0 ad2 es.length cap0 cap2 aB
theorem NStep.appendA {s x:Operand} {t e:TypeId} {es ys:List (List PV)} {id sz by_:Nat} {z:List Value} (ho:o.op= .call ⟨.builtin .append,#[s,x],#[t,t]⟩)(he:elT P t=some e)(hsz:szT P e=some sz)(hby:byT P e=some by_)(hz:aS P e=some z)
  (hs:aev T s= .vec id es.length) (hid:h.at id=some (.vec sz es)) (hes:∀e∈es,e.length=sz) (hx:aev T x= .p (.sl sz ys)) (hx2:sI (aev T x)=some ys) (hx3:srcSz sz (aev T x)=true) (hys:∀e∈ys,e.length=sz)
  (hb:(es.length+ys.length)*by_<=140737488355328) (hb2:es.length+ys.length<=9223372036854775807):
  NStep P T o h fun x h'=>x= .p (.sl sz (es++ys))/\h'=h.set id none:=by
 have hf:∀c,o.op≠ .call c\/∃b a t,c=⟨.builtin b,a,t⟩:=fun c=>by
  by_cases hc:o.op= .call c
  ·right;rw[ho] at hc;cases hc;exact⟨_,_,_,rfl⟩
  ·exact .inl hc
 by_cases h0:ys=[]
 ·subst h0;rw[bM1];exact NStep.frozen hid hes (NStep.appendV0 ho he hz hs hid hx) hf
 ·have hp:0<ys.length:=bNx.2 h0;have hlt:=bD hid
  have:=NStep.frozen (id:=id) (sz:=sz) (es:=es++ys) (h1:=h.set id (some (.vec sz (es++ys)))) (by simp[Heap.at,hlt]) (fun e he=>(bMo.1 he).elim (hes e) (hys e)) (by
   rw[bM5];exact NStep.appendV ho he hsz hby hz hs hid hes hx2 hx3 hp hb hb2) hf
  rw[List.set_set] at this;exact this
theorem DR.one {lo:List Nat} {Kont:List AV->Heap->Prop} {π:List Nat} {hist:List Heap} {i:Nat} {o:Oper} {x:AV} (hi:ops[i]?=some o)(hE:eF pc i o=false)(hw:awanted ops T o=some true)(ha:aop P (aev T) h o.op=some (x,h))
  (hst:stab P T x o (hist.drop (lo.getD i 0))) (d:DR pc P ops lo Kont π hist (tput T o.dst x) h):DR pc P ops lo Kont (i::π) hist T h:=
 ⟨o,hi, .inr (.inl ⟨hw,hE,x, .inl ha,hst,d⟩)⟩
theorem DR.eff {lo:List Nat} {Kont:List AV->Heap->Prop} {π:List Nat} {hist:List Heap} {i:Nat} {o:Oper} {x:AV} {h':Heap} (hi:ops[i]?=some o)(hE:eF pc i o=true)(hw:awanted ops T o=some true)(ha:aop P (aev T) h o.op=some (x,h'))
  (d:DR pc P ops lo Kont π (hist++[h]) (tput T o.dst x) h'):DR pc P ops lo Kont (i::π) hist T h:=
 ⟨o,hi, .inr (.inr (.inl ⟨hw,hE,x,h',ha,d⟩))⟩
end
end Go.AI.NB
namespace Go.Proofs.YtplomildbmcmfaaGreat
open Go Go.AI
mutual
theorem aTa (d:Int)(hd:0<=d):∀(t:Tm)(m dp:Int),t.ok m->m+t.size+d<=65536->bE d 0 dp t=false
 | .mk k i n ls ks,m,dp,h,hm=>by
  simp only[Tm.ok,Tm.okN] at h;simp only[Tm.size] at hm;simp only[bE]
  by_cases hk:k=0
  ·rw[if_pos hk];have:=h.1.1 hk;simp;omega
  ·rw[if_neg hk];exact aJ3 d hd ks m k 0 dp h.2 aB
theorem aJ3 (d:Int)(hd:0<=d):∀(l:List Tm)(m k:Int)(idx:Nat)(dp:Int),Tm.oks m k idx l->m+1+Tm.sizes l+d<=65536->aV d 0 dp k idx l=false
 |[],_,_,_,_,_,_=>by simp only[aV]
 |t::ts,m,k,idx,dp,h,hm=>by
  simp only[Tm.oks] at h;simp only[Tm.sizes] at hm;have hb:=jF k idx;simp only[aV];rw[aTa d hd t _ _ h.1 aB,aJ3 d hd ts m k (idx+1) dp h.2 aB]
  rfl
end
theorem aWl {t a b:Tm} {m:Int} (h:isB 6 t=some (a,b))(ho:t.ok m):a.ok (m+1)/\b.ok (m+1)/\a.size+b.size+1<=t.size:=by
 obtain⟨k',i,n,ls,ks⟩:=t
 match ks,h with
 |[x,y],h=>
  simp only[isB] at h;split at h
  ·injection h with h;injection h with h1 h2
   subst h1;subst h2;simp only[Tm.ok,Tm.oks] at ho;have b1:=jF k' (0:Nat);have b2:=jF k' (0+1:Nat);simp only[Tm.size,Tm.sizes];exact⟨nL _ _ _ ho.2.1 aB,nL _ _ _ ho.2.2.1 aB,by omega⟩
  ·cases h
theorem yX (B:Int):∀(n:Nat)(acc:List Tm)(t:Tm)(m:Int),(∀u∈acc,u.ok B)->t.ok m->m+t.size<=B->(∀u∈(gS n acc t).1,u.ok B)
 |0,acc,t,m,ha,_,_=>ha
 |n+1,acc,t,m,ha,ho,hB=>by
  simp only[gS]
  cases hb:isB 6 t with
  |none=>simp
  |some p=>
   obtain⟨a,b⟩:=p;have h:=aWl hb ho;refine yX B n (acc++[a]) b (m+1) (fun u hu=>?_) h.2.1 aB;rcases bMo.1 hu with hu|hu
   ·exact ha u hu
   ·simp at hu;subst hu;exact nL _ _ _ h.1 aB
theorem yW:∀(n:Nat)(acc:List Tm)(t:Tm),(gS n acc t).2.2=0->(gS n acc t).1.length=acc.length+n
 |0,acc,t,_=>rfl
 |n+1,acc,t,h=>by
  simp only[gS] at h⊢
  cases hb:isB 6 t with
  |none=>rw[hb] at h;simp at h
  |some p=>
   obtain⟨a,b⟩:=p;rw[hb] at h;simp only at h⊢;rw[yW n _ _ h];simp;omega
theorem rA (t:Tm)(n:Int)(h:(aU t n).2.2=0):((aU t n).1.length:Int)=n:=by
 unfold aU at h⊢
 by_cases hn:n<0
 ·rw[if_pos hn] at h;simp at h
 ·rw[if_neg hn] at h⊢;rw[yW _ _ _ h];simp;omega
theorem aNv (t:Tm)(n:Int)(ho:t.ok 0)(hs:t.size<=120):(aU t n).2.2=0->bEf n (aU t n).1:=by
 have k1:=uF t n (aEv _ _ ho)
 have k2:∀u∈(aU t n).1,u.ok 240:=by
  unfold aU
  by_cases hn:n<0
  ·rw[if_pos hn];simp
  ·rw[if_neg hn];exact yX 240 _ _ _ 0 aA ho aB
 have k3:=rA t n;have hlen:(aU t n).1.length<=120:=aB;intro he j u hu;have hmem:=bMa hu;have hj:=(bLw.1 hu).1;have hn:=k3 he;have hu2:=k1.1 u hmem;have hok:=nL _ _ 65536 (k2 u hmem) aB;refine⟨⟨by simpa using hok,by omega,by omega⟩,?_⟩;rw[aNd _ _ _ hok];unfold iJ;rw[if_neg aB,if_neg (by simpa using aTa (n-j) aB u 240 0 (k2 u hmem) aB)]
theorem aMn:∀(n:Nat)(acc:List Tm)(t:Tm),(gS n acc t).2.2=0\/(gS n acc t).2.2=13
 |0,acc,t=> .inl rfl
 |n+1,acc,t=>by
  simp only[gS]
  cases isB 6 t with
  |none=>exact .inr rfl
  |some p=>exact aMn n _ _
theorem bLc (t:Tm)(n:Int)(hn:0<=n):(stP t n).2=0\/(stP t n).2=13:=by
 have h1:=aMn n.toNat [] t;have h2:aU t n=gS n.toNat [] t:=by unfold aU;rw[if_neg (show¬n<0 by omega)]
 unfold stP;rw[h2];split
 ·exact h1
 ·exact .inl rfl
open Go Go.AI
theorem kV (i:Int)(h:Heap)(hh:WF h):ACalls Tryz.prog 21 [iA i] h fun o h'=>o= .ret (vr i).av/\h'=h:=by
 refine ACalls.of_run Tryz.func21 rfl ?_;simp only[Tryz.ntmps21,bM2,bM3,Tm.av];refine aT0 ?_;refine Fin.ret' (h0:=h) (xs:=[.agg [iA 0,iA i, .p (sP []), .p (.prim (.slice none 0 0)), .p (.prim (.slice none 0 0))]]) aA rfl hh rfl aA rfl ?_ (by simp[vr]) ⟨rfl,rfl⟩;simp only[vr,cells_mk,List.map];exact Weak.agg (WeakL.cons (Weak.refl _) (WeakL.cons (Weak.refl _) (WeakL.cons (Weak.refl _) (WeakL.cons (Weak.nil _) (WeakL.cons (Weak.nil _) WeakL.nil)))))
def aR8 (n:Nat):List (List PV):=List.replicate n [iP 0,sP [], .prim (.slice none 0 0)]
theorem aRa (N:Nat):∀e∈aR8 N,e.length=3:=fun e he=>by rw[List.eq_of_mem_replicate he];rfl
theorem aR9 (N:Nat):(List.replicate N [AV.p (.prim (.int .i64 0)),AV.p (.prim (.string ⟨#[]⟩)),AV.p (.prim (.slice none 0 0))]).flatten=buf 3 (aR8 N) 0:=by
 simp only[buf,aR8,Nat.zero_mul,List.replicate_zero,bM1,jN]
 rfl
theorem zC:∀N:Nat,WeakPs (aR8 N) (ptPs (List.replicate N zP))
 |0=>by simp[aR8,ptPs];exact WeakPs.nil
 |N+1=>by
  have:=zC N;unfold aR8 at this⊢;rw[vT] at this⊢;rw[bN3,bN3,bMd];refine WeakPs.cons ?_ this;simp only[zP,pcells_mk]
  repeat' (first|exact WeakPL.nil|apply WeakPL.cons)
  all_goals first|exact WeakP.refl _|exact WeakP.nil _
theorem rZ (n:Nat)(hn:n<=1000)(h:Heap)(hh:WF h):ACalls Tryz.prog 20 [iA n] h fun o h'=>o= .ret (Cl.mk (List.replicate n zP) (.mk 1 0 [] [] [])).av/\h'=h:=by
 have hm1:n<=1099511627776:=aB;have hm3:n<=140737488355328:=aB;have hm6:n*48<=140737488355328:=aB;refine zER Tryz.func20 Tryz.ntmps20 ?_;refine zr2 hm1 hm6 ?_;simp only[aR9];refine Run.freezeAt h.length 0 (sz:=3) (m:=0) (es:=aR8 n) (n:=n) (cap:=n) aE aE aA aB (aRa n) (by simp[aR8]) (bLx _) ?_;simp;refine Run.ret ?_;refine Fin.ret' (h0:=h) (xs:=[.agg [.p (.sl 3 (aR8 n)),iA 1,iA 0, .p (sP []), .p (.prim (.slice none 0 0)), .p (.prim (.slice none 0 0))]]) aA rfl hh rfl aA rfl ?_ aA ⟨rfl,rfl⟩;simp only[Cl.av,Cl.cells,Tm.cells,List.map];exact Weak.agg (WeakL.cons (WeakP.sl (zC n)).av (WeakL.cons (Weak.refl _) (WeakL.cons (Weak.refl _) (WeakL.cons (Weak.refl _) (WeakL.cons (Weak.nil _) (WeakL.cons (Weak.nil _) WeakL.nil))))))
open Go Go.AI
theorem aTx (env:List Dc):∀n:Nat,eB env (List.replicate n zP)=0
 |0=>by simp[eB]
 |n+1=>by
  have:=aTx env n;rw[bN3,eB];have h:aAl env zP=0:=by simp[aAl]
  rw[if_pos h,this]
theorem bE9 (n:Nat):jA 3 (List.replicate n zP)=false:=by
 rw[qG,List.any_eq_false];intro p hp;rw[List.eq_of_mem_replicate hp];simp[aLn,jA]
theorem aTy:∀n:Nat,bT (List.replicate n zP)=n
 |0=>by simp[bT]
 |n+1=>by
  have:=aTy n;rw[bN3,bT,this];simp[aTd,bT];omega
theorem bE3 (n:Nat)(hn:0<n)(hn8:n<=8):dK n 8 0 0 (vr ((n:Int)-1))=0:=by
 have:n=1\/n=2\/n=3\/n=4\/n=5\/n=6\/n=7\/n=8:=aB;rcases this with rfl|rfl|rfl|rfl|rfl|rfl|rfl|rfl<;>decide+kernel
theorem aQ4 (env:List Dc)(n:Nat)(hn:0<n)(hn8:n<=8):wS env ⟨List.replicate n zP,vr ((n:Int)-1)⟩ n=0:=by
 unfold wS;simp only[List.length_replicate,aTx,bE9,aTy,bE3 n hn hn8];rw[if_neg aB,if_neg aA,if_neg aA,if_neg aB,if_neg aA]
end Go.Proofs.YtplomildbmcmfaaGreat
