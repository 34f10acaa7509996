import Derived.Test.YtcfcolkbeelegaaGreatJA0
import Derived.Test.YtcfcolkbeelegaaGreatJLP
import Derived.Test.YtcfcolkbeelegaaGreatJE12
set_option maxRecDepth 8000
set_option maxHeartbeats 16000000
namespace Go.Proofs.YtcfcolkbeelegaaGreat
open Go Go.AI
theorem jW {P:Int->Prop} :∀(a b:List (Int×Int)),(∀y∈a,P y.1)->(∀y∈b,P y.1)->∀y∈bR a b,P y.1
 |[],b,_,hb,y,hy=>by rw[cU] at hy;exact hb y hy
 |a,[],ha,_,y,hy=>by rw[dC] at hy;exact ha y hy
 |(i,p)::a,(k,q)::b,ha,hb,y,hy=>by
  rw[bR] at hy;have hi:=ha (i,p) aA;have hk:=hb (k,q) aA;split at hy
  ·rcases aZg.1 hy with rfl|hy
   ·exact hi
   ·exact jW a _ (fun y h=>ha y (by simp[h])) hb y hy
  ·split at hy
   ·rcases aZg.1 hy with rfl|hy
    ·exact hk
    ·exact jW _ b ha (fun y h=>hb y (by simp[h])) y hy
   ·rcases aZg.1 hy with rfl|hy
    ·exact hi
    ·exact jW a b (fun y h=>ha y (by simp[h])) (fun y h=>hb y (by simp[h])) y hy
termination_by a b=>a.length+b.length
def KeyOk (vs:List (Int×Int)):Prop:=upL vs/\∀y∈vs,-65536<=y.1/\y.1<8
theorem KeyOk.len {vs:List (Int×Int)} (h:KeyOk vs):vs.length<=65544:=by
 have:=pS 65544 (vs.map Prod.fst) (-65536) h.1.nodup fun x hx=>by
  obtain⟨y,hy,rfl⟩:=aZq.1 hx;have:=h.2 y hy;omega
 exact y6y
theorem KeyOk.merge {a b:List (Int×Int)} (ha:KeyOk a)(hb:KeyOk b):KeyOk (bR a b):=
 ⟨jF _ _ ha.1 hb.1,jW (P:=fun i=>-65536<=i/\i<8) a b ha.2 hb.2⟩
theorem KeyOk.plus {a:List (Int×Int)} (ha:KeyOk a)(n:Int):KeyOk (iO a n):=
 ⟨sB ha.1,fun y hy=>by obtain⟨z,hz,rfl⟩:=aZq.1 hy;exact ha.2 z hz⟩
theorem Vd.key {l:Lv} (h:Vd l):KeyOk l.vars:=⟨h.up,fun y hy=>⟨h.i0 y hy,h.i1 y hy⟩⟩
theorem KeyOk.plusL {l:Lv} (h:Vd l)(n:Int):KeyOk (plusL l n).1.vars:=by
 have e:(Go.Proofs.YtcfcolkbeelegaaGreat.plusL l n).1.vars=[]\/(Go.Proofs.YtcfcolkbeelegaaGreat.plusL l n).1.vars=iO l.vars n:=by
  unfold Go.Proofs.YtcfcolkbeelegaaGreat.plusL;simp only;generalize (if 0<l.c\/l.vars=[] then l.c+n else 0)=c
  by_cases h1:100<c
  ·rw[if_pos h1];exact .inl rfl
  ·rw[if_neg h1]
   by_cases h2:l.vars.all (fun x=>decide (x.2+n<=100))=true
   ·rw[if_pos h2];exact .inr rfl
   ·rw[if_neg h2];exact .inl rfl
 rcases e with e|e<;>rw[e]
 ·exact⟨trivial,by simp⟩
 ·exact h.key.plus n
theorem qZ (h:Heap)(hh:WF h)(l:Lv)(vals:List Lv)(metas:Bool)(hl:Vd l)(hv:∀x∈vals,Vd x/\aY x=true)(hb:l.vars.length<=1048576)(_hbs:vals.length<=1048576):
  AC 167 [l.av, .p (.sl 2 (aW vals)),bA metas] h (.tup [(uP vals metas l.vars ⟨l.c,[]⟩).1.av,iA (uP vals metas l.vars ⟨l.c,[]⟩).2]):=by
 have hkey:=hl.key;have hp0:=hl.v0;have hp1:=hl.v1;obtain⟨c,vs⟩:=l;simp only at hb hkey hp0 hp1;obtain⟨r,hr⟩:∃r,uP vals metas vs ⟨c,[]⟩=r:=⟨_,rfl⟩;simp only[hr];refine y12 ?_;refine cW Tryz.func167 Tryz.ntmps167 ?_;refine zL (aEx _ (hh.app aA) c) ?_;refine y12 ?_;refine zor ?_
 refine Run.loopS (ι:=Nat×Lv) [1,2,3,6,8] (fun p=>p.1<=vs.length/\KeyOk p.2.vars/\uP vals metas (vs.drop p.1) p.2=r) (fun p=>vs.length-p.1) (fun p=>[(9,iA p.1)])
  (fun p=>h++[some (.cells [iA c, .p (.sl 2 (bN vs))]),some (.cells [iA 0, .p (.prim (.slice none 0 0))]),some (.cells (p.2.cells.map .p))]) (0,⟨c,[]⟩) ⟨by simp,⟨trivial,by simp⟩,by simpa using hr⟩ ?_ (by simp[Lv.cells,bN]) ?_
 ·exact zS
 rintro⟨j,o⟩ ⟨hj,hok,hrr⟩ IH;simp only at hj hok hrr;have hol:=hok.len;obtain⟨oc,ov⟩:=o;simp only at hol hok;simp[Lv.cells];refine znr ?_
 by_cases hjl:j<vs.length
 ·have hg:vs[j]?=some vs[j]:=aYu hjl;have k0:=hp0 _ (aYx hjl);have k1:=hp1 _ (aYx hjl);have k2:=hkey.2 _ (aYx hjl);rw[bD hg] at hrr;simp only[uP] at hrr;generalize vs[j]=v at hg k0 k1 k2 hrr;obtain⟨a,b⟩:=v;simp only at k0 k1 k2;obtain⟨i,hi⟩:∃i,(if metas then-1-a else a)=i:=⟨_,rfl⟩;have w1:IntKind.i64.wrap (-1-a)=-1-a:=aQ aB aB;refine nT hjl hg ?_;refine zr ?_;refine Run.joinH [1,2,3,6,8,9,10] [(11,iA i)] (h++[some (.cells [iA c, .p (.sl 2 (bN vs))]),some (.cells [iA 0, .p (.prim (.slice none 0 0))]),some (.cells [iA oc, .p (.sl 2 (bN ov))]),some (.cells [iA a,iA b])]) (fun hJ=>?_) ?_
  ·cases metas with
   |true=>
    simp only[if_true] at hi;subst hi;refine zt ?_;refine zq1 w1 ?_;exact y3e
   |false=>
    simp only[aZd,if_false] at hi;subst hi;refine cf aA ?_;refine Run.skip ?_;exact y5p
  refine y7 ?_;refine cI ?_;have hhit:aS1 vals metas (a,b)=if decide (a<0)=metas then vals[i.toNat]? else none:=by unfold aS1;simp only;rw[hi]
  by_cases hm:decide (a<0)=metas
  ·have hbe:(decide (a<0)==metas)=true:=by rw[hm];simp
   have hi0:0<=i:=by rw[<-hi,<-hm];by_cases ha:a<0<;>simp[ha]<;>omega
   rw[if_pos hm] at hhit
   by_cases hil:i<(vals.length:Int)
   ·have hgx:vals[i.toNat]?=some vals[i.toNat]:=aYu aB;have hVx:=hv _ (aYx (show i.toNat<vals.length by omega));generalize vals[i.toNat]=x at hgx hVx;rw[hgx] at hhit;have hpart:pV vals metas (a,b)=plusL x b:=by unfold pV;rw[hhit]
    have hxl:=hVx.1.key.len;have hpk:=KeyOk.plusL hVx.1 b;have hcp:=fun(g:Heap) (hg:WF g)=>aNh g hg x b hVx.1 hVx.2 aB k0 k1
    rw[hpart] at hrr;obtain⟨⟨⟨pc,pv⟩,pe⟩,hpe⟩:∃q,plusL x b=q:=⟨_,rfl⟩;rw[hpe] at hrr hpk;simp only[hpe,Lv.av,Lv.cells,List.map] at hcp;simp only at hrr hpk;have hpl:=hpk.len;obtain⟨xc,xv⟩:=x;have hin:¬i<0:=aB;refine sH hbe hil ?_;refine zt ?_;refine ND.Run.drawP (pc:=[6]) [0,0,0,0,0,0,0,0,0,0,0,1,2] [0,0,0,0,0,0,0,0,0,0,0,1,0] [0,0,3,7,0,16,63,127,255,255,0,1535,4095] [10,0,1,2,3,4,5,6,7,8,11,9,12] aC aC ?_;refine aY9 hgx hin ?_;refine ND.DR.pcall rfl rfl rfl aA rfl rfl (fun g hg=>(hcp) g ?_) ?_
    ·exact y2v
    refine zm ?_;refine y9 ?_;refine znr ?_
    by_cases he:pe=0
    ·rw[if_neg (by simp[he])] at hrr;refine dJ he ?_;refine zr ?_;refine rl (args:=[(Lv.mk oc ov).av,(Lv.mk pc pv).av]) rfl rfl (by simp[Lv.av,Lv.cells,bN]) rfl (aCk _ (hh.app aA) ⟨oc,ov⟩ ⟨pc,pv⟩ (by simp only;omega) (by simp only;omega)) ?_;obtain⟨⟨c2,v2⟩,hj2⟩:∃q,yQ ⟨oc,ov⟩ ⟨pc,pv⟩=q:=⟨_,rfl⟩
     have hk2:KeyOk v2:=by
      have:KeyOk (yQ ⟨oc,ov⟩ ⟨pc,pv⟩).vars:=hok.merge hpk;rw[hj2] at this;exact this
     rw[hj2] at hrr⊢;refine y12 ?_;refine zo ?_;refine Run.keep [1,2,3,6,8,9] ?_;refine yf ?_;refine y1x ?_;refine IH (j+1,⟨c2,v2⟩) _ _ ⟨by simp;omega,hk2,hrr⟩ (by simp;omega) ?_ ?_
     ·exact zS
     ·simp[Lv.cells]
    ·rw[if_pos he] at hrr;subst hrr;refine fT he ?_;refine Fin.ret' (h0:=h) aA rfl hh rfl aE rfl (y:= .tup [.agg [iA 0, .p (.sl 2 (bN []))],iA pe]) ?_ aA ⟨rfl,rfl⟩;exact y3d
   ·have hgx:vals[i.toNat]?=none:=bAy aB;rw[hgx] at hhit;have hpart:pV vals metas (a,b)=(⟨0,[(a,b)]⟩,0):=by unfold pV;rw[hhit]
    rw[hpart] at hrr;simp only[ne_eq,bBf,if_false] at hrr;refine sH hbe hil ?_;refine yw ?_;exact y3v
  ·have hbe:(decide (a<0)==metas)=false:=by simpa using hm
   rw[if_neg hm] at hhit;have hpart:pV vals metas (a,b)=(⟨0,[(a,b)]⟩,0):=by unfold pV;rw[hhit]
   rw[hpart] at hrr;simp only[ne_eq,bBf,if_false] at hrr;refine aDj hbe ?_;exact y3v
 ·have hje:j=vs.length:=aB;subst hje;rw[bAn] at hrr;simp only[uP] at hrr;subst hrr;refine cY ?_;exact y3f
open Go Go.AI
theorem vD (l:Lv)(vals:List Lv)(hl:aY l=true)(hv:∀x∈vals,Vd x)(metas:Bool):uP vals metas l.vars ⟨l.c,[]⟩=aKb (l.vars.foldl (gL vals metas) (l.c,[])):=
 zN hv l.vars ⟨l.c,[]⟩ (l.c,[]) (fun v h=>⟨(Vd.of hl).v0 v h,(Vd.of hl).v1 v h⟩) (InvL.start (Vd.of hl))
theorem aJi (h:Heap)(hh:WF h)(l:Lv)(vals:List Lv)(hb:l.vars.length<=1048576)(hbs:vals.length<=1048576)(hbv:∀x∈vals,x.vars.length<=1048576):
  AC 114 [l.av, .p (.sl 2 (aW vals))] h (.tup [(iJ l vals).1.av,iA (iJ l vals).2]):=by
 have hv:=fun(g:Heap) (hg:WF g)=>jN g hg l hb
 have hva:=fun(g:Heap) (hg:WF g)=>oT g hg vals hbs hbv
 have hpa:=fun(g:Heap) (hg:WF g)=>aF1 g hg l hb
 have hre:=fun(e:aY l=true) (e2:vals.all aY=true) (g:Heap) (hg:WF g)=>qZ g hg l vals false (Vd.of e) (fun x hx=>⟨Vd.of (aZf.1 e2 x hx),aZf.1 e2 x hx⟩) hb hbs
 have hsr:=fun(e:aY l=true) (e2:vals.all aY=true)=>vD l vals e (fun x hx=>Vd.of (aZf.1 e2 x hx)) false
 obtain⟨r,hr⟩:∃r,iJ l vals=r:=⟨_,rfl⟩;rw[hr];unfold iJ at hr;generalize aY l=b1 at hv hr hre hsr;generalize vals.all aY=b2 at hva hr hre hsr;generalize iE l=pa at hpa hr;obtain⟨c,vs⟩:=l;simp only[Lv.av,Lv.cells,List.map] at hv hpa hb hr hre⊢;refine cW Tryz.func114 Tryz.ntmps114 ?_;refine zL (hv _ (hh.app aA)) ?_
 cases b1 with
 |false=>
  refine aOj ?_;simp only[bB7,bBr,if_true] at hr;exact y39
 |true=>
  refine zo ?_;refine zL (hva _ (hh.app aA)) ?_
  cases b2 with
  |false=>
   refine aOj ?_;simp only[bBn,bB7,bB5,if_true] at hr;exact y39
  |true=>
   have hre:=hre rfl rfl;have hsr:=hsr rfl rfl;simp only[hsr] at hre;simp only[bBn,bB5,aZd,if_false] at hr;refine rJ ?_;refine zL (hpa _ (hh.app aA)) ?_;refine zo ?_
   by_cases h1:(vals.length:Int)<pa
   ·refine kL h1 ?_;rw[if_pos h1] at hr;subst hr;refine Run.ret ?_;refine Fin.ret' (h0:=h) aA rfl hh rfl aE rfl (y:= .tup [.agg [iA 0, .p (.sl 2 (bN []))],iA 24]) ?_ aA ⟨rfl,rfl⟩;exact y3d
   ·refine vL h1 ?_;rw[if_neg h1] at hr;simp only[hr] at hre;obtain⟨⟨rc,rv⟩,re⟩:=r;simp only[] at hre⊢;refine znr ?_;refine zL (hre _ (hh.app aA)) ?_;refine zox ?_;exact y2s
theorem aEs (h:Heap)(hh:WF h)(l:Lv)(vals:List Lv)(hb:l.vars.length<=1048576)(hbs:vals.length<=1048576)(hbv:∀x∈vals,x.vars.length<=1048576):
  AC 115 [l.av, .p (.sl 2 (aW vals))] h (.tup [(mX l vals).1.av,iA (mX l vals).2]):=by
 have hv:=fun(g:Heap) (hg:WF g)=>jN g hg l hb
 have hva:=fun(g:Heap) (hg:WF g)=>oT g hg vals hbs hbv
 have hre:=fun(e:aY l=true) (e2:vals.all aY=true) (g:Heap) (hg:WF g)=>qZ g hg l vals true (Vd.of e) (fun x hx=>⟨Vd.of (aZf.1 e2 x hx),aZf.1 e2 x hx⟩) hb hbs
 have hsr:=fun(e:aY l=true) (e2:vals.all aY=true)=>vD l vals e (fun x hx=>Vd.of (aZf.1 e2 x hx)) true
 obtain⟨r,hr⟩:∃r,mX l vals=r:=⟨_,rfl⟩;rw[hr];unfold mX at hr;generalize aY l=b1 at hv hr hre hsr;generalize vals.all aY=b2 at hva hr hre hsr;obtain⟨c,vs⟩:=l;simp only[Lv.av,Lv.cells,List.map] at hv hb hr hre⊢;refine cW Tryz.func115 Tryz.ntmps115 ?_;refine zL (hv _ (hh.app aA)) ?_
 cases b1 with
 |false=>
  refine aOj ?_;simp only[bB7,bBr,if_true] at hr;exact y39
 |true=>
  refine zo ?_;refine zL (hva _ (hh.app aA)) ?_
  cases b2 with
  |false=>
   refine aOj ?_;simp only[bBn,bB7,bB5,if_true] at hr;exact y39
  |true=>
   have hre:=hre rfl rfl;have hsr:=hsr rfl rfl;simp only[hsr] at hre;simp only[bBn,bB5,aZd,if_false] at hr;simp only[hr] at hre;obtain⟨⟨rc,rv⟩,re⟩:=r;simp only[] at hre⊢;refine rJ ?_;refine zL (hre _ (hh.app aA)) ?_;refine zox ?_;exact y2s
def wD (f:Lv->Lv×Int)(err:Int)(ls:List Lv):Int:=ls.foldl (fun e l=>cO e (f l).2) err
mutual
def lvT (f:Lv->Lv×Int):Tm->Tm
 | .mk k i n ls ks=> .mk k i n (ls.map fun l=>(f l).1) (yY f ks)
def yY (f:Lv->Lv×Int):List Tm->List Tm
 |[]=>[]
 |t::ts=>lvT f t::yY f ts
end
mutual
def leT (f:Lv->Lv×Int)(err:Int):Tm->Int
 | .mk _ _ _ ls ks=>yT f (wD f err ls) ks
def yT (f:Lv->Lv×Int)(err:Int):List Tm->Int
 |[]=>err
 |t::ts=>yT f (leT f err t) ts
end
theorem tU (f:Lv->Lv×Int)(l:List Tm):(yY f l).length=l.length:=by
 induction l with
 |nil=>rfl
 |cons x l ih=>simp[yY,ih]
theorem aMf (f:Lv->Lv×Int)(l:List Tm)(t:Tm):yY f (l++[t])=yY f l++[lvT f t]:=by
 induction l with
 |nil=>rfl
 |cons x l ih=>simp[yY,ih]
theorem aBv (f:Lv->Lv×Int):∀(l:List Tm)(t:Tm)(err:Int),yT f err (l++[t])=leT f (yT f err l) t
 |[],t,err=>by simp[yT]
 |x::l,t,err=>by simp only[aYy,yT];exact aBv f l t _
theorem aLe (f:Lv->Lv×Int)(err:Int) {ls:List Lv} {j:Nat} {l:Lv} (h:ls[j]?=some l):wD f err (ls.take (j+1))=cO (wD f err (ls.take j)) (f l).2:=by
 have e:ls.take (j+1)=ls.take j++[l]:=by rw[bAg,h];rfl
 rw[e];simp[wD]
theorem yL (e:Int):cO e 0=e:=by unfold cO;split<;>simp_all
def lvF (vals:List Lv)(metas:Bool)(l:Lv):Lv×Int:=if metas then mX l vals else iJ l vals
open Go Go.AI
theorem aR7 (vals:List Lv)(metas:Bool)(hbs:vals.length<=1048576)(hbv:∀x∈vals,x.vars.length<=1048576)(nodes:Int)(N:Nat):
  ∀(t:Tm) (err:Int) (h:Heap) (id:Nat),t.size<=N->t.size<=1048576->t.lvs->WF h->h[id]?=some (wk err nodes)->
  ACalls Tryz.prog 57 [.ptr id 0,t.av, .p (.sl 2 (aW vals)),bA metas] h fun o h'=>o= .ret (lvT (lvF vals metas) t).av/\h'=h.set id (wk (leT (lvF vals metas) err t) nodes):=by
 induction N with
 |zero=>intro t _ _ _ hN;have:=t.size_pos;omega
 |succ N ih=>
 intro t err h id hN hB hlv hh hid;obtain⟨g1,g2,g3,g4,g5,hlt⟩:=idf hid;obtain⟨k,i,n,ls,ks⟩:=t;simp only[Tm.size] at hN hB;simp only[Tm.lvs] at hlv;obtain⟨hl1,hl2,hl3⟩:=hlv;have hF:∀l,lvF vals metas l=if metas then mX l vals else iJ l vals:=fun _=>rfl
 simp only[lvT,leT];generalize lvF vals metas=f at hF ih⊢;refine ACalls.of_run Tryz.func57 rfl ?_;simp only[Tryz.ntmps57,aZ1,aZ2,Tm.av,aH,List.map];refine iQ ?_;refine Run.tok 9 2 aA ?_;simp
 refine Run.loopS (ι:=Nat) [0,2,3,5,8] (fun j:Nat=>j<=ls.length) (fun j=>ls.length-j) (fun j=>[(9, .own (h.length+2) 2 (aW ((ls.take j).map fun l=>(f l).1))),(10,iA j)])
  (fun j=>h.set id (wk (wD f err (ls.take j)) nodes)++[some (.cells [iA k,iA i, .p (sP n), .p (.sl 2 (aW ls)), .p (.sl 5 (aL ks))]),some (.cells [iA 0,iA 0, .p (sP []), .p (.prim (.slice none 0 0)), .p (.prim (.slice none 0 0))]),some (.tok j 2)]) 0 aB ?_ (by simp[wD,dO hid]) ?_
 ·simp[aW];exact zK
 ·intro j hj IH;refine cI ?_
  by_cases hjl:j<ls.length
  ·have hg:ls[j]?=some ls[j]:=aYu hjl;have hbl:=hl2 _ (aYx hjl);have hsn:=aLe f err hg;have htk:ls.take (j+1)=ls.take j++[ls[j]]:=aZ5 hjl;have hcs:=fun(g:Heap) (hg:WF g)=>aJi g hg ls[j] vals hbl hbs hbv
   have hca:=fun(g:Heap) (hg:WF g)=>aEs g hg ls[j] vals hbl hbs hbv
   have hfj:=hF ls[j];generalize ls[j]=l at hg hsn htk hcs hca hfj;generalize iJ l vals=r1 at hcs hfj;generalize mX l vals=r2 at hca hfj;obtain⟨⟨c2,v2⟩,e2⟩:=r2;obtain⟨⟨c1,v1⟩,e1⟩:=r1;obtain⟨⟨⟨c',v'⟩,e⟩,hfl⟩:∃q,f l=q:=⟨_,rfl⟩;rw[hfl] at hfj hsn;simp only at hsn;obtain⟨c,v⟩:=l;simp only[Lv.av,Lv.cells,List.map] at hcs hca;have hmin:min j ls.length=j:=bAb hj;have hb3:(j+1)*32<=140737488355328:=aB;have hb4:j+1<=9223372036854775807:=aB;refine aA8 hjl hg ?_;refine zL (hcs _ ((hh.set aA).app aA)) ?_;refine zo ?_;refine zq ?_
   repeat (first|refine Run.skip ?_|refine Run.opsNil ?_|refine Run.inBlock ?_)
   refine Run.joinH [0,2,3,5,8,9,10,11] [(12,iA e)] (h.set id (wk (wD f err (ls.take j)) nodes)++[some (.cells [iA k,iA i, .p (sP n), .p (.sl 2 (aW ls)), .p (.sl 5 (aL ks))]),some (.cells [iA 0,iA 0, .p (sP []), .p (.prim (.slice none 0 0)), .p (.prim (.slice none 0 0))]),some (.tok j 2),some (.cells [iA c', .p (.sl 2 (bN v'))])]) (fun hJ=>?_) ?_
   ·cases metas with
    |true=>
     simp only[if_true,aZe,Lv.mk.injEq] at hfj;obtain⟨⟨rfl,rfl⟩,rfl⟩:=hfj;refine zt ?_;refine zqv0 hg ?_
     repeat (first|refine Run.skip ?_|refine Run.opsNil ?_|refine Run.inBlock ?_)
     refine zL (hca _ ((hh.set aA).app aA)) ?_;refine Run.ops fun K J=>?_
     simp;refine zi ?_;clear J;exact y3e
    |false=>
     simp only[aZd,if_false,aZe,Lv.mk.injEq] at hfj;obtain⟨⟨rfl,rfl⟩,rfl⟩:=hfj;refine cf aA ?_;refine Run.skip ?_;exact y5p
   refine y7 ?_;refine zsn ?_;refine zq ?_
   repeat (first|refine Run.skip ?_|refine Run.opsNil ?_|refine Run.inBlock ?_)
   refine Run.joinH [0,2,3,5,8,9,10,11] [] (h.set id (wk (wD f err (ls.take (j+1))) nodes)++[some (.cells [iA k,iA i, .p (sP n), .p (.sl 2 (aW ls)), .p (.sl 5 (aL ks))]),some (.cells [iA 0,iA 0, .p (sP []), .p (.prim (.slice none 0 0)), .p (.prim (.slice none 0 0))]),some (.tok j 2),some (.cells [iA c', .p (.sl 2 (bN v'))])]) (fun hJ=>?_) ?_
   ·by_cases he:e=0
    ·rw[he,yL] at hsn;rw[hsn] at hJ;refine cf (by simp[he]) ?_;refine Run.skip ?_;exact y5p
    ·refine ct (by simp[he]) ?_;refine znq ?_
     repeat (first|refine Run.skip ?_|refine Run.opsNil ?_|refine Run.inBlock ?_)
     refine rl (args:=[.ptr id 0,iA e]) rfl aF aA rfl (yK _ ((hh.set aA).app aA) id (wD f err (ls.take j)) nodes e (g4 _ _)) ?_;rw[g5,<-hsn];refine Run.ops fun K J=>?_
     simp;refine zi ?_;clear J;exact y3e
   refine y18 ?_;refine zsn ?_;refine zr3 hmin hb3 hb4 ?_;refine Run.keep [0,2,3,5,8,9,10] ?_;refine yf ?_;refine Run.cutAt 3 (hh.set aA) rfl aA aA (by simp;omega) aA rfl ?_;refine cI ?_;refine IH (j+1) _ _ aB aB ?_ ?_
   ·rw[htk];simp[aW,hfl,Lv.cells];exact zK
   ·simp
  ·have hje:j=ls.length:=aB;subst hje;refine rH ?_;refine y26 ?_;refine Run.tok 13 5 aA ?_;simp;obtain⟨ls2,hls2⟩:∃q,ls.map (fun l=>(f l).1)=q:=⟨_,rfl⟩;have hls3:List.take ls.length ls2=ls2:=aZ6 (by rw[<-hls2];simp);simp only[hls2,hls3]
   refine Run.loopS (ι:=Nat) [0,2,3,5,8] (fun j:Nat=>j<=ks.length) (fun j=>ks.length-j) (fun j=>[(13, .own (h.length+3) 5 (aL (yY f (ks.take j)))),(14,iA j)])
    (fun j=>h.set id (wk (yT f (wD f err ls) (ks.take j)) nodes)++[some (.cells [iA k,iA i, .p (sP n), .own (h.length+2) 2 (aW ls2), .p (.sl 5 (aL ks))]),some (.cells [iA 0,iA 0, .p (sP []), .p (.prim (.slice none 0 0)), .p (.prim (.slice none 0 0))]),some (.tok ls.length 2),some (.tok j 5)]) 0 aB ?_ (by simp only[bBc,yT]) ?_
   ·simp[yY,aL];exact zK
   ·intro j hj IH;refine cI ?_
    by_cases hjk:j<ks.length
    ·have hgk:ks[j]?=some ks[j]:=aYu hjk;have htk:ks.take (j+1)=ks.take j++[ks[j]]:=aZ5 hjk;have hs:=fY ks j _ hgk;have hs2:=cQ ks (j+1);have hs3:=aR ks;have hlvj:=Tm.lvss_at hl3 _ (aYx hjk);have hc:=fun(g:Heap) (hg:WF g) (hid2:g[id]?=some (wk (yT f (wD f err ls) (ks.take j)) nodes))=>ih ks[j] (yT f (wD f err ls) (ks.take j)) g id aB aB hlvj hg hid2
     generalize ks[j]=u at hgk htk hc;have hsn:=aBv f (ks.take j) u (wD f err ls);rw[<-htk] at hsn;rw[<-hsn] at hc;have hmin:min j ks.length=j:=bAb hj;have hb1:(j+1)*80<=140737488355328:=aB;have hb2:j+1<=9223372036854775807:=aB;have hts:=aMf f (ks.take j) u;rw[<-htk] at hts;have htl:=tU f (ks.take j);rw[aZm,hmin] at htl;obtain⟨u',hu'⟩:∃u',lvT f u=u':=⟨_,rfl⟩;rw[hu'] at hts hc;obtain⟨k',i',n',ls',ks'⟩:=u';refine jO hjk hgk ?_;refine rl (args:=[.ptr id 0,u.av, .p (.sl 2 (aW vals)),bA metas]) rfl rfl aA rfl (hc _ ((hh.set aA).app aA) (g4 _ _)) ?_;rw[g5];refine y1o ?_;refine zo3 htl hb1 hb2 ?_;refine zr ?_;refine IH (j+1) _ _ aB aB ?_ ?_
     ·rw[hts,eX];exact zS
     ·simp
    ·have hje:j=ks.length:=aB;subst hje;rw[aZl];refine aI0 ?_;refine Fin.ret' (h0:=h.set id (wk (yT f (wD f err ls) ks) nodes)) aA aA (hh.set aA) rfl aE rfl (y:=(Tm.mk k i n ls2 (yY f ks)).av) ?_ aA ⟨rfl,rfl⟩;exact y70
end Go.Proofs.YtcfcolkbeelegaaGreat
