import Derived.Test.YtcfcolkbeelegaaGreatJA0
import Derived.Test.YtcfcolkbeelegaaGreatJG1
import Derived.Test.YtcfcolkbeelegaaGreatJFF
import Derived.Test.YtcfcolkbeelegaaGreatJR2
import Derived.Test.YtcfcolkbeelegaaGreatJE12
import Derived.Test.YtcfcolkbeelegaaGreatJH5
import Derived.Test.YtcfcolkbeelegaaGreatJM2
set_option maxRecDepth 8000
set_option maxHeartbeats 8000000
namespace Go.Proofs.YtcfcolkbeelegaaGreat
open Go Go.AI
theorem eJ (l:List Tm):∀e∈aL l,e.length=5:=by
 intro e he;rw[dA] at he;obtain⟨t,_,rfl⟩:=aZq.1 he;simp
abbrev row (l:List Tm)(m:Nat):Option AO:=some (.cells (buf 5 (aL l) m))
theorem aNe {l:List Tm} {m k:Nat} (hk:k<l.length):((buf 5 (aL l) m).drop (k*5)).take 5=(l[k]).cells.map .p:=by
 rw[aKw (eJ l) (by simpa using hk)];simp[dA]
theorem aNg {l:List Tm} {m k:Nat} (t:Tm)(hk:k<l.length):patch (buf 5 (aL l) m) (k*5) (t.cells.map .p)=buf 5 (aL (l.set k t)) m:=by
 rw[buf_set (eJ l) (by simpa using hk) aA];simp[dA,List.map_set]
theorem row_len (l:List Tm)(m:Nat):(buf 5 (aL l) m).length=(l.length+m)*5:=by rw[kQ (eJ l)];simp
theorem row_under (n:Nat)(l:List Tm)(m:Nat):AO.under n (row l m)=true:=bT n 5 (aL l) m
def aV6 (h:Heap)(ts:List Tm)(o:AOut)(h':Heap):Prop:=
 (ts=[]/\o= .ret (.p (.sl 5 []))/\h'=h)\/∃(G:Heap) (cap:Nat),WF (h++G)/\ts.length<=cap/\o= .ret (.sm (h.length+G.length) 0 ts.length cap 5)/\h'=h++(G++[row ts (cap-ts.length)])
theorem aL1 (h:Heap)(hh:WF h)(ts:List Tm)(hl:ts.length<=1048576):ACalls Tryz.prog 280 [.p (.sl 5 (aL ts))] h (aV6 h ts):=by
 refine zER Tryz.func280 Tryz.ntmps280 ?_;refine Run.regPre 1 fun K J=>?_
 refine yd ?_;simp;refine zi ?_;clear J;refine ya ?_;refine Run.nilEq (sz:=5) (es:=aL ts) rfl Tryz.underlying23 rfl aA fun b hb=>?_
 refine zo ?_
 cases b with
 |true=>
  have h0:ts=[]:=by
   have:=hb rfl;rw[dA] at this;exact y6y
  subst h0;refine lM ?_;exact Fin.ret' (h0:=h) (xs:=[.p (.prim (.slice none 0 0))]) aA rfl hh (aZ0 _).symm aA rfl (Weak.nil 5) rfl (.inl ⟨rfl,rfl,rfl⟩)
 |false=>
  refine znf ?_
  cases ts with
  |nil=>
   refine nv ?_;refine Run.regPre 2 fun K J=>?_
   refine yd ?_;simp[aL];refine zi ?_;clear J;refine ya ?_;refine y2n ?_;exact y7z
  |cons t0 ts0=>
   generalize ht:t0::ts0=ts at*;have hpos:0<ts.length:=by rw[<-ht];simp
   clear ht t0 ts0;refine nv ?_;refine Run.regPre 0 fun K J=>?_
   simp only[bBc];simp;refine zi ?_;clear J;refine y27 ?_;refine Run.build0 (sz:=5) (e:=25) rfl rfl rfl rfl ?_;refine Run.opsPre 1 fun K J=>?_
   refine yd ?_;simp;refine zi ?_;clear J;refine ya ?_;refine Run.appendS (id:=h.length) (es:=[]) (ys:=aL ts) (cap:=0) (sz:=5) (by_:=80) (e:=25) rfl rfl rfl rfl rfl rfl aA (by simp[buf]) aA aA aA aA (by simpa using hpos) (by simp;omega) (by simp;omega) ?_ ?_
   ·intro hc;simp only[aZ2,kJ] at hc;omega
   ·intro c' hc';refine zox ?_;refine Fin.retM (h0:=h++([some (.cells (buf 5 [] 0))]++[row ts (c'-ts.length)])) (l:=[]) aA aA (hh.app (by simp[bT])) aA aE rfl (Weak.refl _) aA (.inr ⟨[some (.cells (buf 5 [] 0))],c',hh.app (by simp[bT]),by simpa using hc',rfl,rfl⟩)
def aAe (ts l:List Tm)(i:Nat):Prop:=l.length=ts.length/\∀k,k<ts.length->l[k]?=if k<i\/ts.length<=k+i then ts[ts.length-1-k]? else ts[k]?
theorem aFk (ts:List Tm):aAe ts ts 0:=⟨rfl,fun k hk=>by rw[if_neg aB]⟩
theorem aFi {ts l:List Tm} {i:Nat} (h:aAe ts l i)(hi:ts.length<=2*i+1):l=ts.reverse:=by
 apply bAi;intro k;rcases bAh k ts.length with hk|hk
 ·rw[h.2 k hk,List.getElem?_reverse hk]
  by_cases hc:k<i\/ts.length<=k+i
  ·rw[if_pos hc]
  ·rw[if_neg hc]
   congr 1;omega
 ·rw[bAy (by rw[h.1];exact hk),bAy (by simpa using hk)]
theorem aFj {ts l:List Tm} {i:Nat} (h:aAe ts l i)(hi:2*i+1<ts.length)(x y:Tm)(hx:l[i]?=some x)(hy:l[ts.length-1-i]?=some y):aAe ts ((l.set i y).set (ts.length-1-i) x) (i+1):=by
 refine⟨by simp[h.1],fun k hk=>?_⟩;have h1:=h.2 i aB;have h2:=h.2 (ts.length-1-i) aB;rw[if_neg aB] at h1 h2;rw[hx] at h1;rw[hy] at h2;rw[List.getElem?_set,List.getElem?_set]
 by_cases e1:ts.length-1-i=k
 ·rw[if_pos e1,if_pos (by simp[h.1];omega),if_pos aB];rw[show ts.length-1-k=i by omega];exact h1
 ·rw[if_neg e1]
  by_cases e2:i=k
  ·rw[if_pos e2,if_pos (by rw[h.1];omega),if_pos aB,<-e2];exact h2
  ·rw[if_neg e2,h.2 k hk]
   by_cases hc:k<i\/ts.length<=k+i
   ·rw[if_pos hc,if_pos aB]
   ·rw[if_neg hc,if_neg aB]
theorem uQ (h:Heap)(hh:WF h)(ts:List Tm)(id cap m:Nat)(hl:ts.length<=1048576)(hid:h[id]?=some (row ts m)):
  ACalls Tryz.prog 212 [.sm id 0 ts.length cap 5] h fun o h'=>o= .ret (.tup [])/\h'=h.set id (row ts.reverse m):=by
 obtain⟨g1,g2,g3,g4,g5,hlt⟩:=idf hid;refine zER Tryz.func212 Tryz.ntmps212 ?_;refine Run.loopS (ι:=Nat×List Tm) [0] (fun p=>2*p.1<=ts.length+1/\aAe ts p.2 p.1) (fun p=>ts.length-p.1) (fun p=>[(2,iA p.1),(3,iA ((ts.length:Int)-1-p.1))]) (fun p=>h.set id (row p.2 m)) (0,ts) ⟨by simp,aFk ts⟩ ?_ (by simp[dO hid]) ?_
 ·exact zS
 rintro⟨i,l⟩ ⟨hi,ht⟩ IH;simp only at hi ht;simp;have hll:=ht.1
 by_cases hc:2*i+1<ts.length
 ·obtain⟨j,hj⟩:∃j:Nat,j=ts.length-1-i:=⟨_,rfl⟩;have hje:(ts.length:Int)-1-i=(j:Int):=aB;rw[hje];have hc2:i<j:=aB;have hil:i<l.length:=aB;have hjl:j<l.length:=aB;obtain⟨x,hx⟩:∃x,l[i]=x:=⟨_,rfl⟩;obtain⟨y,hy⟩:∃y,l[j]=y:=⟨_,rfl⟩;have hstep:=aFj ht hc x y (by rw[aYu hil,hx]) (by rw[<-hj,aYu hjl,hy]);rw[<-hj] at hstep;have gx:((buf 5 (aL l) m).drop (i*5)).take 5=x.cells.map .p:=by rw[aNe hil,hx]
  have gy:((buf 5 (aL l) m).drop (j*5)).take 5=y.cells.map .p:=by rw[aNe hjl,hy]
  have p1:patch (buf 5 (aL l) m) (i*5) (y.cells.map .p)=buf 5 (aL (l.set i y)) m:=aNg y hil;have p2:patch (buf 5 (aL (l.set i y)) m) (j*5) (x.cells.map .p)=buf 5 (aL ((l.set i y).set j x)) m:=aNg x (by simpa using hjl);have l1:i*5+5<=(buf 5 (aL l) m).length:=by rw[row_len];omega
  have l2:j*5+5<=(buf 5 (aL l) m).length:=by rw[row_len];omega
  have l3:j*5+5<=(buf 5 (aL (l.set i y)) m).length:=by rw[row_len];simp;omega
  have hi2:i<ts.length:=aB;have hj2:j<ts.length:=aB;refine znr ?_;refine zt1 hc2 ?_;refine Run.draw [0,0,0,0,0,0,0,0,0,0,0,0,0,0,1,1] [0,0,0,0,0,0,0,0,0,0,0,0,0,0,0,1] [0,0,0,0,0,0,48,112,0,0,768,1792,4083,8179,16383,32767] [0,1,4,5,6,7,8,9,10,11,12,13,2,3,14,15] aC aC ?_;refine zd10 hi2 hj2 l1 l2 l3 gx gy p1 p2 g3 ?_;refine y9 ?_;refine znr ?_;refine IH (i+1,(l.set i y).set j x) _ _ ⟨by simp only;omega,hstep⟩ (by simp only;omega) ?_ ?_
  ·simp;exact y80
  ·simp
 ·have hc2:¬(i:Int)<(ts.length:Int)-1-i:=aB;have hd:=aFi ht aB;subst hd;refine aFv hc2 ?_;refine y21 ?_;refine Run.nil ?_;exact Fin.ret' (h0:=h.set id (row ts.reverse m)) aA aA (hh.set (row_under _ _ _)) (aZ0 _).symm rfl rfl (Weak.refl _) rfl ⟨rfl,rfl⟩
theorem reverse_nil (h:Heap)(hh:WF h):AC 212 [.p (.sl 5 [])] h (.tup []):=by
 refine zER Tryz.func212 Tryz.ntmps212 ?_;refine Run.loopS [] (fun _:Unit=>True) (fun _=>0) (fun _=>[(2,iA 0),(3,iA (-1))]) (fun _=>h) () trivial ?_ rfl ?_
 ·exact zS
 rintro _ _ IH;refine aOm ?_;refine Run.nil ?_;exact y3a
open Go Go.AI
def aOo (n:List UInt8):Tm:= .mk 3 0 n [] []
def aU9 (ctx:List Tm)(i:Int):Tm×Int:=
 if i<0\/(ctx.length:Int)<=i then(zT,24) else match ctx[((ctx.length:Int)-1-i).toNat]? with
  |some t=>cV (i+1) 0 t
  |none=>(zT,24)
open Go Go.AI
def isB (k:Int):Tm->Option (Tm×Tm)
 | .mk k' _ _ _ [a,b]=>if k'=k then some (a,b) else none
 |_=>none
def aVz:Nat->List Tm->Tm->List Tm×Tm×Int
 |0,acc,t=>(acc,t,0)
 |n+1,acc,t=>match isB 6 t with
  |some (a,b)=>aVz n (acc++[a]) b
  |none=>([],zT,13)
def aN7 (t:Tm)(n:Int):List Tm×Tm×Int:=if n<0 then([],zT,2) else aVz n.toNat [] t
open Go Go.AI
abbrev vc (x:Int):List PV:=[iP 0,iP x,sP [], .prim (.slice none 0 0), .prim (.slice none 0 0)]
def varZ (n fr:Int):List Int:=if n<1\/4096<n\/fr<0 then [] else(List.range n.toNat).map fun j:Nat=>fr+n-1-j
def varL (n fr:Int):List Tm:=(varZ n fr).map vr
open Go Go.AI
def aU8 (ctx:List Tm)(t:Tm)(args:List Tm):Tm×Int:=if args.length≠ctx.length then(zT,6) else aI t args.reverse 0
open Go Go.AI
def aXt (k:Int)(ctx:List Tm)(t:Tm):Tm:=ctx.foldr (fun a t=> .mk k 0 [] [] [a,t]) t
open Go Go.AI
def aG8 (a b:Tm):Tm:= .mk 6 0 [] [] [a,(cV 1 0 b).1]
theorem aDu (h:Heap)(hh:WF h)(a b:Tm)(hok:b.ok 65536)(hsz:b.size<=1048576):ACalls Tryz.prog 122 [a.av,b.av] h fun o h'=>o= .ret (aG8 a b).av/\h'=h:=by
 have hs:=fun(g:Heap) (hg:WF g)=>aCe g hg b 1 0 aB aB aB (aHh b 65536 hok aB)
 unfold aG8;generalize cV 1 0 b=r at hs⊢;obtain⟨⟨r0,r1,r2,r3,r4⟩,e⟩:=r;obtain⟨i0,i1,i2,i3,i4⟩:=a;obtain⟨j0,j1,j2,j3,j4⟩:=b;refine ACalls.of_run Tryz.func122 rfl ?_;simp only[Tryz.ntmps122,aZ1,aZ2,Tm.av,aH,List.map];refine rS ?_;refine rl (args:=[(Tm.mk j0 j1 j2 j3 j4).av,iA 1,iA 0]) rfl aF aA rfl (hs _ (hh.app aA)) ?_;refine aWs ?_;refine Fin.ret' (h0:=h) aA rfl hh rfl aE rfl ?_ aA ⟨rfl,rfl⟩;simp only[aH,List.map,aL,aW];exact y3n
def aKa (k:Int):Nat->List Tm->Tm->List Tm×Tm
 |0,acc,t=>(acc,t)
 |n+1,acc,t=>match isB k t with
  |some (a,b)=>aKa k n (acc++[a]) b
  |none=>(acc,t)
def bY (t:Tm):List Tm×Tm:=aKa 6 t.size [] t
theorem sJ (h:Heap)(hh:WF h)(t:Tm)(hsz:t.size<=1048576):
  AC 172 [t.av] h (.tup [.p (.sl 5 (aL (bY t).1)),(bY t).2.av]):=by
 obtain⟨r,hr⟩:∃r,r=bY t:=⟨_,rfl⟩;rw[<-hr];unfold bY at hr;obtain⟨tc,htc⟩:∃tc,tc=t.cells.map AV.p:=⟨_,rfl⟩;refine y28 ?_;have htl:tc.length=5:=by rw[htc];simp
 refine cW Tryz.func172 Tryz.ntmps172 ?_;exact y2t
theorem aAh (h:Heap)(hh:WF h)(t:Tm)(hsz:t.size<=1048576):
  AC 135 [t.av] h (.tup [.p (.sl 5 (aL (bY t).1)),(bY t).2.av]):=by
 obtain⟨r,hr⟩:∃r,r=bY t:=⟨_,rfl⟩;rw[<-hr];unfold bY at hr;obtain⟨tc,htc⟩:∃tc,tc=t.cells.map AV.p:=⟨_,rfl⟩;refine y28 ?_;have htl:tc.length=5:=by rw[htc];simp
 refine cW Tryz.func135 Tryz.ntmps135 ?_;exact y2t
end Go.Proofs.YtcfcolkbeelegaaGreat
namespace Go.AI
open Go
section
variable {P:Program} {E:Env} {w:World} {h:Heap}
theorem vQ {t:TypeId} {len:Nat} {parts:List (Nat×AV)} {vals:Array (Nat×Value)} {sz:Nat} {es:List (List PV)}
  (h1:parts.map (·.1)=vals.toList.map (·.1)) (h2:RepL E w (parts.map (·.2)) (vals.toList.map (·.2)))
  (hb:mV P t len parts=some (.p (.sl sz es))):∃vs T,(∀e∈es,e.length=sz)/\RepL E w (es.flatten.map .p) vs/\(Instr.buildSlice t len vals).run P w= .ok (.slice (some ⟨w.heap.size,0,none⟩) es.length es.length) (w.alloc (.cells (List.toArray vs) T (0,0))):=by
 unfold mV at hb;split at hb
 ·rename_i e hel;split at hb
  ·rename_i sz' z hsz hz;split at hb
   ·rename_i hcond;obtain⟨hlim,hpos⟩:=hcond;simp only[aZa,AV.p.injEq,PV.sl.injEq] at hb;obtain⟨out,ho,rfl,rfl⟩:=hb;obtain⟨zv,hzr,hzc⟩:=oW (w:=w) hz;obtain⟨i,_,hi,_,_,hzl,hprim⟩:=bV hz;have hzs:z.length=sz':=by unfold szT at hsz;rw[hi] at hsz;simp at hsz;omega
    have hu0:∀e∈List.replicate len (z.map PV.prim),e.length=sz':=by
     intro e he;rw[(bBo.1 he).2];simp[hzs]
    have h30:RepL E w ((List.replicate len (z.map PV.prim)).flatten.map .p) (List.replicate len z).flatten:=by
     rw[wU];exact y5f
    obtain⟨vo,e1,e2,e3,e4⟩:=nC (E:=E) (w:=w) sz' parts vals.toList _ _ out h1 h2 hu0 h30 ho;simp only[List.length_replicate] at e4;subst e4;refine⟨vo,e,e3,e2,?_⟩
    have hinit:(Array.range (out.length*sz')).map (fun i=>(List.toArray z)[i%(List.toArray z).size]!)=List.toArray (List.replicate out.length z).flatten:=by
     exact y8c
    refine y2l ?_
    by_cases hz0:out.length*sz'=0
    ·have hl0:out.length=0:=by
      exact y8g
     have e1':Instr.fill (fun i=>some (i*sz',sz')) #[] vals.toList=some (List.toArray vo):=by
      rw[hl0] at e1;simpa using e1
     exact y8p
    ·exact y8d
   ·cases hb
  ·cases hb
 ·cases hb
end
section
variable {P:Program} {rd:Option Nat} {nb:Nat} {k:List It} {T:List AV} {h:Heap} {D:List AD} {Q:AX->List AV->Heap->List AD->Prop} {all:Array Oper} {o:Oper} {rest:List Oper}
theorem Run.buildV {t:TypeId} {len sz:Nat} {parts:Array (Nat×Operand)} {es:List (List PV)} (ho:o.op= .buildSlice t len parts)(hw:aJ all T o=some true)
  (hb:mV P t len (parts.toList.map fun p=>(p.1,aev T p.2))=some (.p (.sl sz es))) (hpos:0<es.length)
  (r:Run P rd nb (.ops all rest::k) (tput T o.dst (.vec h.length es.length)) (h++[some (.vec sz es)]) D Q):Run P rd nb (.ops all (o::rest)::k) T h D Q:=by
 refine Run.opR (R:=fun x h'=>x= .vec h.length es.length/\h'=h++[some (.vec sz es)]) hw (fun c hc=>by rw[hc] at ho;cases ho) ?_ (by rintro x h' ⟨rfl,rfl⟩;exact r);intro E w a st;obtain⟨p1,p2⟩:=uF st parts;obtain⟨vs,T0,hes,hrep,hrun⟩:=vQ (P:=P) p1 p2 hb;obtain⟨t1,t2,t3⟩:=st.rel.newTk st.fresh (tk:= .vec sz []) (sz:=sz) rfl;have hl:=hrep.length;rw[aZo,aV hes] at hl;have hid:Heap.at (h++[some (.vec sz [])]) h.length=some (.vec sz []):=aA
 obtain⟨g1,g2⟩:=t1.growG (w':=w.alloc (.cells (List.toArray vs) T0 (0,0))) (b:=w.heap.size) (c':=es.length) (vs:=vs) (n:=0) (m:=es.length) (k:=0) (k':=0) (o':= .vec sz es) (cs':=es.flatten.map .p)
  hid rfl (by simp[AO.tk]) (aYw _) (.inl hpos) (.inr (aYw _)) ⟨T0,eC _⟩ hl aB (fun b' _ hb'=>dE _ hb') (fun off ho=>by have:=t1.lt _ _ ho;omega) (by rw[dB];omega) ⟨rfl,rfl⟩
  (fun E' hx' _=>by
   rw[aZ6 (by rw[aZo,aV hes];omega)];exact hrep.ext (t2.ext.trans hx'))
 have hset:(h++[some (AO.vec sz [])]).set h.length (some (.vec sz es))=h++[some (.vec sz es)]:=aA;rw[hset] at g1 g2;refine⟨_,_,_,_, .slice (some ⟨w.heap.size,0,none⟩) es.length es.length,⟨rfl,rfl⟩,?_,g1,?_,?_,t2.trans g2⟩
 ·simp[execOp,ho,hrun]
 ·have:=pF (h:=h++[some (AO.vec sz [])]) (o:=some (AO.vec sz es)) (b:=w.heap.size) (c:=es.length) (n:=0+es.length) (id:=h.length) (R:=fun b' off=>E.ro b' off\/(b'=w.heap.size/\off<0*sz)) (by simpa using t3) aA;rw[hset] at this;exact this
 ·simp only[Rep];exact⟨⟨some w.heap.size,es.length,es.length⟩,by simp,by simp,_,es.length,by simp,fun _=>⟨rfl,rfl⟩⟩
end
end Go.AI
namespace Go.Proofs.YtcfcolkbeelegaaGreat
open Go Go.AI
theorem aH2 (h:Heap)(hh:WF h)(t:Tm)(hg:t.good):AC 66 [t.av] h (bA (eQ 60000 8 65536 65536 t !=0)):=by
 have hc:=fun g hw=>sO g hw t 60000 8 65536 65536 (by have:=hg.1;omega) hg.2.1
 generalize eQ 60000 8 65536 65536 t=e at hc⊢;obtain⟨k,i,n,ls,ks⟩:=t;simp only[Tm.av,aH,List.map] at hc⊢;refine cW Tryz.func66 Tryz.ntmps66 ?_;refine zL (hc _ (hh.app aA)) ?_;refine zox ?_;exact y2s
def aK9 (P:Bool->Prop)(o:AOut):Prop:=∃b,o= .ret (bA b)/\P b
def aWz (P:Int->Prop)(o:AOut):Prop:=∃e,o= .ret (iA e)/\P e
theorem iI (h:Heap)(hh:WF h)(t:Tm)(hg:t.good):ACalls Tryz.prog 201 [t.av] h fun o h'=>aK9 (fun _=>True) o/\h'=h:=by
 have h1:=fun g hw=>pB t.size t g (aYw _) (by have:=hg.1;omega) hw
 have h2:=fun g hw=>oD t.size t g (aYw _) (by have:=hg.1;omega) hw
 generalize t.size=s at h1;generalize t.depth=d at h2;obtain⟨k,i,n,ls,ks⟩:=t;simp only[Tm.av,aH,List.map] at h1 h2⊢;refine cW Tryz.func201 Tryz.ntmps201 ?_;refine zL (h1 _ (hh.app aA)) ?_
 by_cases c1:(s:Int)<=400
 ·refine zo1 c1 ?_;refine zL (h2 _ (hh.app aA)) ?_;refine zox ?_;exact y7x
 ·refine zo1 c1 ?_;refine zx ?_;exact y7x
theorem sG (h:Heap)(hh:WF h)(t:Tm)(hg:t.good):AC 227 [t.av] h (bA (fQ t zT)):=by
 have hc:=fun g hw=>sD t.size t zT g (aYw _) (by have:=hg.1;omega) hg.2.2 hw
 generalize fQ t zT=b at hc⊢;obtain⟨k,i,n,ls,ks⟩:=t;simp only[Tm.av,aH,List.map] at hc⊢;refine cW Tryz.func227 Tryz.ntmps227 ?_;refine zL (ACalls.weak (WeakL.cons (Weak.refl _) (WeakL.cons Weak.zT WeakL.nil)) (hc _ (hh.app aA))) ?_;refine zox ?_;exact y2s
def eI (l:List (List UInt8)):List (List PV):=l.map fun s=>[sP s]
@[simp] theorem aSb (l:List (List UInt8)):(eI l).length=l.length:=by simp[eI]
@[simp] theorem aW8 (l:List (List UInt8)) (i:Nat):(eI l)[i]?=(l[i]?).map fun s=>[sP s] :=by simp[eI]
theorem aE9 (h:Heap)(hh:WF h)(l:List (List UInt8))(s:List UInt8)(hl:l.length<=1099511627776):AC 217 [.p (.sl 1 (eI l)), .p (sP s)] h (bA (decide (s∈l))):=by
 refine cW Tryz.func217 Tryz.ntmps217 ?_;refine Run.loopS [0,1] (fun j:Nat=>j<=l.length/\s∉l.take j) (fun j=>l.length-j) (fun j=>[(5,iA j)]) (fun _=>_) 0 aA ?_ rfl ?_
 ·exact zS
 rintro j ⟨hj,hall⟩ IH;refine cI ?_
 by_cases hjl:j<l.length
 ·have hg:l[j]?=some l[j]:=aYu hjl;have htk:l.take (j+1)=l.take j++[l[j]]:=aZ5 hjl;have hmem:l[j]∈l:=aYx hjl;generalize l[j]=x at hg htk hmem;refine jO hjl hg ?_
  by_cases hx:x=s
  ·refine dF hx ?_;refine zA ?_;refine zF3 hh ?_;exact⟨by simp[hx▸hmem],rfl⟩
  ·refine dJ hx ?_;refine IH (j+1) _ _ ⟨by omega,by rw[htk];simp[hall];exact fun e=>hx e.symm⟩ aB ?_ rfl;exact zS
 ·have hje:j=l.length:=aB;subst hje;rw[aZl] at hall;refine dP ?_;refine zA ?_;refine zF3 hh ?_;exact⟨by simp[hall],rfl⟩
def dI:Tm->Nat
 | .mk k _ _ _ [_,b]=>if k=6 then dI b+1 else 0
 |_=>0
theorem oK:∀(N:Nat)(t:Tm),t.size<=N->dI t<=t.size
 |0,t,h=>by have:=t.size_pos;omega
 |N+1, .mk k i n ls ks,h=>by
  match ks with
  |[]=>simp[dI]
  |[a]=>simp[dI]
  |[a,b]=>
   simp only[dI,Tm.size,Tm.sizes] at h⊢;split
   ·have:=oK N b aB;omega
   ·omega
  |a::b::c::r=>simp[dI]
theorem tR (h:Heap)(hh:WF h)(t:Tm)(hs:t.size<=1048576):AC 256 [t.av] h (iA (dI t)):=by
 have hle:=oK t.size t (aYw _);obtain⟨T,hT⟩:∃T,T=dI t:=⟨_,rfl⟩;rw[<-hT] at hle⊢;obtain⟨k,i,n,ls,ks⟩:=t;simp only[Tm.av,aH,List.map] at hle⊢;refine cW Tryz.func256 Tryz.ntmps256 ?_;refine Run.loopS (ι:=Tm×Nat) [1] (fun p=>dI p.1+p.2=T/\p.1.size<=1048576) (fun p=>p.1.size) (fun p=>[(3,iA p.2)]) (fun p=>h++[some (.cells (p.1.cells.map .p))]) (.mk k i n ls ks,0) ⟨by simp[hT],hs⟩ ?_ aA ?_
 ·exact zS
 rintro⟨u,m⟩ ⟨hu,hus⟩ IH;obtain⟨k,i,n,ls,ks⟩:=u;simp only at hu hus;have hks:=aR ks;simp only[Tm.size] at hus;refine zsn ?_;refine Run.regJ [1,3] 12 (k==6&& (ks.length:Int)==2) (fun K J=>?_) ?_
 ·simp;exact y2p
 refine y7 ?_;simp;refine Run.condB rfl (fun h1=>?_) (fun h1=>?_)
 ·have h1':k=6/\ks.length=2:=by simp at h1;omega
  obtain⟨rfl,h2⟩:=h1';obtain⟨a,b,hab⟩:∃a b,ks=[a,b]:=by match ks,h2 with|[a,b],_=>exact⟨a,b,rfl⟩
  have hg:ks[1]?=some b:=by rw[hab];rfl
  have hlt:b.size<(Tm.mk 6 i n ls ks).size:=by rw[hab];simp[Tm.size,Tm.sizes];omega
  rw[hab] at hu hus;simp only[dI,if_true] at hu;simp only[Tm.sizes] at hus;have hml:dI b+(m+1)=T:=aB;have hbs:b.size<=1048576:=aB;clear hu hus hab hks;have hm:m<=1048576:=aB;refine znr ?_;obtain⟨k',i',n',ls',ks'⟩:=b;refine nQ hg ?_;refine IH (.mk k' i' n' ls' ks',m+1) _ _ ⟨hml,hbs⟩ hlt ?_ aA;exact zS
 ·have:dI (.mk k i n ls ks)=0:=by
   match ks,h1 with
   |[],_=>simp[dI]
   |[a],_=>simp[dI]
   |[a,b],h1=>simp at h1;simp[dI,h1]
   |a::b::c::r,_=>simp[dI]
  rw[this] at hu;refine zn ?_;refine y21 ?_;refine zA ?_;refine zF2 hh ?_;exact⟨by rw[<-hu];simp,rfl⟩
open Go Go.AI
structure En where
 k:Int
 at_:Int
 it:Int
 ps:Int
 ty:Tm
def En.cells (e:En):List PV:=iP e.k::iP e.at_::iP e.it::iP e.ps::e.ty.cells
def En.av (e:En):AV:= .agg (e.cells.map .p)
def zEn:En:=⟨0,0,0,0,zT⟩
def aJf:List UInt8:=[46,114,101,99]
def bE (d:Dc):List (List UInt8):=
 if d.k=0\/d.k=1\/d.k=2 then [d.nm] else if d.k=3 then d.nm::(d.cs.map Ct.nm++[d.nm++aJf]) else if d.k=4 then d.fs.map Fu.nm else []
def kR (d:Dc)(a:Int):List Ct->Nat->List (List UInt8×En)
 |[],_=>[]
 |c::cs,i=>(c.nm,⟨4,a,i,d.ps,c.ty⟩)::kR d a cs (i+1)
def kU (d:Dc)(a:Int):List Fu->Nat->List (List UInt8×En)
 |[],_=>[]
 |f::fs,i=>(f.nm,⟨6,a,i,d.ps,f.ty⟩)::kU d a fs (i+1)
def nB (d:Dc)(a:Int):List (List UInt8×En):=
 if d.k=0\/d.k=1\/d.k=2 then [(d.nm,⟨d.k,a,0,d.ps,d.ty⟩)]
 else if d.k=3 then(d.nm,⟨3,a,0,d.ps,d.ty⟩)::(kR d a d.cs 0++[(d.nm++aJf,⟨5,a,0,d.rp,d.rt⟩)])
 else if d.k=4 then kU d a d.fs 0 else []
def cH (s:List UInt8):List (List UInt8×En)->Option En
 |[]=>none
 |(x,e)::l=>if x=s then some e else cH s l
def tH (s:List UInt8):List Dc->Nat->Option En
 |[],_=>none
 |d::env,i=>match cH s (nB d i) with
  |some e=>some e
  |none=>tH s env (i+1)
def nU (d:Dc)(a:Int)(s:List UInt8):List Ct->Nat->Option En
 |[],_=>none
 |c::cs,i=>if c.nm=s then some ⟨4,a,i,d.ps,c.ty⟩ else nU d a s cs (i+1)
def nV (d:Dc)(a:Int)(s:List UInt8):List Fu->Nat->Option En
 |[],_=>none
 |f::fs,i=>if f.nm=s then some ⟨6,a,i,d.ps,f.ty⟩ else nV d a s fs (i+1)
def rL (d:Dc)(a:Int)(s:List UInt8):En:=
 if d.k=0\/d.k=1\/d.k=2 then⟨d.k,a,0,d.ps,d.ty⟩
 else if d.k=3 then(if s=d.nm then⟨3,a,0,d.ps,d.ty⟩ else(nU d a s d.cs 0).getD ⟨5,a,0,d.rp,d.rt⟩)
 else(nV d a s d.fs 0).getD ⟨0,a,0,d.ps,d.ty⟩
def dH (s:List UInt8):List Dc->Nat->Option En
 |[],_=>none
 |d::env,i=>if s∈bE d then some (rL d i s) else dH s env (i+1)
theorem mO (s:List UInt8):∀l m:List (List UInt8×En),cH s (l++m)=match cH s l with|some e=>some e|none=>cH s m
 |[],m=>rfl
 |(x,e)::l,m=>by
  simp only[aYy,cH];split
  ·rfl
  ·exact mO s l m
theorem aGw (d:Dc)(a:Int)(s:List UInt8):∀(l:List Ct)(i:Nat),cH s (kR d a l i)=nU d a s l i
 |[],_=>rfl
 |c::l,i=>by simp only[kR,cH,nU,aGw d a s l (i+1)]
theorem aGx (d:Dc)(a:Int)(s:List UInt8):∀(l:List Fu)(i:Nat),cH s (kU d a l i)=nV d a s l i
 |[],_=>rfl
 |c::l,i=>by simp only[kU,cH,nV,aGx d a s l (i+1)]
theorem aB7 (d:Dc)(a:Int)(s:List UInt8):∀(l:List Ct)(i:Nat),(nU d a s l i).isSome=decide (s∈l.map Ct.nm)
 |[],_=>by simp[nU]
 |c::l,i=>by
  simp only[nU]
  by_cases h:c.nm=s
  ·simp[h]
  ·have h':¬s=c.nm:=fun e=>h e.symm
   rw[if_neg h,aB7 d a s l (i+1)];simp[h']
theorem aBl (d:Dc)(a:Int)(s:List UInt8):∀(l:List Fu)(i:Nat),(nV d a s l i).isSome=decide (s∈l.map Fu.nm)
 |[],_=>by simp[nV]
 |c::l,i=>by
  simp only[nV]
  by_cases h:c.nm=s
  ·simp[h]
  ·have h':¬s=c.nm:=fun e=>h e.symm
   rw[if_neg h,aBl d a s l (i+1)];simp[h']
theorem aLm (d:Dc)(a:Int)(s:List UInt8):cH s (nB d a)=if s∈bE d then some (rL d a s) else none:=by
 unfold nB bE rL
 by_cases h1:d.k=0\/d.k=1\/d.k=2
 ·simp only[h1,if_true,cH,List.mem_singleton]
  by_cases h:d.nm=s
  ·simp[h]
  ·have h':¬s=d.nm:=fun e=>h e.symm
   simp[h,h']
 ·by_cases h2:d.k=3
  ·rw[if_neg h1,if_neg h1,if_neg h1,if_pos h2,if_pos h2,if_pos h2];simp only[cH,mO,aGw]
   by_cases h:d.nm=s
   ·simp[h]
   ·have h':¬s=d.nm:=fun e=>h e.symm
    rw[if_neg h];have hc:=aB7 d a s d.cs 0
    cases hx:nU d a s d.cs 0 with
    |some e=>
     rw[hx] at hc;have hm:s∈d.cs.map Ct.nm:=by simpa using hc.symm
     have hm2:s∈d.nm::(d.cs.map Ct.nm++[d.nm++aJf]):=bAq _ (bAk _ hm);rw[if_pos hm2,if_neg h'];simp
    |none=>
     rw[hx] at hc;have hm:¬s∈d.cs.map Ct.nm:=by simpa using hc.symm
     by_cases hr:d.nm++aJf=s
     ·have hm2:s∈d.nm::(d.cs.map Ct.nm++[d.nm++aJf]):=bAq _ (List.mem_append_right _ (by simp[hr]));rw[if_pos hm2,if_neg h',if_pos hr];simp
     ·have hm2:¬s∈d.nm::(d.cs.map Ct.nm++[d.nm++aJf]):=by
       simp only[aZg,aZn,List.not_mem_nil,or_false,not_or];exact⟨h',hm,fun e=>hr e.symm⟩
      rw[if_neg hm2,if_neg hr]
  ·by_cases h3:d.k=4
   ·rw[if_neg h1,if_neg h1,if_neg h1,if_neg h2,if_neg h2,if_neg h2,if_pos h3,if_pos h3];rw[aGx];have hc:=aBl d a s d.fs 0
    cases hx:nV d a s d.fs 0 with
    |some e=>
     rw[hx] at hc;have hm:s∈d.fs.map Fu.nm:=by simpa using hc.symm
     rw[if_pos hm];simp
    |none=>
     rw[hx] at hc;have hm:¬s∈d.fs.map Fu.nm:=by simpa using hc.symm
     rw[if_neg hm]
   ·rw[if_neg h1,if_neg h1,if_neg h2,if_neg h2,if_neg h3,if_neg h3];simp[cH]
theorem aBi (s:List UInt8):∀(env:List Dc)(i:Nat),tH s env i=dH s env i
 |[],_=>rfl
 |d::env,i=>by
  simp only[tH,dH,aLm]
  by_cases h:s∈bE d
  ·simp[h]
  ·simp only[if_neg h];exact aBi s env (i+1)
def EnOk (env:List Dc)(i:Nat)(e:En):Prop:=∃(j:Nat)(d:Dc),e.at_=((i+j:Nat):Int)/\env[j]?=some d/\0<=e.it/\(e.k=4->e.it<d.cs.length)/\((e.k=3\/e.k=4\/e.k=5)->d.k=3)
theorem aE3 (d:Dc)(a:Int)(s:List UInt8):∀(l:List Ct)(i:Nat)(e:En),nU d a s l i=some e->e.k=4/\e.at_=a/\(i:Int)<=e.it/\e.it<i+l.length
 |[],_,_,h=>by simp[nU] at h
 |c::l,i,e,h=>by
  simp only[nU] at h;split at h
  ·cases h;exact⟨rfl,rfl,by simp,by simp;omega⟩
  ·have:=aE3 d a s l (i+1) e h;simp only[aZ1];exact⟨this.1,this.2.1,by omega,by omega⟩
theorem aLr (d:Dc)(a:Int)(s:List UInt8):∀(l:List Fu)(i:Nat)(e:En),nV d a s l i=some e->e.k=6/\e.at_=a/\(i:Int)<=e.it
 |[],_,_,h=>by simp[nV] at h
 |c::l,i,e,h=>by
  simp only[nV] at h;split at h
  ·cases h;exact⟨rfl,rfl,by simp⟩
  ·have:=aLr d a s l (i+1) e h;exact⟨this.1,this.2.1,by omega⟩
theorem aLb (d:Dc)(a:Int)(s:List UInt8)(_hs:s∈bE d):(rL d a s).at_=a/\0<=(rL d a s).it/\((rL d a s).k=4->(rL d a s).it<d.cs.length)/\(((rL d a s).k=3\/(rL d a s).k=4\/(rL d a s).k=5)->d.k=3):=by
 unfold rL
 by_cases h1:d.k=0\/d.k=1\/d.k=2
 ·rw[if_pos h1];exact⟨rfl,by simp,fun h=>by simp only at h;omega,fun h=>by simp only at h;omega⟩
 ·rw[if_neg h1]
  by_cases h2:d.k=3
  ·rw[if_pos h2];split
   ·exact⟨rfl,by simp,fun h=>by simp at h,fun _=>h2⟩
   ·cases hx:nU d a s d.cs 0 with
    |none=>exact⟨rfl,by simp,fun h=>by simp at h,fun _=>h2⟩
    |some e=>
     have:=aE3 d a s d.cs 0 e hx;simp only[aZb];exact⟨this.2.1,by omega,fun _=>by omega,fun _=>h2⟩
  ·rw[if_neg h2]
   cases hx:nV d a s d.fs 0 with
   |none=>exact⟨rfl,by simp,fun h=>by simp at h,fun h=>by simp at h⟩
   |some e=>
    have:=aLr d a s d.fs 0 e hx;simp only[aZb];exact⟨this.2.1,by omega,fun h=>by omega,fun h=>by omega⟩
theorem lV (s:List UInt8):∀(env:List Dc)(i:Nat)(e:En),dH s env i=some e->EnOk env i e
 |[],_,_,h=>by simp[dH] at h
 |d::env,i,e,h=>by
  simp only[dH] at h;split at h
  ·rename_i hs;cases h;have:=aLb d i s hs;exact⟨0,d,by rw[this.1];simp,rfl,this.2⟩
  ·obtain⟨j,d',h1,h2,h3⟩:=lV s env (i+1) e h;exact⟨j+1,d',by rw[h1];congr 1;omega,by simpa using h2,h3⟩
end Go.Proofs.YtcfcolkbeelegaaGreat
