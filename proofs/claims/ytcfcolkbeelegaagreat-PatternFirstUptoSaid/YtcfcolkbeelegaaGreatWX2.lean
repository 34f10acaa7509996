import Derived.Test.YtcfcolkbeelegaaGreatWA0
import Derived.Test.YtcfcolkbeelegaaGreatWG1
import Derived.Test.YtcfcolkbeelegaaGreatWFF
import Derived.Test.YtcfcolkbeelegaaGreatWR2
import Derived.Test.YtcfcolkbeelegaaGreatWE12
import Derived.Test.YtcfcolkbeelegaaGreatWH5
import Derived.Test.YtcfcolkbeelegaaGreatWM2
set_option maxRecDepth 8000
set_option maxHeartbeats 8000000
namespace Go.Proofs.YtcfcolkbeelegaaGreat
open Go Go.AI
theorem eI (l:List Tm):∀e∈aL l,e.length=5:=by
 intro e he;rw[cZ] at he;obtain⟨t,_,rfl⟩:=aZ7.1 he;simp
abbrev row (l:List Tm)(m:Nat):Option AO:=some (.cells (buf 5 (aL l) m))
theorem aMv {l:List Tm} {m k:Nat} (hk:k<l.length):((buf 5 (aL l) m).drop (k*5)).take 5=(l[k]).cells.map .p:=by
 rw[aKe (eI l) (by simpa using hk)];simp[cZ]
theorem aMx {l:List Tm} {m k:Nat} (t:Tm)(hk:k<l.length):patch (buf 5 (aL l) m) (k*5) (t.cells.map .p)=buf 5 (aL (l.set k t)) m:=by
 rw[buf_set (eI l) (by simpa using hk) aA];simp[cZ,List.map_set]
theorem row_len (l:List Tm)(m:Nat):(buf 5 (aL l) m).length=(l.length+m)*5:=by rw[kJ (eI l)];simp
theorem row_under (n:Nat)(l:List Tm)(m:Nat):AO.under n (row l m)=true:=bT n 5 (aL l) m
def aUo (h:Heap)(ts:List Tm)(o:AOut)(h':Heap):Prop:=
 (ts=[]/\o= .ret (.p (.sl 5 []))/\h'=h)\/∃(G:Heap) (cap:Nat),WF (h++G)/\ts.length<=cap/\o= .ret (.sm (h.length+G.length) 0 ts.length cap 5)/\h'=h++(G++[row ts (cap-ts.length)])
theorem aKj (h:Heap)(hh:WF h)(ts:List Tm)(hl:ts.length<=1048576):ACalls Tryz.prog 280 [.p (.sl 5 (aL ts))] h (aUo h ts):=by
 refine zER Tryz.func280 Tryz.ntmps280 ?_;refine Run.regPre 1 fun K J=>?_
 refine yd ?_;simp;refine zi ?_;clear J;refine ya ?_;refine Run.nilEq (sz:=5) (es:=aL ts) rfl Tryz.underlying23 rfl aA fun b hb=>?_
 refine zo ?_
 cases b with
 |true=>
  have h0:ts=[]:=by
   have:=hb rfl;rw[cZ] at this;exact y6y
  subst h0;refine lF ?_;exact Fin.ret' (h0:=h) (xs:=[.p (.prim (.slice none 0 0))]) aA rfl hh (aYh _).symm aA rfl (Weak.nil 5) rfl (.inl ⟨rfl,rfl,rfl⟩)
 |false=>
  refine znf ?_
  cases ts with
  |nil=>
   refine nv ?_;refine Run.regPre 2 fun K J=>?_
   refine yd ?_;simp[aL];refine zi ?_;clear J;refine ya ?_;refine y2n ?_;exact y7x
  |cons t0 ts0=>
   generalize ht:t0::ts0=ts at*;have hpos:0<ts.length:=by rw[<-ht];simp
   clear ht t0 ts0;refine nv ?_;refine Run.regPre 0 fun K J=>?_
   simp only[bAt];simp;refine zi ?_;clear J;refine y27 ?_;refine Run.build0 (sz:=5) (e:=25) rfl rfl rfl rfl ?_;refine Run.opsPre 1 fun K J=>?_
   refine yd ?_;simp;refine zi ?_;clear J;refine ya ?_;refine Run.appendS (id:=h.length) (es:=[]) (ys:=aL ts) (cap:=0) (sz:=5) (by_:=80) (e:=25) rfl rfl rfl rfl rfl rfl aA (by simp[buf]) aA aA aA aA (by simpa using hpos) (by simp;omega) (by simp;omega) ?_ ?_
   ·intro hc;simp only[aYj,jZ] at hc;omega
   ·intro c' hc';refine zox ?_;refine Fin.retM (h0:=h++([some (.cells (buf 5 [] 0))]++[row ts (c'-ts.length)])) (l:=[]) aA aA (hh.app (by simp[bT])) aA aE rfl (Weak.refl _) aA (.inr ⟨[some (.cells (buf 5 [] 0))],c',hh.app (by simp[bT]),by simpa using hc',rfl,rfl⟩)
def aA4 (ts l:List Tm)(i:Nat):Prop:=l.length=ts.length/\∀k,k<ts.length->l[k]?=if k<i\/ts.length<=k+i then ts[ts.length-1-k]? else ts[k]?
theorem aF5 (ts:List Tm):aA4 ts ts 0:=⟨rfl,fun k hk=>by rw[if_neg aB]⟩
theorem aF3 {ts l:List Tm} {i:Nat} (h:aA4 ts l i)(hi:ts.length<=2*i+1):l=ts.reverse:=by
 apply aZz;intro k;rcases aZy k ts.length with hk|hk
 ·rw[h.2 k hk,List.getElem?_reverse hk]
  by_cases hc:k<i\/ts.length<=k+i
  ·rw[if_pos hc]
  ·rw[if_neg hc]
   congr 1;omega
 ·rw[bAf (by rw[h.1];exact hk),bAf (by simpa using hk)]
theorem aF4 {ts l:List Tm} {i:Nat} (h:aA4 ts l i)(hi:2*i+1<ts.length)(x y:Tm)(hx:l[i]?=some x)(hy:l[ts.length-1-i]?=some y):aA4 ts ((l.set i y).set (ts.length-1-i) x) (i+1):=by
 refine⟨by simp[h.1],fun k hk=>?_⟩;have h1:=h.2 i aB;have h2:=h.2 (ts.length-1-i) aB;rw[if_neg aB] at h1 h2;rw[hx] at h1;rw[hy] at h2;rw[List.getElem?_set,List.getElem?_set]
 by_cases e1:ts.length-1-i=k
 ·rw[if_pos e1,if_pos (by simp[h.1];omega),if_pos aB];rw[show ts.length-1-k=i by omega];exact h1
 ·rw[if_neg e1]
  by_cases e2:i=k
  ·rw[if_pos e2,if_pos (by rw[h.1];omega),if_pos aB,<-e2];exact h2
  ·rw[if_neg e2,h.2 k hk]
   by_cases hc:k<i\/ts.length<=k+i
   ·rw[if_pos hc,if_pos aB]
   ·rw[if_neg hc,if_neg aB]
theorem uJ (h:Heap)(hh:WF h)(ts:List Tm)(id cap m:Nat)(hl:ts.length<=1048576)(hid:h[id]?=some (row ts m)):
  ACalls Tryz.prog 212 [.sm id 0 ts.length cap 5] h fun o h'=>o= .ret (.tup [])/\h'=h.set id (row ts.reverse m):=by
 obtain⟨g1,g2,g3,g4,g5,hlt⟩:=idf hid;refine zER Tryz.func212 Tryz.ntmps212 ?_;refine Run.loopS (ι:=Nat×List Tm) [0] (fun p=>2*p.1<=ts.length+1/\aA4 ts p.2 p.1) (fun p=>ts.length-p.1) (fun p=>[(2,iA p.1),(3,iA ((ts.length:Int)-1-p.1))]) (fun p=>h.set id (row p.2 m)) (0,ts) ⟨by simp,aF5 ts⟩ ?_ (by simp[dP hid]) ?_
 ·exact zS
 rintro⟨i,l⟩ ⟨hi,ht⟩ IH;simp only at hi ht;simp;have hll:=ht.1
 by_cases hc:2*i+1<ts.length
 ·obtain⟨j,hj⟩:∃j:Nat,j=ts.length-1-i:=⟨_,rfl⟩;have hje:(ts.length:Int)-1-i=(j:Int):=aB;rw[hje];have hc2:i<j:=aB;have hil:i<l.length:=aB;have hjl:j<l.length:=aB;obtain⟨x,hx⟩:∃x,l[i]=x:=⟨_,rfl⟩;obtain⟨y,hy⟩:∃y,l[j]=y:=⟨_,rfl⟩;have hstep:=aF4 ht hc x y (by rw[aYb hil,hx]) (by rw[<-hj,aYb hjl,hy]);rw[<-hj] at hstep;have gx:((buf 5 (aL l) m).drop (i*5)).take 5=x.cells.map .p:=by rw[aMv hil,hx]
  have gy:((buf 5 (aL l) m).drop (j*5)).take 5=y.cells.map .p:=by rw[aMv hjl,hy]
  have p1:patch (buf 5 (aL l) m) (i*5) (y.cells.map .p)=buf 5 (aL (l.set i y)) m:=aMx y hil;have p2:patch (buf 5 (aL (l.set i y)) m) (j*5) (x.cells.map .p)=buf 5 (aL ((l.set i y).set j x)) m:=aMx x (by simpa using hjl);have l1:i*5+5<=(buf 5 (aL l) m).length:=by rw[row_len];omega
  have l2:j*5+5<=(buf 5 (aL l) m).length:=by rw[row_len];omega
  have l3:j*5+5<=(buf 5 (aL (l.set i y)) m).length:=by rw[row_len];simp;omega
  have hi2:i<ts.length:=aB;have hj2:j<ts.length:=aB;refine znr ?_;refine zt1 hc2 ?_;refine Run.draw [0,0,0,0,0,0,0,0,0,0,0,0,0,0,1,1] [0,0,0,0,0,0,0,0,0,0,0,0,0,0,0,1] [0,0,0,0,0,0,48,112,0,0,768,1792,4083,8179,16383,32767] [0,1,4,5,6,7,8,9,10,11,12,13,2,3,14,15] aC aC ?_;refine zd10 hi2 hj2 l1 l2 l3 gx gy p1 p2 g3 ?_;refine y9 ?_;refine znr ?_;refine IH (i+1,(l.set i y).set j x) _ _ ⟨by simp only;omega,hstep⟩ (by simp only;omega) ?_ ?_
  ·simp;exact y7y
  ·simp
 ·have hc2:¬(i:Int)<(ts.length:Int)-1-i:=aB;have hd:=aF3 ht aB;subst hd;refine aFg hc2 ?_;refine y21 ?_;refine Run.nil ?_;exact Fin.ret' (h0:=h.set id (row ts.reverse m)) aA aA (hh.set (row_under _ _ _)) (aYh _).symm rfl rfl (Weak.refl _) rfl ⟨rfl,rfl⟩
theorem reverse_nil (h:Heap)(hh:WF h):AC 212 [.p (.sl 5 [])] h (.tup []):=by
 refine zER Tryz.func212 Tryz.ntmps212 ?_;refine Run.loopS [] (fun _:Unit=>True) (fun _=>0) (fun _=>[(2,iA 0),(3,iA (-1))]) (fun _=>h) () trivial ?_ rfl ?_
 ·exact zS
 rintro _ _ IH;refine aO4 ?_;refine Run.nil ?_;exact y39
open Go Go.AI
def aO7 (n:List UInt8):Tm:= .mk 3 0 n [] []
def aTu (ctx:List Tm)(i:Int):Tm×Int:=
 if i<0\/(ctx.length:Int)<=i then(zT,24) else match ctx[((ctx.length:Int)-1-i).toNat]? with
  |some t=>cY (i+1) 0 t
  |none=>(zT,24)
open Go Go.AI
def isB (k:Int):Tm->Option (Tm×Tm)
 | .mk k' _ _ _ [a,b]=>if k'=k then some (a,b) else none
 |_=>none
def aVi:Nat->List Tm->Tm->List Tm×Tm×Int
 |0,acc,t=>(acc,t,0)
 |n+1,acc,t=>match isB 6 t with
  |some (a,b)=>aVi n (acc++[a]) b
  |none=>([],zT,13)
def aMn (t:Tm)(n:Int):List Tm×Tm×Int:=if n<0 then([],zT,2) else aVi n.toNat [] t
open Go Go.AI
abbrev vc (x:Int):List PV:=[iP 0,iP x,sP [], .prim (.slice none 0 0), .prim (.slice none 0 0)]
def varZ (n fr:Int):List Int:=if n<1\/4096<n\/fr<0 then [] else(List.range n.toNat).map fun j:Nat=>fr+n-1-j
def varL (n fr:Int):List Tm:=(varZ n fr).map vr
open Go Go.AI
def aTt (ctx:List Tm)(t:Tm)(args:List Tm):Tm×Int:=if args.length≠ctx.length then(zT,6) else aJ t args.reverse 0
open Go Go.AI
def aXb (k:Int)(ctx:List Tm)(t:Tm):Tm:=ctx.foldr (fun a t=> .mk k 0 [] [] [a,t]) t
open Go Go.AI
def aFt (a b:Tm):Tm:= .mk 6 0 [] [] [a,(cY 1 0 b).1]
theorem aDi (h:Heap)(hh:WF h)(a b:Tm)(hok:b.ok 65536)(hsz:b.size<=1048576):ACalls Tryz.prog 122 [a.av,b.av] h fun o h'=>o= .ret (aFt a b).av/\h'=h:=by
 have hs:=fun(g:Heap) (hg:WF g)=>aC3 g hg b 1 0 aB aB aB (aH1 b 65536 hok aB)
 unfold aFt;generalize cY 1 0 b=r at hs⊢;obtain⟨⟨r0,r1,r2,r3,r4⟩,e⟩:=r;obtain⟨i0,i1,i2,i3,i4⟩:=a;obtain⟨j0,j1,j2,j3,j4⟩:=b;refine ACalls.of_run Tryz.func122 rfl ?_;simp only[Tryz.ntmps122,aYi,aYj,Tm.av,aG,List.map];refine rI ?_;refine rl (args:=[(Tm.mk j0 j1 j2 j3 j4).av,iA 1,iA 0]) rfl aF aA rfl (hs _ (hh.app aA)) ?_;refine aWa ?_;refine Fin.ret' (h0:=h) aA rfl hh rfl aE rfl ?_ aA ⟨rfl,rfl⟩;simp only[aG,List.map,aL,aW];exact y3o
def aJs (k:Int):Nat->List Tm->Tm->List Tm×Tm
 |0,acc,t=>(acc,t)
 |n+1,acc,t=>match isB k t with
  |some (a,b)=>aJs k n (acc++[a]) b
  |none=>(acc,t)
def cI (t:Tm):List Tm×Tm:=aJs 6 t.size [] t
theorem rY (h:Heap)(hh:WF h)(t:Tm)(hsz:t.size<=1048576):
  AC 172 [t.av] h (.tup [.p (.sl 5 (aL (cI t).1)),(cI t).2.av]):=by
 obtain⟨r,hr⟩:∃r,r=cI t:=⟨_,rfl⟩;rw[<-hr];unfold cI at hr;obtain⟨tc,htc⟩:∃tc,tc=t.cells.map AV.p:=⟨_,rfl⟩;refine y28 ?_;have htl:tc.length=5:=by rw[htc];simp
 refine cR Tryz.func172 Tryz.ntmps172 ?_;exact y2u
theorem aA7 (h:Heap)(hh:WF h)(t:Tm)(hsz:t.size<=1048576):
  AC 135 [t.av] h (.tup [.p (.sl 5 (aL (cI t).1)),(cI t).2.av]):=by
 obtain⟨r,hr⟩:∃r,r=cI t:=⟨_,rfl⟩;rw[<-hr];unfold cI at hr;obtain⟨tc,htc⟩:∃tc,tc=t.cells.map AV.p:=⟨_,rfl⟩;refine y28 ?_;have htl:tc.length=5:=by rw[htc];simp
 refine cR Tryz.func135 Tryz.ntmps135 ?_;exact y2u
end Go.Proofs.YtcfcolkbeelegaaGreat
namespace Go.AI
open Go
section
variable {P:Program} {E:Env} {w:World} {h:Heap}
theorem vJ {t:TypeId} {len:Nat} {parts:List (Nat×AV)} {vals:Array (Nat×Value)} {sz:Nat} {es:List (List PV)}
  (h1:parts.map (·.1)=vals.toList.map (·.1)) (h2:RepL E w (parts.map (·.2)) (vals.toList.map (·.2)))
  (hb:mM P t len parts=some (.p (.sl sz es))):∃vs T,(∀e∈es,e.length=sz)/\RepL E w (es.flatten.map .p) vs/\(Instr.buildSlice t len vals).run P w= .ok (.slice (some ⟨w.heap.size,0,none⟩) es.length es.length) (w.alloc (.cells (List.toArray vs) T (0,0))):=by
 unfold mM at hb;split at hb
 ·rename_i e hel;split at hb
  ·rename_i sz' z hsz hz;split at hb
   ·rename_i hcond;obtain⟨hlim,hpos⟩:=hcond;simp only[aYr,AV.p.injEq,PV.sl.injEq] at hb;obtain⟨out,ho,rfl,rfl⟩:=hb;obtain⟨zv,hzr,hzc⟩:=oM (w:=w) hz;obtain⟨i,_,hi,_,_,hzl,hprim⟩:=bV hz;have hzs:z.length=sz':=by unfold szT at hsz;rw[hi] at hsz;simp at hsz;omega
    have hu0:∀e∈List.replicate len (z.map PV.prim),e.length=sz':=by
     intro e he;rw[(bB5.1 he).2];simp[hzs]
    have h30:RepL E w ((List.replicate len (z.map PV.prim)).flatten.map .p) (List.replicate len z).flatten:=by
     rw[wM];exact y5h
    obtain⟨vo,e1,e2,e3,e4⟩:=mT (E:=E) (w:=w) sz' parts vals.toList _ _ out h1 h2 hu0 h30 ho;simp only[List.length_replicate] at e4;subst e4;refine⟨vo,e,e3,e2,?_⟩
    have hinit:(Array.range (out.length*sz')).map (fun i=>(List.toArray z)[i%(List.toArray z).size]!)=List.toArray (List.replicate out.length z).flatten:=by
     exact y89
    refine y2l ?_
    by_cases hz0:out.length*sz'=0
    ·have hl0:out.length=0:=by
      exact y8d
     have e1':Instr.fill (fun i=>some (i*sz',sz')) #[] vals.toList=some (List.toArray vo):=by
      rw[hl0] at e1;simpa using e1
     exact y8l
    ·exact y8a
   ·cases hb
  ·cases hb
 ·cases hb
end
section
variable {P:Program} {rd:Option Nat} {nb:Nat} {k:List It} {T:List AV} {h:Heap} {D:List AD} {Q:AX->List AV->Heap->List AD->Prop} {all:Array Oper} {o:Oper} {rest:List Oper}
theorem Run.buildV {t:TypeId} {len sz:Nat} {parts:Array (Nat×Operand)} {es:List (List PV)} (ho:o.op= .buildSlice t len parts)(hw:aI all T o=some true)
  (hb:mM P t len (parts.toList.map fun p=>(p.1,aev T p.2))=some (.p (.sl sz es))) (hpos:0<es.length)
  (r:Run P rd nb (.ops all rest::k) (tput T o.dst (.vec h.length es.length)) (h++[some (.vec sz es)]) D Q):Run P rd nb (.ops all (o::rest)::k) T h D Q:=by
 refine Run.opR (R:=fun x h'=>x= .vec h.length es.length/\h'=h++[some (.vec sz es)]) hw (fun c hc=>by rw[hc] at ho;cases ho) ?_ (by rintro x h' ⟨rfl,rfl⟩;exact r);intro E w a st;obtain⟨p1,p2⟩:=tY st parts;obtain⟨vs,T0,hes,hrep,hrun⟩:=vJ (P:=P) p1 p2 hb;obtain⟨t1,t2,t3⟩:=st.rel.newTk st.fresh (tk:= .vec sz []) (sz:=sz) rfl;have hl:=hrep.length;rw[aZ5,aV hes] at hl;have hid:Heap.at (h++[some (.vec sz [])]) h.length=some (.vec sz []):=aA
 obtain⟨g1,g2⟩:=t1.growG (w':=w.alloc (.cells (List.toArray vs) T0 (0,0))) (b:=w.heap.size) (c':=es.length) (vs:=vs) (n:=0) (m:=es.length) (k:=0) (k':=0) (o':= .vec sz es) (cs':=es.flatten.map .p)
  hid rfl (by simp[AO.tk]) (aYd _) (.inl hpos) (.inr (aYd _)) ⟨T0,eC _⟩ hl aB (fun b' _ hb'=>dE _ hb') (fun off ho=>by have:=t1.lt _ _ ho;omega) (by rw[dA];omega) ⟨rfl,rfl⟩
  (fun E' hx' _=>by
   rw[aYn (by rw[aZ5,aV hes];omega)];exact hrep.ext (t2.ext.trans hx'))
 have hset:(h++[some (AO.vec sz [])]).set h.length (some (.vec sz es))=h++[some (.vec sz es)]:=aA;rw[hset] at g1 g2;refine⟨_,_,_,_, .slice (some ⟨w.heap.size,0,none⟩) es.length es.length,⟨rfl,rfl⟩,?_,g1,?_,?_,t2.trans g2⟩
 ·simp[execOp,ho,hrun]
 ·have:=oV (h:=h++[some (AO.vec sz [])]) (o:=some (AO.vec sz es)) (b:=w.heap.size) (c:=es.length) (n:=0+es.length) (id:=h.length) (R:=fun b' off=>E.ro b' off\/(b'=w.heap.size/\off<0*sz)) (by simpa using t3) aA;rw[hset] at this;exact this
 ·simp only[Rep];exact⟨⟨some w.heap.size,es.length,es.length⟩,by simp,by simp,_,es.length,by simp,fun _=>⟨rfl,rfl⟩⟩
end
end Go.AI
namespace Go.Proofs.YtcfcolkbeelegaaGreat
open Go Go.AI
theorem aGn (h:Heap)(hh:WF h)(t:Tm)(hg:t.good):AC 66 [t.av] h (bA (eP 60000 8 65536 65536 t !=0)):=by
 have hc:=fun g hw=>sF g hw t 60000 8 65536 65536 (by have:=hg.1;omega) hg.2.1
 generalize eP 60000 8 65536 65536 t=e at hc⊢;obtain⟨k,i,n,ls,ks⟩:=t;simp only[Tm.av,aG,List.map] at hc⊢;refine cR Tryz.func66 Tryz.ntmps66 ?_;refine zL (hc _ (hh.app aA)) ?_;refine zox ?_;exact y2t
def aJr (P:Bool->Prop)(o:AOut):Prop:=∃b,o= .ret (bA b)/\P b
def aWh (P:Int->Prop)(o:AOut):Prop:=∃e,o= .ret (iA e)/\P e
theorem iF (h:Heap)(hh:WF h)(t:Tm)(hg:t.good):ACalls Tryz.prog 201 [t.av] h fun o h'=>aJr (fun _=>True) o/\h'=h:=by
 have h1:=fun g hw=>oR t.size t g (aYd _) (by have:=hg.1;omega) hw
 have h2:=fun g hw=>nU t.size t g (aYd _) (by have:=hg.1;omega) hw
 generalize t.size=s at h1;generalize t.depth=d at h2;obtain⟨k,i,n,ls,ks⟩:=t;simp only[Tm.av,aG,List.map] at h1 h2⊢;refine cR Tryz.func201 Tryz.ntmps201 ?_;refine zL (h1 _ (hh.app aA)) ?_
 by_cases c1:(s:Int)<=400
 ·refine zo1 c1 ?_;refine zL (h2 _ (hh.app aA)) ?_;refine zox ?_;exact y7v
 ·refine zo1 c1 ?_;refine zx ?_;exact y7v
theorem rV (h:Heap)(hh:WF h)(t:Tm)(hg:t.good):AC 227 [t.av] h (bA (fR t zT)):=by
 have hc:=fun g hw=>rR t.size t zT g (aYd _) (by have:=hg.1;omega) hg.2.2 hw
 generalize fR t zT=b at hc⊢;obtain⟨k,i,n,ls,ks⟩:=t;simp only[Tm.av,aG,List.map] at hc⊢;refine cR Tryz.func227 Tryz.ntmps227 ?_;refine zL (ACalls.weak (WeakL.cons (Weak.refl _) (WeakL.cons Weak.zT WeakL.nil)) (hc _ (hh.app aA))) ?_;refine zox ?_;exact y2t
def eH (l:List (List UInt8)):List (List PV):=l.map fun s=>[sP s]
@[simp] theorem aRu (l:List (List UInt8)):(eH l).length=l.length:=by simp[eH]
@[simp] theorem aVp (l:List (List UInt8)) (i:Nat):(eH l)[i]?=(l[i]?).map fun s=>[sP s] :=by simp[eH]
theorem aDx (h:Heap)(hh:WF h)(l:List (List UInt8))(s:List UInt8)(hl:l.length<=1099511627776):AC 217 [.p (.sl 1 (eH l)), .p (sP s)] h (bA (decide (s∈l))):=by
 refine cR Tryz.func217 Tryz.ntmps217 ?_;refine Run.loopS [0,1] (fun j:Nat=>j<=l.length/\s∉l.take j) (fun j=>l.length-j) (fun j=>[(5,iA j)]) (fun _=>_) 0 aA ?_ rfl ?_
 ·exact zS
 rintro j ⟨hj,hall⟩ IH;refine cC ?_
 by_cases hjl:j<l.length
 ·have hg:l[j]?=some l[j]:=aYb hjl;have htk:l.take (j+1)=l.take j++[l[j]]:=aYm hjl;have hmem:l[j]∈l:=aYe hjl;generalize l[j]=x at hg htk hmem;refine jG hjl hg ?_
  by_cases hx:x=s
  ·refine dD hx ?_;refine zA ?_;refine zF3 hh ?_;exact⟨by simp[hx▸hmem],rfl⟩
  ·refine dI hx ?_;refine IH (j+1) _ _ ⟨by omega,by rw[htk];simp[hall];exact fun e=>hx e.symm⟩ aB ?_ rfl;exact zS
 ·have hje:j=l.length:=aB;subst hje;rw[aZ2] at hall;refine dJ ?_;refine zA ?_;refine zF3 hh ?_;exact⟨by simp[hall],rfl⟩
def dH:Tm->Nat
 | .mk k _ _ _ [_,b]=>if k=6 then dH b+1 else 0
 |_=>0
theorem oA:∀(N:Nat)(t:Tm),t.size<=N->dH t<=t.size
 |0,t,h=>by have:=t.size_pos;omega
 |N+1, .mk k i n ls ks,h=>by
  match ks with
  |[]=>simp[dH]
  |[a]=>simp[dH]
  |[a,b]=>
   simp only[dH,Tm.size,Tm.sizes] at h⊢;split
   ·have:=oA N b aB;omega
   ·omega
  |a::b::c::r=>simp[dH]
theorem tK (h:Heap)(hh:WF h)(t:Tm)(hs:t.size<=1048576):AC 256 [t.av] h (iA (dH t)):=by
 have hle:=oA t.size t (aYd _);obtain⟨T,hT⟩:∃T,T=dH t:=⟨_,rfl⟩;rw[<-hT] at hle⊢;obtain⟨k,i,n,ls,ks⟩:=t;simp only[Tm.av,aG,List.map] at hle⊢;refine cR Tryz.func256 Tryz.ntmps256 ?_;refine Run.loopS (ι:=Tm×Nat) [1] (fun p=>dH p.1+p.2=T/\p.1.size<=1048576) (fun p=>p.1.size) (fun p=>[(3,iA p.2)]) (fun p=>h++[some (.cells (p.1.cells.map .p))]) (.mk k i n ls ks,0) ⟨by simp[hT],hs⟩ ?_ aA ?_
 ·exact zS
 rintro⟨u,m⟩ ⟨hu,hus⟩ IH;obtain⟨k,i,n,ls,ks⟩:=u;simp only at hu hus;have hks:=aR ks;simp only[Tm.size] at hus;refine zsn ?_;refine Run.regJ [1,3] 12 (k==6&& (ks.length:Int)==2) (fun K J=>?_) ?_
 ·simp;exact y2q
 refine y7 ?_;simp;refine Run.condB rfl (fun h1=>?_) (fun h1=>?_)
 ·have h1':k=6/\ks.length=2:=by simp at h1;omega
  obtain⟨rfl,h2⟩:=h1';obtain⟨a,b,hab⟩:∃a b,ks=[a,b]:=by match ks,h2 with|[a,b],_=>exact⟨a,b,rfl⟩
  have hg:ks[1]?=some b:=by rw[hab];rfl
  have hlt:b.size<(Tm.mk 6 i n ls ks).size:=by rw[hab];simp[Tm.size,Tm.sizes];omega
  rw[hab] at hu hus;simp only[dH,if_true] at hu;simp only[Tm.sizes] at hus;have hml:dH b+(m+1)=T:=aB;have hbs:b.size<=1048576:=aB;clear hu hus hab hks;have hm:m<=1048576:=aB;refine znr ?_;obtain⟨k',i',n',ls',ks'⟩:=b;refine nH hg ?_;refine IH (.mk k' i' n' ls' ks',m+1) _ _ ⟨hml,hbs⟩ hlt ?_ aA;exact zS
 ·have:dH (.mk k i n ls ks)=0:=by
   match ks,h1 with
   |[],_=>simp[dH]
   |[a],_=>simp[dH]
   |[a,b],h1=>simp at h1;simp[dH,h1]
   |a::b::c::r,_=>simp[dH]
  rw[this] at hu;refine zn ?_;refine y21 ?_;refine zA ?_;refine zF2 hh ?_;exact⟨by rw[<-hu];simp,rfl⟩
open Go Go.AI
structure En where
 k:Int
 at_:Int
 it:Int
 ps:Int
 ty:Tm
def En.cells (e:En):List PV:=iP e.k::iP e.at_::iP e.it::iP e.ps::e.ty.cells
def En.av (e:En):AV:= .agg (e.cells.map .p)
def zEn:En:=⟨0,0,0,0,zT⟩
def aIy:List UInt8:=[46,114,101,99]
def bE (d:Dc):List (List UInt8):=
 if d.k=0\/d.k=1\/d.k=2 then [d.nm] else if d.k=3 then d.nm::(d.cs.map Ct.nm++[d.nm++aIy]) else if d.k=4 then d.fs.map Fu.nm else []
def kL (d:Dc)(a:Int):List Ct->Nat->List (List UInt8×En)
 |[],_=>[]
 |c::cs,i=>(c.nm,⟨4,a,i,d.ps,c.ty⟩)::kL d a cs (i+1)
def kN (d:Dc)(a:Int):List Fu->Nat->List (List UInt8×En)
 |[],_=>[]
 |f::fs,i=>(f.nm,⟨6,a,i,d.ps,f.ty⟩)::kN d a fs (i+1)
def mS (d:Dc)(a:Int):List (List UInt8×En):=
 if d.k=0\/d.k=1\/d.k=2 then [(d.nm,⟨d.k,a,0,d.ps,d.ty⟩)]
 else if d.k=3 then(d.nm,⟨3,a,0,d.ps,d.ty⟩)::(kL d a d.cs 0++[(d.nm++aIy,⟨5,a,0,d.rp,d.rt⟩)])
 else if d.k=4 then kN d a d.fs 0 else []
def cG (s:List UInt8):List (List UInt8×En)->Option En
 |[]=>none
 |(x,e)::l=>if x=s then some e else cG s l
def sY (s:List UInt8):List Dc->Nat->Option En
 |[],_=>none
 |d::env,i=>match cG s (mS d i) with
  |some e=>some e
  |none=>sY s env (i+1)
def nR (d:Dc)(a:Int)(s:List UInt8):List Ct->Nat->Option En
 |[],_=>none
 |c::cs,i=>if c.nm=s then some ⟨4,a,i,d.ps,c.ty⟩ else nR d a s cs (i+1)
def nX (d:Dc)(a:Int)(s:List UInt8):List Fu->Nat->Option En
 |[],_=>none
 |f::fs,i=>if f.nm=s then some ⟨6,a,i,d.ps,f.ty⟩ else nX d a s fs (i+1)
def rM (d:Dc)(a:Int)(s:List UInt8):En:=
 if d.k=0\/d.k=1\/d.k=2 then⟨d.k,a,0,d.ps,d.ty⟩
 else if d.k=3 then(if s=d.nm then⟨3,a,0,d.ps,d.ty⟩ else(nR d a s d.cs 0).getD ⟨5,a,0,d.rp,d.rt⟩)
 else(nX d a s d.fs 0).getD ⟨0,a,0,d.ps,d.ty⟩
def dG (s:List UInt8):List Dc->Nat->Option En
 |[],_=>none
 |d::env,i=>if s∈bE d then some (rM d i s) else dG s env (i+1)
theorem mF (s:List UInt8):∀l m:List (List UInt8×En),cG s (l++m)=match cG s l with|some e=>some e|none=>cG s m
 |[],m=>rfl
 |(x,e)::l,m=>by
  simp only[aYf,cG];split
  ·rfl
  ·exact mF s l m
theorem aGh (d:Dc)(a:Int)(s:List UInt8):∀(l:List Ct)(i:Nat),cG s (kL d a l i)=nR d a s l i
 |[],_=>rfl
 |c::l,i=>by simp only[kL,cG,nR,aGh d a s l (i+1)]
theorem aGi (d:Dc)(a:Int)(s:List UInt8):∀(l:List Fu)(i:Nat),cG s (kN d a l i)=nX d a s l i
 |[],_=>rfl
 |c::l,i=>by simp only[kN,cG,nX,aGi d a s l (i+1)]
theorem aAv (d:Dc)(a:Int)(s:List UInt8):∀(l:List Ct)(i:Nat),(nR d a s l i).isSome=decide (s∈l.map Ct.nm)
 |[],_=>by simp[nR]
 |c::l,i=>by
  simp only[nR]
  by_cases h:c.nm=s
  ·simp[h]
  ·have h':¬s=c.nm:=fun e=>h e.symm
   rw[if_neg h,aAv d a s l (i+1)];simp[h']
theorem aBa (d:Dc)(a:Int)(s:List UInt8):∀(l:List Fu)(i:Nat),(nX d a s l i).isSome=decide (s∈l.map Fu.nm)
 |[],_=>by simp[nX]
 |c::l,i=>by
  simp only[nX]
  by_cases h:c.nm=s
  ·simp[h]
  ·have h':¬s=c.nm:=fun e=>h e.symm
   rw[if_neg h,aBa d a s l (i+1)];simp[h']
theorem aL4 (d:Dc)(a:Int)(s:List UInt8):cG s (mS d a)=if s∈bE d then some (rM d a s) else none:=by
 unfold mS bE rM
 by_cases h1:d.k=0\/d.k=1\/d.k=2
 ·simp only[h1,if_true,cG,List.mem_singleton]
  by_cases h:d.nm=s
  ·simp[h]
  ·have h':¬s=d.nm:=fun e=>h e.symm
   simp[h,h']
 ·by_cases h2:d.k=3
  ·rw[if_neg h1,if_neg h1,if_neg h1,if_pos h2,if_pos h2,if_pos h2];simp only[cG,mF,aGh]
   by_cases h:d.nm=s
   ·simp[h]
   ·have h':¬s=d.nm:=fun e=>h e.symm
    rw[if_neg h];have hc:=aAv d a s d.cs 0
    cases hx:nR d a s d.cs 0 with
    |some e=>
     rw[hx] at hc;have hm:s∈d.cs.map Ct.nm:=by simpa using hc.symm
     have hm2:s∈d.nm::(d.cs.map Ct.nm++[d.nm++aIy]):=bA7 _ (bA1 _ hm);rw[if_pos hm2,if_neg h'];simp
    |none=>
     rw[hx] at hc;have hm:¬s∈d.cs.map Ct.nm:=by simpa using hc.symm
     by_cases hr:d.nm++aIy=s
     ·have hm2:s∈d.nm::(d.cs.map Ct.nm++[d.nm++aIy]):=bA7 _ (List.mem_append_right _ (by simp[hr]));rw[if_pos hm2,if_neg h',if_pos hr];simp
     ·have hm2:¬s∈d.nm::(d.cs.map Ct.nm++[d.nm++aIy]):=by
       simp only[aYx,aZ4,List.not_mem_nil,or_false,not_or];exact⟨h',hm,fun e=>hr e.symm⟩
      rw[if_neg hm2,if_neg hr]
  ·by_cases h3:d.k=4
   ·rw[if_neg h1,if_neg h1,if_neg h1,if_neg h2,if_neg h2,if_neg h2,if_pos h3,if_pos h3];rw[aGi];have hc:=aBa d a s d.fs 0
    cases hx:nX d a s d.fs 0 with
    |some e=>
     rw[hx] at hc;have hm:s∈d.fs.map Fu.nm:=by simpa using hc.symm
     rw[if_pos hm];simp
    |none=>
     rw[hx] at hc;have hm:¬s∈d.fs.map Fu.nm:=by simpa using hc.symm
     rw[if_neg hm]
   ·rw[if_neg h1,if_neg h1,if_neg h2,if_neg h2,if_neg h3,if_neg h3];simp[cG]
theorem aB7 (s:List UInt8):∀(env:List Dc)(i:Nat),sY s env i=dG s env i
 |[],_=>rfl
 |d::env,i=>by
  simp only[sY,dG,aL4]
  by_cases h:s∈bE d
  ·simp[h]
  ·simp only[if_neg h];exact aB7 s env (i+1)
def EnOk (env:List Dc)(i:Nat)(e:En):Prop:=∃(j:Nat)(d:Dc),e.at_=((i+j:Nat):Int)/\env[j]?=some d/\0<=e.it/\(e.k=4->e.it<d.cs.length)/\((e.k=3\/e.k=4\/e.k=5)->d.k=3)
theorem aDq (d:Dc)(a:Int)(s:List UInt8):∀(l:List Ct)(i:Nat)(e:En),nR d a s l i=some e->e.k=4/\e.at_=a/\(i:Int)<=e.it/\e.it<i+l.length
 |[],_,_,h=>by simp[nR] at h
 |c::l,i,e,h=>by
  simp only[nR] at h;split at h
  ·cases h;exact⟨rfl,rfl,by simp,by simp;omega⟩
  ·have:=aDq d a s l (i+1) e h;simp only[aYi];exact⟨this.1,this.2.1,by omega,by omega⟩
theorem aL9 (d:Dc)(a:Int)(s:List UInt8):∀(l:List Fu)(i:Nat)(e:En),nX d a s l i=some e->e.k=6/\e.at_=a/\(i:Int)<=e.it
 |[],_,_,h=>by simp[nX] at h
 |c::l,i,e,h=>by
  simp only[nX] at h;split at h
  ·cases h;exact⟨rfl,rfl,by simp⟩
  ·have:=aL9 d a s l (i+1) e h;exact⟨this.1,this.2.1,by omega⟩
theorem aKu (d:Dc)(a:Int)(s:List UInt8)(_hs:s∈bE d):(rM d a s).at_=a/\0<=(rM d a s).it/\((rM d a s).k=4->(rM d a s).it<d.cs.length)/\(((rM d a s).k=3\/(rM d a s).k=4\/(rM d a s).k=5)->d.k=3):=by
 unfold rM
 by_cases h1:d.k=0\/d.k=1\/d.k=2
 ·rw[if_pos h1];exact⟨rfl,by simp,fun h=>by simp only at h;omega,fun h=>by simp only at h;omega⟩
 ·rw[if_neg h1]
  by_cases h2:d.k=3
  ·rw[if_pos h2];split
   ·exact⟨rfl,by simp,fun h=>by simp at h,fun _=>h2⟩
   ·cases hx:nR d a s d.cs 0 with
    |none=>exact⟨rfl,by simp,fun h=>by simp at h,fun _=>h2⟩
    |some e=>
     have:=aDq d a s d.cs 0 e hx;simp only[aYs];exact⟨this.2.1,by omega,fun _=>by omega,fun _=>h2⟩
  ·rw[if_neg h2]
   cases hx:nX d a s d.fs 0 with
   |none=>exact⟨rfl,by simp,fun h=>by simp at h,fun h=>by simp at h⟩
   |some e=>
    have:=aL9 d a s d.fs 0 e hx;simp only[aYs];exact⟨this.2.1,by omega,fun h=>by omega,fun h=>by omega⟩
theorem lP (s:List UInt8):∀(env:List Dc)(i:Nat)(e:En),dG s env i=some e->EnOk env i e
 |[],_,_,h=>by simp[dG] at h
 |d::env,i,e,h=>by
  simp only[dG] at h;split at h
  ·rename_i hs;cases h;have:=aKu d i s hs;exact⟨0,d,by rw[this.1];simp,rfl,this.2⟩
  ·obtain⟨j,d',h1,h2,h3⟩:=lP s env (i+1) e h;exact⟨j+1,d',by rw[h1];congr 1;omega,by simpa using h2,h3⟩
end Go.Proofs.YtcfcolkbeelegaaGreat
