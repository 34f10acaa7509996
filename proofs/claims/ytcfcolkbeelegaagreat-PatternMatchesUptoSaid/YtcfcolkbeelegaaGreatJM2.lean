import Derived.Test.YtcfcolkbeelegaaGreatJA0
import Derived.MapKept
import Derived.Test.YtcfcolkbeelegaaGreatJFL
import Derived.Shelf.Sort.Plain
import Derived.Shelf.Slices.In.SortNone
import Derived.Test.YtcfcolkbeelegaaGreatJH5
import Derived.Test.YtcfcolkbeelegaaGreatJG1
set_option maxRecDepth 8000
set_option maxHeartbeats 4000000
namespace Go.AI
open Go Go.MapKept
section
variable {P:Program} {rd:Option Nat} {nb:Nat} {k:List It} {T:List AV} {h:Heap} {D:List AD} {Q:AX->List AV->Heap->List AD->Prop} {all:Array Oper} {o:Oper} {rest:List Oper}
theorem tD {l0:List Oper} {lo:List Nat} {Kont:List AV->Heap->Prop} :∀(l pre:List Oper)(T:List AV),l0=pre++l->(∀o∈l,isE o.op=false)->
  eA P l0.toArray (fun l' T' h'=>l'=[]/\(h'=h->Kont T' h)) l T h->drOps P l0.toArray lo (DR P l0.toArray lo Kont) (List.range' pre.length l.length) [] T h
 |[],pre,T,_,_,r=>by
  simp only[eA] at r;simp only[aZ2,List.range'_zero,drOps,DR];simpa using r
 |o::l,pre,T,e,hE,r=>by
  have he:=hE o aA;have hi:l0.toArray[pre.length]?=some o:=by rw[e];simp
  have ih:∀T,eA P l0.toArray (fun l' T' h'=>l'=[]/\(h'=h->Kont T' h)) l T h->drOps P l0.toArray lo (DR P l0.toArray lo Kont) (List.range' (pre.length+1) l.length) [] T h:=fun T r=>by
   have:=tD (Kont:=Kont) (lo:=lo) l (pre++[o]) T (by rw[e,aZi];rfl) (fun o' h'=>hE o' (by simp[h'])) r
   rwa [aZ4,aZ1,aZ2,aZv] at this
  simp only[eA] at r;simp only[aZ1,List.range'_succ,drOps,hi,he];split at r
  ·rename_i hw;rw[hw];simp only;split at r
   ·rename_i x h' ho;have:=kP he ho;subst this;simp only[aZd,if_false,List.drop_nil];exact⟨by simp[stab],ih _ r⟩
   ·exact absurd r.1 aA
  ·rename_i hw;rw[hw];simp only[aZd,if_false];exact ih _ r
  ·exact absurd r.1 aA
theorem Run.drawPlain {id:Nat} {l:List Oper} (lo rk tbl:List Nat)(hm:P.follows .mixedOrders=true)(hok:okDraw l.toArray lo rk tbl none (List.range l.length)=true)(hE:l.all (fun o=>!isE o.op)=true)
  (r:∀K:List Oper->List AV->Heap->Prop,(∀T',Run P rd nb k T' h D Q->K [] T' h)->eA P l.toArray K l T h):Run P rd nb (.code (.region id l.toArray true)::k) T h D Q:=by
 refine Run.draw lo rk tbl (List.range l.length) hm hok (drOps_sound _ _ _ _ ?_);rw[List.range_eq_range'];refine tD l [] T aA (fun o ho=>by simpa using aZf.1 hE o ho) (r _ fun T' h'=>⟨rfl,fun _=>h'⟩)
theorem Run.makeMap {t:TypeId} (ho:o.op= .makeMap t none)(hw:aJ all T o=some true)
  (r:Run P rd nb (.ops all rest::k) (tput T o.dst (.mp h.length)) (h++[some (.aux (.map []))]) D Q):Run P rd nb (.ops all (o::rest)::k) T h D Q:=by
 refine Run.opR (R:=fun x h'=>x= .mp h.length/\h'=h++[some (.aux (.map []))]) hw (fun c hc=>by rw[hc] at ho;cases ho) ?_ (by rintro x h' ⟨rfl,rfl⟩;exact r);intro E w a s;obtain⟨g1,g2,g3⟩:=Rel.allocO s.rel s.fresh (o:= .aux (.map [])) (ob:= .map #[] 0) rfl (fun _ _ _ e=>by cases e) (fun _=>⟨#[],0,eC _,rfl,by simp[Stamped]⟩);refine⟨_,_,_,_, .map (some w.heap.size),⟨rfl,rfl⟩,?_,g1,by simpa using g3,?_,g2⟩
 ·simp only[execOp,ho]
  rfl
 ·exact y8u
def zeroB (P:Program)(t:TypeId):Bool:=match P.info? t with
 |some i=>match i.zero with
  |some (.bool false)=>true
  |_=>false
 |none=>false
end
open Go Go.Shelf Go.Sort Go.Proofs
def rM (l:List Int):List (List PV):=l.map fun z=>[.prim (.int .i64 z)]
theorem aH3 (l:List Int):∀e∈rM l,e.length=1:=by
 intro e he;obtain⟨z,_,rfl⟩:=aZq.1 he
 rfl
theorem jV (l:List Int):(rM l).length=l.length:=by simp[rM]
theorem aLy (l:List Int):(rM l).flatten.map AV.p=l.map fun z=> .p (.prim (.int .i64 z)):=by
 induction l with
 |nil=>rfl
 |cons z l ih=>simp only[rM,aZc,bA9,aYy,aZ3] at ih⊢;rw[ih]
theorem uO {E w} :∀ {l:List Int} {vs:List Value},RepL E w (l.map fun z=> .p (.prim (.int .i64 z))) vs↔vs=l.map (Value.int .i64)
 |[],vs=>by simp[RepL]
 |z::l,vs=>by
  simp only[aZc,RepL,Rep,RepP];constructor
  ·rintro⟨v,us,rfl,⟨rfl,_⟩,h⟩;rw[(uO (l:=l)).1 h]
  ·rintro rfl;exact⟨_,_,rfl,⟨rfl,rfl⟩,(uO (l:=l)).2 rfl⟩
open Go
section
variable {P:Program} {rd:Option Nat} {nb:Nat} {k:List It} {T:List AV} {h:Heap} {D:List AD} {Q:AX->List AV->Heap->List AD->Prop} {all:Array Oper} {o:Oper} {rest:List Oper}
theorem Run.vecAt (id off sz:Nat) {cs:List AV} (hid:h.at id=some (.cells cs))(hs:cs[off]?=some (.p (.prim (.slice none 0 0))))(r:Run P rd nb k T (h.set id (some (.cells (cs.set off (.vec h.length 0))))++[some (.vec sz [])]) D Q):Run P rd nb k T h D Q:=by
 intro E w a s;have hlt:=cP hid;obtain⟨t1,t2,t3⟩:=s.rel.newTk s.fresh (tk:= .vec sz []) (sz:=sz) rfl;have s':=s.move t2 t1 (by simpa using t3);have hid':Heap.at (h++[some (.vec sz [])]) id=some (.cells cs):=by rw[dR,if_neg aB];exact hid
 obtain⟨b,vs,hg,hrow,hreps⟩:=s'.rel.objs id cs hid'
 have hx:Rep {E with t:=fun id=>if id=h.length then some ⟨none,0,0⟩ else E.t id} w (.vec h.length 0) (.slice none 0 0):=by
  simp only[Rep];exact⟨⟨none,0,0⟩,by simp,aYw _,none,0,rfl,fun _=>⟨rfl,rfl⟩⟩
 have hoff:off<cs.length:=(aYv.1 hs).1;have hl:=hreps.length
 have hv:vs[off]?=some (.slice none 0 0):=by
  exact y62
 have hsame:vs.set off (.slice none 0 0)=vs:=by
  exact y4g
 have hset:=hreps.set hx off;rw[hsame] at hset;obtain⟨w1,w2⟩:=s'.rel.write hid' hg hrow (fun _ _=>rfl) rfl rfl rfl hset;have e:List.set (h++[some (AO.vec sz [])]) id (some (.cells (cs.set off (.vec h.length 0))))=h.set id (some (.cells (cs.set off (.vec h.length 0))))++[some (.vec sz [])]:=aZp _ _ hlt;exact y6w
theorem Rel.forget {E:Env} {h:Heap} {w:World} (r:Rel E h.at w) {id:Nat} :Rel E (Heap.at (h.set id none)) w/\Fr E h.at w E (Heap.at (h.set id none)) w:=by
 have hat:∀id' o,Heap.at (h.set id none) id'=some o->h.at id'=some o:=by
  intro id' o e;unfold Heap.at at e⊢
  by_cases e':id=id'
  ·subst e';rw[List.getElem?_set_self'] at e
   cases hh:h[id]?<;>simp[hh] at e
  ·rwa [aZk e'] at e
 have hO:∀id' b',lO E (Heap.at (h.set id none)) id' b'->lO E h.at id' b':=by
  intro id' b' ho;rcases ho with ⟨c,h1,h3,h2⟩|⟨c,x,c',m,h1,hk,h2⟩
  ·exact .inl ⟨c,hat _ _ h1,h3,h2⟩
  ·exact .inr ⟨c,x,c',m,hat _ _ h1,hk,h2⟩
 exact⟨⟨fun id' c hc hm=>r.objsO id' c (hat _ _ hc) hm,fun id' c n sz k cs hc hk=>r.toks id' c n sz k cs (hat _ _ hc) hk,fun i i' b' h1 h2=>r.inj i i' b' (hO _ _ h1) (hO _ _ h2),fun id' c b' off hc hm=>r.sepO id' c b' off (hat _ _ hc) hm,
  fun id' c n sz k cs b' c' m off hc=>r.sepT id' c n sz k cs b' c' m off (hat _ _ hc),r.lt⟩,
  ⟨fun _ _ _=>rfl,Ext.refl _ _,fun _ _ h=> .inl h,aYw _,fun b' ⟨i,ho⟩=> .inl ⟨i,hO _ _ ho⟩,Kp.refl w⟩⟩
theorem aGy {E w} {es ys:List (List PV)} {vs us:List Value} (h1:RepL E w (es.flatten.map .p) vs)(h2:RepL E w (ys.flatten.map .p) us):RepL E w ((es++ys).flatten.map .p) (vs++us):=by
 rw[bB9,aZx];exact h1.append h2
theorem pF {E:Env} {id b c n:Nat} {R:Nat->Nat->Prop} {o:Option AO} (hf:Fresh E h.length)(hlt:id<h.length):
  Fresh {E with ro:=R,t:=fun j=>if j=id then some ⟨some b,c,n⟩ else E.t j} (h.set id o).length:=by
 intro j hj;exact y7e
theorem Run.appendV {s x:Operand} {t e:TypeId} {es ys:List (List PV)} {id sz by_:Nat} {z:List Value} (ho:o.op= .call ⟨.builtin .append,#[s,x],#[t,t]⟩)(hw:aJ all T o=some true)(he:elT P t=some e)(hsz:szT P e=some sz)(hby:byT P e=some by_)(hz:bZ P e=some z)
  (hs:aev T s= .vec id es.length) (hid:h.at id=some (.vec sz es)) (hes:∀e∈es,e.length=sz) (hx:aKc (aev T x)=some ys) (hx2:qD sz (aev T x)=true) (hpos:0<ys.length)
  (hb:(es.length+ys.length)*by_<=140737488355328) (hb2:es.length+ys.length<=9223372036854775807)
  (r:Run P rd nb (.ops all rest::k) (tput T o.dst (.vec id (es.length+ys.length))) (h.set id (some (.vec sz (es++ys)))) D Q):Run P rd nb (.ops all (o::rest)::k) T h D Q:=by
 refine Run.opR (R:=fun x h'=>x= .vec id (es.length+ys.length)/\h'=h.set id (some (.vec sz (es++ys)))) hw (fun c hc=>by rw[hc] at ho;cases ho) ?_ (by rintro x h' ⟨rfl,rfl⟩;exact r);intro E w a st;have hlt:=cP hid;have hsr:=aS st s;rw[hs] at hsr;simp only[Rep] at hsr;obtain⟨L,hL,_,ad0,cap0,hsv,hcur⟩:=hsr;obtain⟨blk,cap,ht,k1,k2,k3⟩:=st.rel.toks id _ _ _ _ _ hid rfl;rw[hL] at ht;cases ht;obtain⟨ha0,hc0⟩:=hcur rfl;simp only at hc0;rw[ha0,hc0] at hsv;have hX:=qE hx hx2 (aS st x);simp only[RepP] at hX;obtain⟨ad,cx,hxv,_,hX⟩:=hX;have hne:ys≠[]:=by intro h0;rw[h0] at hpos;simp at hpos
 obtain⟨b,off,rfl,hr⟩:=hX.resolve_left hne;have hu:=nP he;obtain⟨i,zv,hi,hzv,hzc,hzl,_⟩:=bV hz;have hisz:i.size=sz:=by unfold szT at hsz;rw[hi] at hsz;simpa using hsz
 have hiby:i.bytes=by_:=by unfold byT at hby;rw[hi] at hby;simpa using hby
 have hyl:=hr.length;obtain⟨news,n1,n2,n3⟩:=hr.values;have hlY:(ys.flatten.map AV.p).length=ys.length*sz:=by rw[aZo,aV hyl]
 have hlE:(es.flatten.map AV.p).length=es.length*sz:=by rw[aZo,aV hes]
 have hadd:(es.length+ys.length)*sz=es.length*sz+ys.length*sz:=bB2 _ _ _;have hlA:((es++ys).flatten.map AV.p).length=(es.length+ys.length)*sz:=by rw[bB9,aZx,aZ4,hlE,hlY,hadd]
 have hk':(AO.vec sz (es++ys)).tk=some (es.length+ys.length,sz,0,(es++ys).flatten.map .p):=by simp[AO.tk]
 cases blk with
 |none=>
  have hc0:=k2 rfl;have he0:es=[]:=bAv aB;subst he0;subst hc0;have hrun:=run_append_nil (P:=P) w t o.type e i zv hu hi hzv ⟨b,off,none⟩ ys.length cx news (by rw[n1,hisz]) (fun j v hj=>by rw[bL];exact n2 j v hj) hpos (by simp at hb2;omega) (by rw[hiby];simp at hb;omega)
  have hzs:((Builtin.zeroCells zv.cells (grownCap w ys.length 0 e-ys.length)).toList).length=(grownCap w ys.length 0 e-ys.length)*sz:=by
   exact y4j
  have hle:=dN w ys.length 0 e
  have hq:List.toArray (news++(Builtin.zeroCells zv.cells (grownCap w ys.length 0 e-ys.length)).toList)=news.toArray++Builtin.zeroCells zv.cells (grownCap w ys.length 0 e-ys.length):=by
   apply bBa;simp
  rw[<-hq] at hrun
  obtain⟨g1,g2⟩:=st.rel.growG (w':=w.drew.alloc (.cells (List.toArray (news++(Builtin.zeroCells zv.cells (grownCap w ys.length 0 e-ys.length)).toList)) e (0,0))) (b:=w.heap.size) (c':=grownCap w ys.length 0 e) (vs:=news++(Builtin.zeroCells zv.cells (grownCap w ys.length 0 e-ys.length)).toList)
   (o':= .vec sz ([]++ys)) (m:=ys.length) hid rfl hk' (aYw _) (.inl hpos) (.inr (aYw _)) ⟨e,eC (w:=w.drew) _⟩
   (by rw[aZ4,n1,hzs,<-bB2];congr 1;omega) (by simpa using hle) (fun b' _ hb'=>dE (w:=w.drew) _ hb') (fun off ho=>by have:=st.rel.lt _ _ ho;omega) (by rw[dB];show w.heap.size<=w.heap.size+1;omega) ⟨rfl,rfl⟩
   (fun E' hx' _=>by
    refine y2i ?_;exact n3.ext hx')
  refine⟨_,_,_,_, .slice (some ⟨w.heap.size,0,none⟩) ys.length (grownCap w ys.length 0 e),⟨rfl,rfl⟩,?_,g1,pF st.fresh hlt,?_,g2⟩
  ·exact y5h
  ·exact y69
 |some g=>
  obtain⟨cur,hrow,hcl,hcr⟩:=k3 g rfl;have hnro:∀off,¬E.ro g off:=fun off=>st.rel.sepT id _ _ _ _ _ g _ _ off hid rfl hL aB
  have hlec:es.length*sz<=cap*sz:=bAj _ k1;rw[hlE] at hcr
  by_cases hroom:es.length+ys.length<=cap
  ·have hmulle:(es.length+ys.length)*sz<=cap*sz:=bAj _ hroom
   obtain⟨w',hrun,hrow',hsame,hsize,hos,hout⟩:=jQ (P:=P) (ty:=o.type) hu hi hrow (a:=⟨b,off,none⟩) (m:=ys.length) (c:=cx) (news:=news) (n:=es.length) (cap:=cap) (by rw[n1,hisz]) (fun j v hj=>by rw[bL];exact n2 j v hj)
    (RepL.one_p n3) hroom (by rw[hisz];omega)
   rw[hisz] at hrow'
   obtain⟨g1,g2⟩:=st.rel.growG (w':=w') (b:=g) (c':=cap) (vs:=patch cur (es.length*sz) news) (o':= .vec sz (es++ys)) (m:=ys.length) hid rfl hk' (aYw _) (.inl hpos) (.inl ⟨_,hL,rfl⟩) hrow'
    (by rw[lB];exact hcl) hroom (fun b' hne _=>hsame b' hne) (fun off ho=>absurd ho (hnro off)) aB ⟨hos,hout⟩
    (fun E' hx' _=>by
     rw[hlA]
     have e1:patch cur (es.length*sz) news=cur.take (es.length*sz)++patch (cur.drop (es.length*sz)) 0 news:=by
      exact y6d
     have e2:patch (cur.drop (es.length*sz)) 0 news=news++(cur.drop (es.length*sz)).drop (ys.length*sz):=by
      have hh:=dV news ((cur.drop (es.length*sz)).take (ys.length*sz)) ((cur.drop (es.length*sz)).drop (ys.length*sz)) (by rw[aZm,bA0];omega)
      rwa [bA4] at hh
     refine y1i ?_;exact aGy (hcr.ext hx') (n3.ext hx'))
   refine⟨_,_,_,w', .slice (some ⟨g,0,none⟩) (es.length+ys.length) cap,⟨rfl,rfl⟩,?_,g1,pF st.fresh hlt,?_,g2⟩
   ·exact y5h
   ·exact y7n
  ·have hol:(cur.take (es.length*sz)).length=es.length*sz:=by rw[aZm];omega
   have holds:∀j v,(cur.take (es.length*sz))[j]?=some v->w.cell? ((⟨g,0,none⟩:Addr).add j)=some v:=by
    intro j v hj;rw[bL,aZv,hrow.cell];exact y4u
   have hrun:=run_append_grow (P:=P) w t o.type e i zv hu hi hzv ⟨g,0,none⟩ es.length cap (cur.take (es.length*sz)) (by rw[hol,hisz]) holds ⟨b,off,none⟩ ys.length cx news (by rw[n1,hisz])
    (fun j v hj=>by rw[bL];exact n2 j v hj) aB aB (growslice_fits aB (by rw[hiby];exact hb))
   have hzs:((Builtin.zeroCells zv.cells (grownCap w (es.length+ys.length) cap e-(es.length+ys.length))).toList).length=(grownCap w (es.length+ys.length) cap e-(es.length+ys.length))*sz:=by
    exact y4j
   have hle:=dN w (es.length+ys.length) cap e
   have hq:List.toArray (cur.take (es.length*sz)++news++(Builtin.zeroCells zv.cells (grownCap w (es.length+ys.length) cap e-(es.length+ys.length))).toList)=
     (cur.take (es.length*sz)).toArray++news.toArray++Builtin.zeroCells zv.cells (grownCap w (es.length+ys.length) cap e-(es.length+ys.length)):=by
    apply bBa;simp
   rw[<-hq] at hrun
   obtain⟨g1,g2⟩:=st.rel.growG (w':=w.drew.alloc (.cells (List.toArray (cur.take (es.length*sz)++news++(Builtin.zeroCells zv.cells (grownCap w (es.length+ys.length) cap e-(es.length+ys.length))).toList)) e (0,0))) (b:=w.heap.size) (c':=grownCap w (es.length+ys.length) cap e)
    (o':= .vec sz (es++ys)) (m:=ys.length) hid rfl hk' (aYw _) (.inl hpos) (.inr (aYw _)) ⟨e,eC (w:=w.drew) _⟩
    (by rw[aZ4,aZ4,hol,n1,hzs,<-hadd,<-bB2];congr 1;omega) hle (fun b' _ hb'=>dE (w:=w.drew) _ hb') (fun off ho=>by have:=st.rel.lt _ _ ho;omega) (by rw[dB];show w.heap.size<=w.heap.size+1;omega) ⟨rfl,rfl⟩
    (fun E' hx' _=>by
     have hl1:(cur.take (es.length*sz)++news).length=(es.length+ys.length)*sz:=by rw[aZ4,hol];omega
     have hh:=aGy (hcr.ext hx') (n3.ext hx');generalize cur.take (es.length*sz)++news=q at hh hl1;rw[hlA,<-hl1,aZw (aYw _),aZ6 (aYw _)];exact hh)
   refine⟨_,_,_,_, .slice (some ⟨w.heap.size,0,none⟩) (es.length+ys.length) (grownCap w (es.length+ys.length) cap e),⟨rfl,rfl⟩,?_,g1,pF st.fresh hlt,?_,g2⟩
   ·exact y5h
   ·exact y6i
theorem Run.freezeV (slot:Nat) {id n sz:Nat} {es:List (List PV)} (hs:nO T slot= .vec id n)(hat:h.at id=some (.vec sz es))(hes:∀e∈es,e.length=sz)(hn:es.length=n)
  (r:Run P rd nb k (T.set slot (.p (.sl sz es))) (h.set id none) D Q):Run P rd nb k T h D Q:=by
 intro E w a s;have hv:=s.tmps.get slot;rw[<-fD,hs] at hv;simp only[Rep] at hv;obtain⟨L,hL,_,ad,cap0,hv,hcur⟩:=hv;obtain⟨blk,cap,ht,k1,k2,k3⟩:=s.rel.toks id _ _ _ _ _ hat rfl;rw[hL] at ht;cases ht;subst hn;obtain⟨ha0,hc0⟩:=hcur rfl;simp only at hc0;rw[ha0,hc0] at hv
 have hset:∀ {E':Env} {x:AV},RepL E' w T a.tmps.toList->Rep E' w x (a.tmps.toList.getD slot undef)->RepL E' w (T.set slot x) a.tmps.toList:=by
  intro E' x hT hx;have hset:=hT.set hx slot
  have hsame:(a.tmps.toList).set slot (a.tmps.toList.getD slot undef)=a.tmps.toList:=by
   apply bAi;intro j;refine y2b ?_;split
   ·rename_i e;subst e;rcases bAh slot a.tmps.size with l|l
    ·simp[l]
    ·have l':¬slot<a.tmps.size:=aB;simp[l']
   ·rfl
  rwa [hsame] at hset
 cases blk with
 |none=>
  have hc0:=k2 rfl;have he0:es=[]:=bAv aB;subst he0;obtain⟨f1,f2⟩:=s.rel.forget (id:=id);have s':=s.move f2 f1 (fun i hi=>s.fresh i (by simpa using hi))
  have hx:Rep E w (.p (.sl sz [])) (.slice none 0 cap):=by
   simp only[Rep,RepP];exact⟨_,cap,rfl,k1, .inl trivial⟩
  exact y6z
 |some b=>
  obtain⟨vals,hrow,hcl,hcr⟩:=k3 b rfl;obtain⟨f1,f2⟩:=s.rel.freezeG (b:=b) hat (.inr ⟨_,_,_,_,hat,rfl,hL⟩);have s':=s.move f2 f1 (fun i hi=>s.fresh i (by simpa using hi));have hel:(es.flatten.map AV.p).length=es.length*sz:=by rw[aZo,aV hes]
  have hx:Rep {E with ro:=fun b' off=>E.ro b' off\/b'=b} w (.p (.sl sz es)) (.slice (some ⟨b,0,none⟩) es.length cap):=by
   simp only[Rep,RepP];refine⟨_,cap,rfl,k1, .inr ⟨b,0,rfl,?_⟩⟩;rw[hel] at hcr;refine RepEs.of_row (vs:=vals.take (es.length*sz)) hes (fun j v hj=>⟨.inr rfl,?_⟩) (hcr.ext f2.ext);rw[hrow.cell,aZv];exact y4u
  exact y6z
end
section
open Go.Shelf Go.Sort Go.Proofs
end
end Go.AI
namespace Go.Proofs.YtcfcolkbeelegaaGreat
open Go Go.AI
def yX (c:Int)(vs:List (Int×Int))(j:Nat):Bool:=match vs[j]? with|some v=>!decide (c<=v.2)|none=>true
def gO (c:Int)(vs:List (Int×Int)):Bool:=!bB (yX c vs) vs.length
theorem aPa (h:Heap)(hh:WF h)(q:Nat)(c x y:Int)(vs0:List (Int×Int))(hq:h[q]?=some (some (.cells [iA c, .p (.sl 2 (bN vs0))]))):
  AC 194 [.agg [iA x,iA y], .ptr q 0] h (bA (decide (c<=y))):=by
 have hql:=(aYv.1 hq).1;have hq':∀l:List (Option AO),(h++l)[q]?=some (some (.cells [iA c, .p (.sl 2 (bN vs0))])):=fun l=>by rw[aZ8 hql];exact hq
 refine zE Tryz.func194 Tryz.ntmps194 ?_;refine aFx hq' ?_;refine zx ?_;exact y2s
theorem aL5 (h:Heap)(hh:WF h)(q:Nat)(c:Int)(vs0 vs:List (Int×Int))(hb:vs.length<=1048576)(hq:h[q]?=some (some (.cells [iA c, .p (.sl 2 (bN vs0))]))):
  ACalls Tryz.prog 223 [.p (.sl 2 (bN vs)), .fn (.func 194) [] [.ptr q 0]] h fun o h'=>∃r:Int,o= .ret (iA r)/\h'=h/\decide (0<=r)=gO c vs:=by
 refine cW Tryz.func223 Tryz.ntmps223 ?_;refine Run.loopS [0,1,7] (fun j:Nat=>j<=vs.length/\bB (yX c vs) j=true) (fun j=>vs.length-j) (fun j=>[(8,iA j)]) (fun _=>_) 0 (by simp[bB]) ?_ rfl ?_
 ·exact zS
 ·rintro j ⟨hj,hall⟩ IH;refine cI ?_
  by_cases hjl:j<vs.length
  ·have hg:vs[j]?=some vs[j]:=aYu hjl;obtain⟨⟨x,y⟩,hxy⟩:∃p,vs[j]=p:=⟨_,rfl⟩;rw[hxy] at hg;refine qL hjl hg ?_;refine zL (aPa h hh q c x y vs0 hq) ?_;refine zo ?_
   by_cases h1:c<=y
   ·refine dF h1 ?_;refine zA ?_;have:=aU (p:=yX c vs) hjl (by simp only[yX,hg];simp[h1]);refine zF3 hh ?_;exact⟨j,rfl,rfl,by simp[gO,this]⟩
   ·refine dJ h1 ?_;refine IH (j+1) _ _ ⟨by omega,by rw[bK,hall];simp only[yX,hg];simp[h1]⟩ aB ?_ rfl;exact zS
  ·have hje:j=vs.length:=aB;subst hje;refine dP ?_;refine zA ?_;refine zF3 hh ?_;exact⟨-1,rfl,rfl,by simp[gO,hall]⟩
theorem sX (h:Heap)(hh:WF h)(q:Nat)(c:Int)(vs0 vs:List (Int×Int))(hb:vs.length<=1048576)(hq:h[q]?=some (some (.cells [iA c, .p (.sl 2 (bN vs0))]))):
  AC 193 [.p (.sl 2 (bN vs)), .fn (.func 194) [] [.ptr q 0]] h (bA (gO c vs)):=by
 refine cW Tryz.func193 Tryz.ntmps193 ?_;refine Run.call rfl rfl aA rfl (aL5 h hh q c vs0 vs hb hq) ?_ ?_
 ·rintro v h' ⟨r,hv,rfl,hr⟩;exact y3j
 ·rintro v h' ⟨r,hv,_⟩;cases hv
theorem sY (h:Heap)(hh:WF h)(c:Int)(vs:List (Int×Int))(hb:vs.length<=1048576):
  AC 160 [.agg [iA c, .p (.sl 2 (bN vs))]] h (bA (gO c vs)):=by
 have hc:=sX (h++[some (.cells [iA c, .p (.sl 2 (bN vs))])]) (hh.app aA) h.length c vs vs hb aA;refine cW Tryz.func160 Tryz.ntmps160 ?_;refine zL (hc) ?_;refine zox ?_;exact y2s
theorem aFm (c:Int)(vs:List (Int×Int)):aY ⟨c,vs⟩=(!(decide (c<0)||(decide (100<c)||(decide (0<c)&& gO c vs)))&& bB (iN (-1) vs) vs.length):=by
 unfold aY gO
 by_cases h1:c<0
 ·simp[h1]
 ·by_cases h2:100<c
  ·simp[h1,h2]
  ·by_cases h3:0<c
   ·simp only[h1,h2,h3,decide_false,decide_true,Bool.or_self,bB7,Bool.true_and,bB5,Bool.not_not];rw[aZs,aZ7,cJ,cJ,cJ];constructor
    ·intro h;refine⟨fun j hj=>?_,fun j hj=>?_⟩
     ·have:=h j hj;rw[iN,aYu hj] at this;simp only[yX,aYu hj];simp at this⊢;omega
     ·have:=h j hj;rw[iN,aYu hj] at this⊢;simp at this⊢;exact⟨this.1.1,this.1.2⟩
    ·rintro⟨ha,hb⟩ j hj;have h4:=ha j hj;have h5:=hb j hj;rw[iN,aYu hj] at h5⊢;simp only[yX,aYu hj] at h4;simp at h4 h5⊢;exact⟨⟨h5.1,h5.2⟩, .inr aB⟩
   ·have e:iN c vs=iN (-1) vs:=by
     funext j
     unfold iN
     cases vs[j]? with
     |none=>rfl
     |some v=>simp[h3]
    simp[h1,h2,h3,e]
theorem qH (h:Heap)(hh:WF h)(l:Lv)(hb:l.vars.length<=1048576):AC 107 [l.av] h (bA (aY l)):=by
 obtain⟨c,vs⟩:=l;simp only at hb;refine y12 ?_;have hcv:=sY (h++[some (.cells [iA c, .p (.sl 2 (bN vs))])]) (hh.app aA) c vs hb;rw[aFm];generalize gO c vs=cv at hcv;obtain⟨r,hr⟩:∃r,r=(!(decide (c<0)||(decide (100<c)||(decide (0<c)&& cv)))&& bB (iN (-1) vs) vs.length):=⟨_,rfl⟩;rw[<-hr];have hcase:(decide (c<0)||(decide (100<c)||(decide (0<c)&& cv)))=true\/(decide (c<0)||(decide (100<c)||(decide (0<c)&& cv)))=false:=by cases (decide (c<0)||(decide (100<c)||(decide (0<c)&& cv)))<;>simp
 refine zER Tryz.func107 Tryz.ntmps107 ?_;refine Run.joinA [0,1] [(21,bA (decide (c<0)||(decide (100<c)||(decide (0<c)&& cv))))] (fun hJ=>?_) ?_
 ·by_cases c1:c<0
  ·refine aK6 c1 ?_
   repeat (first|refine Run.skip ?_|refine Run.opsNil ?_|refine Run.inBlock ?_)
   refine hJ _ ?_;simp[c1];exact zK
  ·by_cases c2:100<c
   ·refine zn ?_;refine zq2 c1 c2 ?_
    repeat (first|refine Run.skip ?_|refine Run.opsNil ?_|refine Run.inBlock ?_)
    refine hJ _ ?_;simp[c1,c2];exact zK
   ·by_cases c3:0<c
    ·refine zn ?_;refine zq3 c1 c2 c3 ?_
     repeat (first|refine Run.skip ?_|refine Run.opsNil ?_|refine Run.inBlock ?_)
     refine zL (hcv) ?_;refine Run.ops fun K J=>?_
     simp;refine zi ?_;clear J;exact y7u
    ·refine zn ?_;refine zq3 c1 c2 c3 ?_;exact y7u
 refine y7 ?_;simp;rcases hcase with hc|hc
 ·rw[hc];refine zA ?_;refine zF2 hh ?_;exact⟨by rw[hr,hc];rfl,rfl⟩
 rw[hc];rw[hc] at hr;refine aAc ?_;refine Run.loopS [1,23,24] (fun j:Nat=>j<=vs.length/\bB (iN (-1) vs) j=true) (fun j=>vs.length-j) (fun j=>[(25,iA j)]) (fun _=>_) 0 (by simp[bB]) ?_ rfl ?_
 ·exact zS
 rintro j ⟨hj,hall⟩ IH;refine cI ?_
 by_cases hjl:j<vs.length
 ·have hg:vs[j]?=some vs[j]:=aYu hjl;obtain⟨⟨x,y⟩,hxy⟩:∃p,vs[j]=p:=⟨_,rfl⟩;rw[hxy] at hg;refine jO hjl hg ?_;obtain⟨b2,hb2⟩:∃b,b=(decide (0<j)&& (match vs[j-1]? with|some u=>decide (x<=u.1)|none=>false)):=⟨_,rfl⟩
  have hvk:iN (-1) vs j=!(decide (x< -65536)||(decide (7<x)||(decide (y<0)||(decide (100<y)||b2)))):=by
   have x2e:decide (8<=x)=decide (7<x):=by rw[decide_eq_decide];omega
   rw[hb2];simp only[iN,hg,x2e]
   cases vs[j-1]?<;>simp[Bool.and_assoc]
  have hjj:(∃u,0<j/\vs[j-1]?=some u)\/j=0:=by
   exact y79
  refine Run.joinA [1,23,24,25] [(63,bA (decide (x< -65536)||(decide (7<x)||(decide (y<0)||(decide (100<y)||b2)))))] (fun hJ=>?_) ?_
  ·refine nv ?_;refine Run.drawPlain [0,0,0,0,0,0,0,0,0,0,0,0,0,0,0,0,0,0,0,0,0,0,0,0,0,0,0,0,0,0,0,0,0,0] [0,0,0,0,0,0,0,0,0,0,0,0,0,0,0,0,0,0,0,0,0,0,0,0,0,0,0,0,0,0,0,0,0,0] [0,1,3,7,15,31,63,127,255,511,1023,2047,4095,8191,16383,32767,65535,131071,262143,524287,1048575,2097151,4194303,8388607,4194303,20971519,67108863,134217727,268435455,4194303,541065215,2147483647,4294967295,8589934591] aC aC rfl (fun K J=>?_)
   by_cases x1:x< -65536
   ·simp (maxSteps:=1000000) [x1];refine J _ (hJ _ ?_);simp[x1];exact zK
   by_cases x2:7<x
   ·simp (maxSteps:=1000000) [x1,x2];refine J _ (hJ _ ?_);simp[x1,x2];exact zK
   by_cases x3:y<0
   ·simp (maxSteps:=1000000) [x1,x2,x3];refine J _ (hJ _ ?_);simp[x1,x2,x3];exact zK
   by_cases x4:100<y
   ·exact y8v
   rcases hjj with ⟨u,hj0,hu⟩|hj0
   ·have hw:IntKind.i64.wrap ((j:Int)-1)=(j:Int)-1:=aQ aB aB;have hn:¬((j:Int)-1<0):=aB;have ht:((j:Int)-1).toNat=j-1:=aB;have hb3:b2=decide (x<=u.1):=by rw[hb2,hu];simp[hj0]
    rw[hb3] at hJ;clear hb3 hb2 hvk;simp (maxSteps:=1000000) [hw,hn,ht,hu,hj0,x1,x2,x3,x4];refine J _ (hJ _ ?_);simp[x1,x2,x3,x4];exact zK
   ·subst hj0;have hb3:b2=false:=by rw[hb2];simp
    rw[hb3] at hJ;exact y8v
  refine y7 ?_;simp;refine Run.condB rfl (fun h2=>?_) (fun h2=>?_)
  ·refine zA ?_;refine Fin.ret' (h0:=h) aA rfl hh rfl rfl rfl (Weak.refl _) rfl ⟨?_,rfl⟩;rw[hr,aU hjl (by rw[hvk,h2];rfl)];simp
  ·refine znr ?_;refine y15 ?_;refine IH (j+1) _ _ ⟨by omega,?_⟩ aB ?_ ?_
   ·rw[bK,hall,hvk,h2];rfl
   ·exact zS
   ·simp
 ·have hje:j=vs.length:=aB;subst hje;refine dP ?_;refine zA ?_;refine Fin.ret' (h0:=h) aA rfl hh rfl rfl rfl (Weak.refl _) rfl ⟨by rw[hr,hall];rfl,rfl⟩
end Go.Proofs.YtcfcolkbeelegaaGreat
