import Derived.Test.YtplomildbmcmfaaGreatZA0
import Derived.Test.YtplomildbmcmfaaGreatZEVc
namespace Go.AI.EV
open Go Go.AI
theorem uD {E:Env} {h:Heap} {w:World} (r:Rel E h.at w) {id:Nat} {o:AO} (hid:h.at id=some o):Rel E (Heap.at (h.set id none)) w/\Fr E h.at w E (Heap.at (h.set id none)) w:=by
 have hlt:=bD hid;have hold:∀id',id'≠id->Heap.at (h.set id none) id'=h.at id':=fun id' hne=>by rw[fK _ _ _ _ hlt,if_neg hne]
 have hnew:Heap.at (h.set id none) id=none:=by rw[fK _ _ _ _ hlt,if_pos rfl]
 have hne:∀id' o,Heap.at (h.set id none) id'=some o->id'≠id:=fun id' o e e'=>by subst e';rw[hnew] at e;cases e
 have hO:∀id' b',fG E (Heap.at (h.set id none)) id' b'->fG E h.at id' b':=by
  intro id' b' ho;rcases ho with ⟨c,h1,h3,h2⟩|⟨c,x,c',m,h1,hk,h2⟩
  ·have e:=hne _ _ h1;rw[hold id' e] at h1;exact .inl ⟨c,h1,h3,h2⟩
  ·have e:=hne _ _ h1;rw[hold id' e] at h1;exact .inr ⟨c,x,c',m,h1,hk,h2⟩
 refine⟨⟨fun id' c hc hm=>?_,fun id' c n sz k cs hc hk=>?_,fun i i' b' h1 h2=>r.inj i i' b' (hO _ _ h1) (hO _ _ h2),fun id' c b' off hc hm hg' hb=>?_,fun id' c n sz k cs b' c' m off hc hk hg' hl hb=>?_,r.lt⟩,⟨fun _ _ _=>rfl,Ext.refl _ _,fun b off hb=> .inl hb,bLx _,fun b' ⟨i,ho⟩=> .inl ⟨i,hO _ _ ho⟩,Kp.refl w⟩⟩
 ·have e:=hne _ _ hc;rw[hold id' e] at hc;exact r.objsO id' c hc hm
 ·have e:=hne _ _ hc;rw[hold id' e] at hc;exact r.toks id' c n sz k cs hc hk
 ·have e:=hne _ _ hc;rw[hold id' e] at hc;exact r.sepO id' c b' off hc hm hg' hb
 ·have e:=hne _ _ hc;rw[hold id' e] at hc;exact r.sepT id' c n sz k cs b' c' m off hc hk hg' hl hb
theorem aHs {E:Env} {h:Heap} {w:World} (r:Rel E h.at w)(hf:Fresh E h.length) {id b:Nat} {cs:List AV} (hat:h.at id=some (.cells cs))(hgb:E.g id=some b):
  let E':Env:= {E with g:=fun i=>if i=h.length then some b else E.g i}
  let h':Heap:=h.set id none++[some (.cells cs)]
  Rel E' h'.at w/\Fr E h.at w E' h'.at w/\Fresh E' (h.length+1)/\E'.g h.length=some b:=by
 intro E' h';have hlt:=bD hat
 have hx:Ext E w E' w:=⟨fun _ _ h=>h,fun _ _ _=>rfl,fun i b' e=>by
   show(if i=h.length then some b else E.g i)=some b';rw[if_neg (fun he=>by rw[he,(hf _ (bLx _)).1] at e;cases e)];exact e,fun _ L h=>⟨L,h,bLx _,fun _=>rfl⟩⟩
 have hnew:h'.at h.length=some (.cells cs):=by
  have:=cM (h.set id none) (some (.cells cs)) h.length;rw[bNu,if_pos rfl] at this;exact this
 have hold:∀i o,i≠h.length->h'.at i=some o->h.at i=some o/\i≠id:=by
  intro i o hne e;have:=cM (h.set id none) (some (.cells cs)) i;exact y3t
 have hg':∀i,i≠h.length->E'.g i=E.g i:=fun i hne=>if_neg hne
 have hgn:E'.g h.length=some b:=if_pos rfl
 have hO:∀i b',fG E' h'.at i b'->(i=h.length/\b'=b)\/(i≠h.length/\i≠id/\fG E h.at i b'):=by
  intro i b' ho;exact y31
 have hown:fG E h.at id b:= .inl ⟨_,hat,rfl,hgb⟩;refine⟨⟨fun i o hc hn=>?_,fun i o n s k cs hc hk=>?_,fun i i' b' h1 h2=>?_,fun i o b' off hc hn hg hb=>?_,fun i o n s k cs b' c m off hc hk hg hl hb=>?_,r.lt⟩,⟨fun _ _ _=>rfl,hx,fun _ _ h=> .inl h,bLx _,fun b' ⟨i,ho⟩=>?_,Kp.refl w⟩,fun i hi=>?_,hgn⟩
 ·by_cases e:i=h.length
  ·subst e;rw[hnew] at hc;cases hc;obtain⟨b2,hg2,ho⟩:=r.objsO id _ hat rfl;rw[hgb] at hg2;cases hg2;exact⟨b,hgn,ho.move hx rfl⟩
  ·exact y66
 ·exact y3p
 ·exact y45
 ·by_cases e:i=h.length
  ·subst e;rw[hgn] at hg;cases hg;exact r.sepO id _ b off hat rfl hgb hb
  ·exact y7p
 ·exact y5a
 ·exact y6y
 ·exact y6s
def Src (E:Env)(w:World)(v:Value)(m sz:Nat)(us:List AV):Prop:=
 ∃a cx news,v= .slice (some a) m cx/\news.length=m*sz/\(∀j u,news[j]?=some u->w.cell? (a.add j)=some u)/\RepL E w us news/\∀u∈news,u.oneCell'=true
theorem bDu {E:Env} {w:World} {x:AV} {ys:List (List PV)} {sz:Nat} {v:Value} (h1:sI x=some ys)(h2:srcSz sz x=true)(hx:Rep E w x v)(hpos:0<ys.length):Src E w v ys.length sz (ys.flatten.map .p):=by
 have hX:=iR h1 h2 hx;simp only[RepP] at hX;obtain⟨ad,cx,hxv,_,hX⟩:=hX;have hne:ys≠[]:=by intro h0;rw[h0] at hpos;simp at hpos
 obtain⟨b,off,rfl,hr⟩:=hX.resolve_left hne;have hyl:=hr.length;have hfl:=flat_length hyl;obtain⟨news,n1,n2,n3⟩:=RepAt.values hr.flat;exact⟨⟨b,off,none⟩,cx,news,hxv,by rw[n1,hfl],fun j u hj=>by rw[addr_add];exact n2 j u hj,n3,RepL.one_p n3⟩
theorem bDv {E:Env} {w:World} {h:Heap} {id off len cap sz:Nat} {cs:List AV} {v:Value} (r:Rel E h.at w)(hat:h.at id=some (.cells cs))(hx:Rep E w (.sm id off len cap sz) v)(hl:off+len*sz<=cs.length)
  (h1:((cs.drop off).take (len*sz)).all lI=true):Src E w v len sz ((cs.drop off).take (len*sz)):=by
 simp only[Rep] at hx;obtain⟨b,hg,rfl⟩:=hx;obtain⟨b',vs,hg',hrow,hreps⟩:=r.objs id cs hat;rw[hg] at hg';cases hg';have hvl:=hreps.length;have hr:=(hreps.drop off).take (len*sz);refine⟨⟨b,off,none⟩,cap,(vs.drop off).take (len*sz),rfl,by simp;omega,fun j u hj=>?_,hr,RepL.one_all h1 hr⟩;rw[addr_add,hrow.cell];exact y5d
theorem aF2 {E:Env} {h:Heap} {w:World} {us:List AV} {vals zs:List Value} {e:TypeId} (r:Rel E h.at w)(hf:Fresh E h.length)(hv:RepL E w us vals):
  ∃E',Rel E' (Heap.at (h++[some (.cells (us++List.replicate zs.length .junk))])) (w.drew.alloc (.cells (List.toArray (vals++zs)) e (0,0)))/\Fresh E' (h.length+1)/\
   Fr E h.at w E' (Heap.at (h++[some (.cells (us++List.replicate zs.length .junk))])) (w.drew.alloc (.cells (List.toArray (vals++zs)) e (0,0)))/\E'.g h.length=some w.heap.size:=by
 have hb:RepL E w.drew (us++List.replicate zs.length .junk) (vals++zs):=by
  refine RepL.append (RepL.ext (E:=E) (w:=w) (E':=E) (w':=w.drew) ⟨fun _ _ h=>h,fun _ _ _=>rfl,fun _ _ h=>h,fun _ L h=>⟨L,h,bLx _,fun _=>rfl⟩⟩ hv) ?_;exact RepL.junks zs
 exact y61
section
variable {P:Program} {T:List AV} {h:Heap} {D:List AD} {o:Oper} {E:Env} {w:World} {a:Act} {s x:Operand} {t e:TypeId} {sz by_ m:Nat} {z:List Value} {us:List AV}
def Out (P:Program)(o:Oper)(E:Env)(w:World)(a:Act)(h:Heap)(x:AV)(h':Heap):Prop:=
 ∃E' w' v,(execOp a.eval o).run P w= .ok (.value v) w'/\Rel E' (Heap.at h') w'/\Fresh E' h'.length/\Rep E' w' x v/\Fr E (Heap.at h) w E' (Heap.at h') w'
theorem aUb (st:St E w a T h D)(ho:o.op= .call ⟨.builtin .append,#[s,x],#[t,t]⟩)(he:elT P t=some e)(hsz:szT P e=some sz)(hby:byT P e=some by_)(hz:aS P e=some z)
  (hs:aev T s= .p (.prim (.slice none 0 0))) (src:Src E w (a.eval x) m sz us) (hm:0<m) (hb:m*by_<=140737488355328) (hb2:m<=9223372036854775807):
  ∃c',m<=c'/\Out P o E w a h (.sm h.length 0 m c' sz) (h++[some (.cells (us++List.replicate (c'*sz-us.length) .junk))]):=by
 obtain⟨ad,cx,news,hxv,n1,n2,n3,n4⟩:=src;have hsr:=aev_rep st s;rw[hs] at hsr;simp only[Rep,RepP] at hsr;have hu:=eZ he;obtain⟨i,zv,hi,hzv,hzc,hzl,_⟩:=aN hz;have hisz:i.size=sz:=by unfold szT at hsz;rw[hi] at hsz;simpa using hsz
 have hiby:i.bytes=by_:=by unfold byT at hby;rw[hi] at hby;simpa using hby
 have hrun:=run_append_nil (P:=P) w t o.type e i zv hu hi hzv ad m cx news (by rw[n1,hisz]) n2 hm aB (by rw[hiby];omega);have hul:=n3.length
 have hzs:((Builtin.zeroCells zv.cells (grownCap w m 0 e-m)).toList).length=grownCap w m 0 e*sz-us.length:=by
  rw[bOl,size_zeroCells,hzc,<-hul,n1,<-Nat.sub_mul];simp[hzl,hisz]
 obtain⟨E',g1,g2,g3,g4⟩:=aF2 (h:=h) (e:=e) (zs:=(Builtin.zeroCells zv.cells (grownCap w m 0 e-m)).toList) st.rel st.fresh n3;rw[hzs] at g1 g3;refine⟨grownCap w m 0 e,le_grownCap w _ 0 e,E',_, .slice (some ⟨w.heap.size,0,none⟩) m (grownCap w m 0 e),?_,g1,by simpa using g2,?_,g3⟩
 ·have hq:List.toArray (news++(Builtin.zeroCells zv.cells (grownCap w m 0 e-m)).toList)=news.toArray++Builtin.zeroCells zv.cells (grownCap w m 0 e-m):=by
   exact y5z
  rw[hq];exact exec_append ho (by rw[hsr.1,hxv];exact hrun)
 ·exact y7n
theorem aDr (st:St E w a T h D)(ho:o.op= .call ⟨.builtin .append,#[s,x],#[t,t]⟩)(he:elT P t=some e)(hsz:szT P e=some sz)(hz:aS P e=some z) {id n cap:Nat} {cs:List AV}
  (hs:aev T s= .sm id 0 n cap sz) (hid:h.at id=some (.cells cs)) (src:Src E w (a.eval x) m sz us) (hfit:n*sz+us.length<=cs.length) (hroom:n+m<=cap):
  Out P o E w a h (.sm id 0 (n+m) cap sz) (h.set id (some (.cells (patch cs (n*sz) us)))):=by
 obtain⟨ad,cx,news,hxv,n1,n2,n3,n4⟩:=src;have hsr:=aev_rep st s;rw[hs] at hsr;simp only[Rep] at hsr;obtain⟨g,hg,hsv⟩:=hsr;have hu:=eZ he;obtain⟨i,zv,hi,hzv,hzc,hzl,_⟩:=aN hz;have hisz:i.size=sz:=by unfold szT at hsz;rw[hi] at hsz;simpa using hsz
 obtain⟨g',cur,hg',hrow,hreps⟩:=st.rel.objs id _ hid;rw[hg] at hg';cases hg';have hcl:=hreps.length;have hul:=n3.length;obtain⟨w',hrun,hrow',hsame,hsize,hos,hout⟩:=append_room (P:=P) (ty:=o.type) hu hi hrow (a:=ad) (m:=m) (c:=cx) (news:=news) (n:=n) (cap:=cap) (by rw[n1,hisz]) n2 n4 hroom (by rw[hisz];omega);rw[hisz] at hrow';have hnew:RepL E w (patch cs (n*sz) us) (patch cur (n*sz) news):=RepL.patch (n*sz) n3 hreps;obtain⟨g1,g2⟩:=st.rel.writeO hid rfl (o':= .cells (patch cs (n*sz) us)) rfl hg (fun hx=>⟨_,hrow',hnew.ext hx⟩) hsame hsize hos hout;refine⟨E,w', .slice (some ⟨g,0,none⟩) (n+m) cap,?_,g1,by simpa using st.fresh,?_,g2⟩
 ·exact y3i
 ·simp only[Rep];exact⟨g,hg,rfl⟩
theorem aDq (st:St E w a T h D)(ho:o.op= .call ⟨.builtin .append,#[s,x],#[t,t]⟩)(he:elT P t=some e)(hsz:szT P e=some sz)(hby:byT P e=some by_)(hz:aS P e=some z) {id off n cap:Nat} {cs:List AV}
  (hs:aev T s= .sm id off n cap sz) (hid:h.at id=some (.cells cs)) (hcs:off+n*sz<=cs.length) (src:Src E w (a.eval x) m sz us) (_hm:0<m) (hroom:cap<n+m) (hb:(n+m)*by_<=140737488355328) (hb2:n+m<=9223372036854775807) (_hcn:n<=cap):
  ∃c',n+m<=c'/\Out P o E w a h (.sm h.length 0 (n+m) c' sz) (h++[some (.cells ((cs.drop off).take (n*sz)++us++List.replicate (c'*sz-(n+m)*sz) .junk))]):=by
 obtain⟨ad,cx,news,hxv,n1,n2,n3,n4⟩:=src;have hsr:=aev_rep st s;rw[hs] at hsr;simp only[Rep] at hsr;obtain⟨g,hg,hsv⟩:=hsr;have hu:=eZ he;obtain⟨i,zv,hi,hzv,hzc,hzl,_⟩:=aN hz;have hisz:i.size=sz:=by unfold szT at hsz;rw[hi] at hsz;simpa using hsz
 have hiby:i.bytes=by_:=by unfold byT at hby;rw[hi] at hby;simpa using hby
 obtain⟨g',cur,hg',hrow,hreps⟩:=st.rel.objs id _ hid;rw[hg] at hg';cases hg';have hcl:=hreps.length;have hul:=n3.length
 have holds:∀j v,((cur.drop off).take (n*sz))[j]?=some v->w.cell? ((⟨g,off,none⟩:Addr).add j)=some v:=by
  intro j v hj;rw[addr_add,hrow.cell];exact y5d
 have hol:((cur.drop off).take (n*sz)).length=n*sz:=by rw[bMn,bN1];omega
 have horep:RepL E w ((cs.drop off).take (n*sz)) ((cur.drop off).take (n*sz)):=(hreps.drop off).take _
 have hrun:=run_append_grow (P:=P) w t o.type e i zv hu hi hzv ⟨g,off,none⟩ n cap ((cur.drop off).take (n*sz)) (by rw[hol,hisz]) holds ad m cx news (by rw[n1,hisz])
  n2 aB aB (growslice_fits aB (by rw[hiby];exact hb))
 have hzs:((Builtin.zeroCells zv.cells (grownCap w (n+m) cap e-(n+m))).toList).length=grownCap w (n+m) cap e*sz-(n+m)*sz:=by
  rw[bOl,size_zeroCells,hzc,<-Nat.sub_mul];simp[hzl,hisz]
 obtain⟨E',g1,g2,g3,g4⟩:=aF2 (h:=h) (e:=e) (zs:=(Builtin.zeroCells zv.cells (grownCap w (n+m) cap e-(n+m))).toList) st.rel st.fresh (horep.append n3);rw[hzs] at g1 g3;refine⟨grownCap w (n+m) cap e,le_grownCap w _ cap e,E',_, .slice (some ⟨w.heap.size,0,none⟩) (n+m) (grownCap w (n+m) cap e),?_,g1,by simpa using g2,?_,g3⟩
 ·have hq:List.toArray ((cur.drop off).take (n*sz)++news++(Builtin.zeroCells zv.cells (grownCap w (n+m) cap e-(n+m))).toList)=
    ((cur.drop off).take (n*sz)).toArray++news.toArray++Builtin.zeroCells zv.cells (grownCap w (n+m) cap e-(n+m)):=by
   exact y5z
  rw[hq];exact y3i
 ·exact y7n
theorem aPa (st:St E w a T h D)(ho:o.op= .call ⟨.builtin .append,#[s,x],#[t,t]⟩)(he:elT P t=some e)(hsz:szT P e=some sz)(hby:byT P e=some by_)(hz:aS P e=some z) {id n cap:Nat} {cs:List AV}
  (hs:aev T s= .sm id 0 n cap sz) (hid:h.at id=some (.cells cs)) (hcs:cs.length=cap*sz) (hcn:n<=cap) (src:Src E w (a.eval x) m sz us) (hm:0<m) (hb:(n+m)*by_<=140737488355328) (hb2:n+m<=9223372036854775807):
  ∃c',n+m<=c'/\Out P o E w a h (.sm h.length 0 (n+m) c' sz) (h.set id none++[some (.cells (cs.take (n*sz)++us++List.replicate (c'*sz-(n+m)*sz) .junk))]):=by
 have hnc:n*sz<=cap*sz:=bNk _ hcn
 by_cases hroom:n+m<=cap
 ·have hul:us.length=m*sz:=by
   obtain⟨_,_,news,_,n1,_,n3,_⟩:=src;rw[<-n3.length,n1]
  have hadd:(n+m)*sz=n*sz+m*sz:=bO3 _ _ _;have hle:(n+m)*sz<=cap*sz:=bNk _ hroom;obtain⟨E1,w1,v,hrun,r1,f1,x1,fr1⟩:=aDr st ho he hsz hz hs hid src aB hroom;simp only[Rep] at x1;obtain⟨b,hg,rfl⟩:=x1;have hlt:=bD hid;have hid1:Heap.at (h.set id (some (.cells (patch cs (n*sz) us)))) id=some (.cells (patch cs (n*sz) us)):=by rw[fK _ _ _ _ hlt,if_pos rfl]
  --the cells behind are forgotten
  obtain⟨b',vs,hg',hrow,hreps⟩:=r1.objs id _ hid1;rw[hg] at hg';cases hg';have hpl:(patch cs (n*sz) us).length=cap*sz:=by rw[patch_length,hcs]
  have hvl:=hreps.length
  have hpe:∀(us l:List AV) (off:Nat),off+us.length<=l.length->(patch l off us).take (off+us.length)=l.take off++us:=by
   intro us
   induction us with
   |nil=>intro l off _;simp[patch]
   |cons u us ih=>
    intro l off hl;simp only[bM2] at hl⊢;rw[patch,show off+(us.length+1)=off+1+us.length by omega,ih _ _ (by simp;omega),bNh,List.take_set_of_le (bLx _),List.getElem?_set];simp[show off<l.length by omega]
  have hrep2:RepL E1 w1 (cs.take (n*sz)++us++List.replicate (cap*sz-(n+m)*sz) .junk) vs:=by
   have h1:=hreps.take ((n+m)*sz)
   have h2:(patch cs (n*sz) us).take ((n+m)*sz)=cs.take (n*sz)++us:=by
    rw[hadd,<-hul];exact hpe us cs (n*sz) aB
   rw[h2] at h1;have h3:=h1.append (RepL.junks (E:=E1) (w:=w1) (vs.drop ((n+m)*sz)));rw[bN5] at h3;have h4:(vs.drop ((n+m)*sz)).length=cap*sz-(n+m)*sz:=by rw[bN1];omega
   rwa [h4] at h3
  obtain⟨r2,fr2⟩:=r1.writeO hid1 rfl (o':= .cells (cs.take (n*sz)++us++List.replicate (cap*sz-(n+m)*sz) .junk)) rfl hg (fun hx=>⟨_,hrow,hrep2.ext hx⟩) (fun _ _=>rfl) rfl rfl rfl;rw[List.set_set] at r2 fr2;have f1':Fresh E1 (h.set id (some (.cells (cs.take (n*sz)++us++List.replicate (cap*sz-(n+m)*sz) .junk)))).length:=by simpa using f1
  have hid2:Heap.at (h.set id (some (.cells (cs.take (n*sz)++us++List.replicate (cap*sz-(n+m)*sz) .junk)))) id=some (.cells (cs.take (n*sz)++us++List.replicate (cap*sz-(n+m)*sz) .junk)):=by rw[fK _ _ _ _ hlt,if_pos rfl]
  obtain⟨r3,fr3,f3,g3⟩:=aHs r2 f1' hid2 hg;simp only[List.set_set,bNu] at r3 fr3 f3 g3;refine⟨cap,hroom,_,w1, .slice (some ⟨b,0,none⟩) (n+m) cap,hrun,r3,by simpa using f3,?_,(fr1.trans fr2).trans fr3⟩;simp only[Rep];exact⟨b,g3,rfl⟩
 ·obtain⟨c',hc',E1,w1,v,hrun,r1,f1,x1,fr1⟩:=aDq st ho he hsz hby hz hs hid aB src hm aB hb hb2 hcn;have hlt:=bD hid
  have hid1:Heap.at (h++[some (.cells ((cs.drop 0).take (n*sz)++us++List.replicate (c'*sz-(n+m)*sz) .junk))]) id=some (.cells cs):=by
   rw[cM,if_neg aB];exact hid
  obtain⟨r2,fr2⟩:=uD r1 hid1;rw[bMq _ _ hlt] at r2 fr2;refine⟨c',hc',E1,w1,v,hrun,r2,by simpa using f1,x1,fr1.trans fr2⟩
end
open Go Go.AI
def bH4 (j:Nat):Fn->Bool
 | .yield i=>decide (i<j)
 |_=>true
def bH3 (j c:Nat):Bool:=c%2==0||decide (c/2/1048576<j)
mutual
def jok (j:Nat):AV->Bool
 | .p _=>true
 | .agg cs=>qL j cs
 | .tup cs=>qL j cs
 | .ptr _ _=>true
 | .sm _ _ _ cap _=>bH3 j cap
 | .own _ _ _=>true
 | .fn f xs ys=>bH4 j f&& qL j xs&& qL j ys
 | .ifc _ x=>jok j x
 | .mp _=>true
 | .vec _ _=>true
 | .junk=>true
def qL (j:Nat):List AV->Bool
 |[]=>true
 |x::l=>jok j x&& qL j l
end
def aC7 (j:Nat):XO->Bool
 | .cells cs=>qL j cs
 | .row _ i _ cs=>decide (i<j)&& qL j cs
 | .loop i _ _=>decide (i<j)
 |_=>true
def Agree (j:Nat)(ks ks':Ks):Prop:=∀i,i<j->ks' i=ks i
theorem Agree.refl (j:Nat)(ks:Ks):Agree j ks ks:=fun _ _=>rfl
theorem Agree.trans {j j':Nat} {a b c:Ks} (h:Agree j a b)(hj:j<=j')(k:Agree j' b c):Agree j a c:=fun i hi=>(k i (Nat.lt_of_lt_of_le hi hj)).trans (h i hi)
mutual
theorem pC {j:Nat} {ks ks':Ks} (ha:Agree j ks ks'):∀ {x:AV},jok j x=true->io ks' x=io ks x
 | .p _,_=>by simp
 | .agg cs,h=>by simp only[io,gO ha h]
 | .tup cs,h=>by simp only[io,gO ha h]
 | .ptr _ _,_=>by simp
 | .sm _ _ _ cap _,h=>by
  simp only[jok,bH3,bNe,beq_iff_eq,bMi] at h;simp only[io,qH];rcases h with h|h
  ·rw[if_pos h,if_pos h]
  ·rw[ha _ h]
 | .own _ _ _,_=>by simp
 | .fn f xs ys,h=>by
  simp only[jok,bM8] at h;simp only[io,gO ha h.1.2,gO ha h.2]
  congr 1
  cases f with
  |yield i=>
   have h1:=h.1.1;simp only[bH4,bMi] at h1;simp only[iof,ha _ h1]
  |_=>rfl
 | .ifc _ x,h=>by
  simp only[jok] at h;simp only[io,pC ha h]
 | .mp _,_=>by simp
 | .vec _ _,_=>by simp
 | .junk,_=>by simp
theorem gO {j:Nat} {ks ks':Ks} (ha:Agree j ks ks'):∀ {l:List AV},qL j l=true->ioL ks' l=ioL ks l
 |[],_=>rfl
 |x::l,h=>by
  simp only[qL,bM8] at h;simp only[ioL,pC ha h.1,gO ha h.2]
end
theorem bX {j:Nat} {ks ks':Ks} (ha:Agree j ks ks') {l:List AV} (h:qL j l=true):l.map (io ks')=l.map (io ks):=by
 rw[<-fB,<-fB,gO ha h]
theorem aQf {j:Nat} {ks ks':Ks} (ha:Agree j ks ks') {o:XO} (h:aC7 j o=true):iO ks' o=iO ks o:=by
 cases o with
 |cells cs=>simp only[iO,bX ha h]
 |row n0 i sz cs=>
  simp only[aC7,bM8,bMi] at h;simp only[iO,bX ha h.2,ha _ h.1]
 |loop i st pend=>
  simp only[aC7,bMi] at h;simp only[iO,ha _ h]
 |_=>rfl
theorem pB {j:Nat} {ks ks':Ks} (ha:Agree j ks ks') {H:HX} (h:H.all (aC7 j)=true):iH ks' H=iH ks H:=by
 unfold iH;exact List.map_congr_left fun o ho=>aQf ha (bMg.1 h o ho)
def bEr:List UInt8->List UInt8->Bool
 |[],[]=>true
 |a::l,b::m=>Nat.beq a.toNat b.toNat&& bEr l m
 |_,_=>false
theorem aK9:∀ {l m:List UInt8},bEr l m=true->l=m
 |[],[],_=>rfl
 |a::l,b::m,h=>by
  simp only[bEr,bM8] at h;rw[aK9 h.2,UInt8.toNat_inj.1 (Nat.eq_of_beq_eq_true h.1)]
def eqV:Value->Value->Bool
 | .bool a, .bool b=>a==b
 | .int k a, .int l b=>decide (k=l)&& a==b
 | .string ⟨⟨a⟩⟩, .string ⟨⟨b⟩⟩=>bEr a b
 | .pointer none, .pointer none=>true
 | .slice none 0 0, .slice none 0 0=>true
 | .map none, .map none=>true
 | .nilFunc, .nilFunc=>true
 | .nilIface, .nilIface=>true
 |_,_=>false
theorem bBh {a b:Value} (h:eqV a b=true):a=b:=by
 unfold eqV at h;split at h<;>first|(cases h;done)|rfl|skip
 ·simp only[beq_iff_eq] at h;rw[h]
 ·simp only[bM8,bMi,beq_iff_eq] at h;rw[h.1,h.2]
 ·rw[aK9 h]
mutual
def eqP:PV->PV->Bool
 | .prim a, .prim b=>eqV a b
 | .sl s es, .sl t fs=>Nat.beq s t&& aBi es fs
 | .ro cs, .ro ds=>aVl cs ds
 | .ifc t x, .ifc u y=>Nat.beq t u&& eqP x y
 |_,_=>false
def aVl:List PV->List PV->Bool
 |[],[]=>true
 |x::l,y::m=>eqP x y&& aVl l m
 |_,_=>false
def aBi:List (List PV)->List (List PV)->Bool
 |[],[]=>true
 |x::l,y::m=>aVl x y&& aBi l m
 |_,_=>false
end
mutual
theorem aKc:∀ {a b:PV},eqP a b=true->a=b
 | .prim a,b,h=>by
  cases b<;>simp only[eqP] at h<;>first|(cases h;done)|rw[bBh h]
 | .sl s es,b,h=>by
  cases b<;>simp only[eqP,bM8] at h<;>first|(cases h;done)|rw[Nat.eq_of_beq_eq_true h.1,vF h.2]
 | .ro cs,b,h=>by
  cases b<;>simp only[eqP] at h<;>first|(cases h;done)|rw[aBj h]
 | .ifc t x,b,h=>by
  cases b<;>simp only[eqP,bM8] at h<;>first|(cases h;done)|(rw[aKc h.2];congr 1;exact Nat.eq_of_beq_eq_true h.1)
theorem aBj:∀ {a b:List PV},aVl a b=true->a=b
 |[],[],_=>rfl
 |x::l,y::m,h=>by
  simp only[aVl,bM8] at h;rw[aKc h.1,aBj h.2]
 |[],_::_,h=>by simp[aVl] at h
 |_::_,[],h=>by simp[aVl] at h
theorem vF:∀ {a b:List (List PV)},aBi a b=true->a=b
 |[],[],_=>rfl
 |x::l,y::m,h=>by
  simp only[aBi,bM8] at h;rw[aBj h.1,vF h.2]
 |[],_::_,h=>by simp[aBi] at h
 |_::_,[],h=>by simp[aBi] at h
end
def eqF:Fn->Fn->Bool
 | .func i, .func j=>Nat.beq i j
 | .yield i, .yield j=>Nat.beq i j
 |_,_=>false
theorem bBg {a b:Fn} (h:eqF a b=true):a=b:=by
 unfold eqF at h;split at h<;>first|(cases h;done)|(congr 1;exact Nat.eq_of_beq_eq_true h)
mutual
def eqA:AV->AV->Bool
 | .p a, .p b=>eqP a b
 | .agg a, .agg b=>aAm a b
 | .tup a, .tup b=>aAm a b
 | .ptr a b, .ptr c d=>Nat.beq a c&& Nat.beq b d
 | .sm a b c d e, .sm a' b' c' d' e'=>Nat.beq a a'&& Nat.beq b b'&& Nat.beq c c'&& Nat.beq d d'&& Nat.beq e e'
 | .own a b c, .own a' b' c'=>Nat.beq a a'&& Nat.beq b b'&& aBi c c'
 | .fn f a b, .fn g c d=>eqF f g&& aAm a c&& aAm b d
 | .ifc t x, .ifc u y=>Nat.beq t u&& eqA x y
 | .mp a, .mp b=>Nat.beq a b
 | .junk, .junk=>true
 |_,_=>false
def aAm:List AV->List AV->Bool
 |[],[]=>true
 |x::l,y::m=>eqA x y&& aAm l m
 |_,_=>false
end
mutual
theorem xZ:∀ {a b:AV},eqA a b=true->a=b
 | .p a,b,h=>by cases b<;>simp only[eqA] at h<;>first|(cases h;done)|rw[aKc h]
 | .agg a,b,h=>by cases b<;>simp only[eqA] at h<;>first|(cases h;done)|rw[gF h]
 | .tup a,b,h=>by cases b<;>simp only[eqA] at h<;>first|(cases h;done)|rw[gF h]
 | .ptr a c,b,h=>by cases b<;>simp only[eqA,bM8] at h<;>first|(cases h;done)|rw[Nat.eq_of_beq_eq_true h.1,Nat.eq_of_beq_eq_true h.2]
 | .sm a a2 a3 a4 a5,b,h=>by
  cases b<;>simp only[eqA,bM8] at h<;>first|(cases h;done)|rw[Nat.eq_of_beq_eq_true h.1.1.1.1,Nat.eq_of_beq_eq_true h.1.1.1.2,Nat.eq_of_beq_eq_true h.1.1.2,Nat.eq_of_beq_eq_true h.1.2,Nat.eq_of_beq_eq_true h.2]
 | .own a a2 a3,b,h=>by
  cases b<;>simp only[eqA,bM8] at h<;>first|(cases h;done)|rw[Nat.eq_of_beq_eq_true h.1.1,Nat.eq_of_beq_eq_true h.1.2,vF h.2]
 | .fn f a a2,b,h=>by
  cases b<;>simp only[eqA,bM8] at h<;>first|(cases h;done)|rw[bBg h.1.1,gF h.1.2,gF h.2]
 | .ifc t x,b,h=>by
  cases b<;>simp only[eqA,bM8] at h<;>first|(cases h;done)|(rw[xZ h.2];congr 1;exact Nat.eq_of_beq_eq_true h.1)
 | .mp a,b,h=>by cases b<;>simp only[eqA] at h<;>first|(cases h;done)|rw[Nat.eq_of_beq_eq_true h]
 | .vec _ _,b,h=>by cases b<;>simp[eqA] at h
 | .junk,b,h=>by cases b<;>first|rfl|(simp[eqA] at h)
theorem gF:∀ {a b:List AV},aAm a b=true->a=b
 |[],[],_=>rfl
 |x::l,y::m,h=>by
  simp only[aAm,bM8] at h;rw[xZ h.1,gF h.2]
 |[],_::_,h=>by simp[aAm] at h
 |_::_,[],h=>by simp[aAm] at h
end
def vA {α:Type} (sz:Nat):Nat->List α->List (List α)
 |0,_=>[]
 |n+1,l=>l.take sz::vA sz n (l.drop sz)
theorem tD {α:Type} {sz:Nat} :∀(n:Nat)(l:List α),l.length=n*sz->(vA sz n l).flatten=l/\(∀e∈vA sz n l,e.length=sz)/\(vA sz n l).length=n
 |0,l,h=>by
  have:l=[]:=by apply bNw;simpa using h
  subst this;simp[vA]
 |n+1,l,h=>by
  have e:(n+1)*sz=n*sz+sz:=bOm n sz;obtain⟨h1,h2,h3⟩:=tD (sz:=sz) n (l.drop sz) (by rw[bN1];omega);refine⟨by simp only[vA,bNa,h1,bN5],fun x hx=>?_,by simp only[vA,bM2,h3]⟩;simp only[vA,bMh] at hx;rcases hx with rfl|hx
  ·rw[bMn];omega
  ·exact h2 x hx
def bCr {α β:Type} (f:α->Option β):List α->Option (List β)
 |[]=>some []
 |x::l=>match f x,bCr f l with
  |some y,some m=>some (y::m)
  |_,_=>none
def room (code:Nat):Nat:=if code%2=0 then code/2 else code/2%1048576
theorem vX (ks:Ks)(code:Nat):room code<=qH ks code:=by
 unfold room qH;split<;>omega
def pv (H:HX)(m:Nat):Nat->AV->Option PV
 |_, .p x=>some x
 |_, .own _ sz es=>some (.sl sz es)
 |n+1, .ifc t x=>(pv H m n x).map (.ifc t)
 |n+1, .sm id off len code sz=>
  if m<=id/\0<sz/\len<=room code then
   match (H[id]?).bind cellsOf with
   |some cs=>if off+len*sz<=cs.length then(bCr (pv H m n) ((cs.drop off).take (len*sz))).map fun l=> .sl sz (vA sz len l) else none
   |none=>none
  else none
 |_,_=>none
mutual
def pa (H:HX)(m:Nat):AV->AV
 | .agg cs=> .agg (paL H m cs)
 | .tup cs=> .tup (paL H m cs)
 | .fn f xs ys=> .fn f (paL H m xs) (paL H m ys)
 | .own _a b c=> .p (.sl b c)
 | .ifc t x=>match pv H m 8 (.ifc t x) with
  |some y=> .p y
  |none=> .ifc t x
 | .sm a b c d e=>match pv H m 8 (.sm a b c d e) with
  |some y=> .p y
  |none=> .sm a b c d e
 |x=>x
def paL (H:HX)(m:Nat):List AV->List AV
 |[]=>[]
 |x::l=>pa H m x::paL H m l
end
def frz (E:Env)(h:Heap)(m:Nat):Env:= {E with ro:=fun b off=>E.ro b off\/∃id cs,m<=id/\h.at id=some (.cells cs)/\E.g id=some b}
def aC0 (h:Heap)(m:Nat):Heap:=h.take m++List.replicate (h.length-m) none
theorem aWj (h:Heap)(m id:Nat)(hm:m<=h.length):Heap.at (aC0 h m) id=if id<m then h.at id else none:=by
 unfold aC0 Heap.at
 by_cases e:id<m
 ·rw[bM9 (by rw[bMn];omega)];simp[e]
 ·rw[bN8 (by rw[bMn];omega)];rw[if_neg e];rw[List.getElem?_replicate];split<;>rfl
theorem mH {E:Env} {h:Heap} {w:World} (r:Rel E h.at w)(m:Nat)(hm:m<=h.length):Rel (frz E h m) (Heap.at (aC0 h m)) w/\Fr E h.at w (frz E h m) (Heap.at (aC0 h m)) w:=by
 have hx:Ext E w (frz E h m) w:=⟨fun _ _ h=> .inl h,fun _ _ _=>rfl,fun _ _ h=>h,fun _ L h=>⟨L,h,bLx _,fun _=>rfl⟩⟩
 have hat:∀id o,Heap.at (aC0 h m) id=some o->id<m/\h.at id=some o:=by
  intro id o e;rw[aWj h m id hm] at e;exact y6b
 have hO:∀id b,fG (frz E h m) (Heap.at (aC0 h m)) id b->id<m/\fG E h.at id b:=by
  intro id b ho;rcases ho with ⟨c,h1,h3,h2⟩|⟨c,x,c',k,h1,hk,h2⟩
  ·obtain⟨l,h1⟩:=hat _ _ h1;exact⟨l, .inl ⟨c,h1,h3,h2⟩⟩
  ·obtain⟨l,h1⟩:=hat _ _ h1;exact⟨l, .inr ⟨c,x,c',k,h1,hk,h2⟩⟩
 refine⟨⟨fun id o hc hn=>?_,fun id o n sz k cs hc hk=>?_,fun i i' b h1 h2=>r.inj i i' b (hO _ _ h1).2 (hO _ _ h2).2,fun id o b off hc hn hg hb=>?_,fun id o n sz k cs b c k' off hc hk hg hl hb=>?_,fun b off hb=>?_⟩,
  ⟨fun _ _ _=>rfl,hx,fun b off hb=>?_,bLx _,fun b ⟨i,ho⟩=> .inl ⟨i,(hO _ _ ho).2⟩,Kp.refl w⟩⟩
 ·obtain⟨_,hc⟩:=hat _ _ hc;obtain⟨b,hg,ho⟩:=r.objsO id o hc hn;exact⟨b,hg,ho.move hx rfl⟩
 ·obtain⟨_,hc⟩:=hat _ _ hc;obtain⟨blk,cap,ht,h1,h2,h3⟩:=r.toks id o n sz k cs hc hk
  exact⟨blk,cap,ht,h1,h2,fun b hb=>by
   obtain⟨vs,q1,q2,q3⟩:=h3 b hb;exact⟨vs,q1,q2,q3.ext hx⟩⟩
 ·obtain⟨l,hc⟩:=hat _ _ hc;rcases hb with hb|⟨id',cs,hm',hat',hg'⟩
  ·exact r.sepO id o b off hc hn hg hb
  ·have:=r.inj id id' b (.inl ⟨o,hc,hn,hg⟩) (.inl ⟨_,hat',rfl,hg'⟩);omega
 ·obtain⟨l,hc⟩:=hat _ _ hc;rcases hb with hb|⟨id',cs',hm',hat',hg'⟩
  ·exact r.sepT id o n sz k cs b c k' off hc hk hg hl hb
  ·have:=r.inj id id' b (.inr ⟨o,_,c,k',hc,hk,hg⟩) (.inl ⟨_,hat',rfl,hg'⟩);omega
 ·rcases hb with hb|⟨id',cs,hm',hat',hg'⟩
  ·exact r.lt b off hb
  ·exact r.owns_lt (.inl ⟨_,hat',rfl,hg'⟩)
 ·rcases hb with hb|⟨id',cs,hm',hat',hg'⟩
  ·exact .inl hb
  ·exact .inr (.inl ⟨id', .inl ⟨_,hat',rfl,hg'⟩⟩)
section
variable {ks:Ks} {E:Env} {w:World} {H:HX} {m:Nat}
theorem aTn (r:Rel E (iH ks H).at w):∀(n:Nat)(x:AV)(y:PV)(v:Value),pv H m n x=some y->Rep E w (io ks x) v->RepP (frz E (iH ks H) m) w y v:=by
 have hx:Ext E w (frz E (iH ks H) m) w:=⟨fun _ _ h=> .inl h,fun _ _ _=>rfl,fun _ _ h=>h,fun _ L h=>⟨L,h,bLx _,fun _=>rfl⟩⟩;intro n
 induction n with
 |zero=>
  intro x y v hp hv
  cases x<;>simp only[pv,bM0] at hp<;>try (cases hp;done)
  ·subst hp;simp only[eV,Rep] at hv;exact hv.ext hx
  ·exact y7c
 |succ n ih=>
  intro x y v hp hv
  cases x<;>simp only[pv,bM0] at hp<;>try (simp at hp;done)
  case p x=>subst hp;simp only[eV,Rep] at hv;exact hv.ext hx
  case own a b c=>
   exact y7c
  case ifc t x=>
   obtain⟨y',h1,rfl⟩:=bMb.1 hp;simp only[aLu,Rep] at hv;obtain⟨u,e,hu⟩:=hv;simp only[RepP];exact⟨u,e,ih x y' u h1 hu⟩
  case sm id off len code sz=>
   split at hp
   ·rename_i hc;obtain⟨c1,c2,c3⟩:=hc
    cases hb:(H[id]?).bind cellsOf with
    |none=>rw[hb] at hp;cases hp
    |some cs=>
     rw[hb] at hp;simp only at hp;split at hp
     ·rename_i hfit;obtain⟨l,h1,rfl⟩:=bMb.1 hp;obtain⟨o,h2,h3⟩:=gM hb;obtain⟨R,h4,_⟩:=iF (ks:=ks) h3;have hat:=lC (ks:=ks) h2;rw[h4] at hat;simp only[io_sm,Rep] at hv;obtain⟨b,hg,rfl⟩:=hv;obtain⟨b',vs,hg',hrow,hreps⟩:=r.objs id _ hat;rw[hg] at hg';cases hg'
      have hseg:RepL E w (((cs.drop off).take (len*sz)).map (io ks)) ((vs.drop off).take (len*sz)):=by
       have:=(hreps.drop off).take (len*sz)
       rwa [eQ hfit] at this
      have conv:∀(cs:List AV) (vs:List Value) (l:List PV),bCr (pv H m n) cs=some l->RepL E w (cs.map (io ks)) vs->RepL (frz E (iH ks H) m) w (l.map .p) vs/\l.length=cs.length:=by
       intro cs
       induction cs with
       |nil=>intro vs l hl hr;simp only[bCr,bM0] at hl;subst hl;exact⟨by simpa [RepL] using hr,rfl⟩
       |cons c cs ihc=>
        intro vs l hl hr;simp only[bCr] at hl;split at hl
        ·rename_i y ys e1 e2;simp only[bM0] at hl;subst hl;simp only[bMd,RepL] at hr;obtain⟨v,us,rfl,r1,r2⟩:=hr;obtain⟨q1,q2⟩:=ihc us ys e2 r2;refine⟨?_,by simp[q2]⟩;simp only[bMd,RepL];exact⟨v,us,rfl,by simp only[Rep];exact ih c y v e1 r1,q1⟩
        ·cases hl
      obtain⟨q1,q2⟩:=conv _ _ _ h1 hseg;have hll:l.length=len*sz:=by rw[q2,bMn,bN1];omega
      obtain⟨k1,k2,k3⟩:=tD len l hll;simp only[RepP];have hcap:len<=qH ks code:=bNs c3 (vX ks code);refine⟨some ⟨b,off,none⟩,qH ks code,by rw[k3],by rw[k3];exact hcap, .inr ⟨b,off,rfl,?_⟩⟩;refine RepEs.of_row (vs:=(vs.drop off).take (len*sz)) k2 (fun j v hj=>⟨.inr ⟨id,_,c1,hat,hg⟩,?_⟩) (by rw[k1];exact q1);rw[hrow.cell];exact y5d
     ·cases hp
   ·cases hp
mutual
theorem aTm (r:Rel E (iH ks H).at w):∀(x:AV)(v:Value),Rep E w (io ks x) v->Rep (frz E (iH ks H) m) w (io ks (pa H m x)) v
 | .agg cs,v,h=>by
  simp only[io,Rep,pa] at h⊢;obtain⟨vs,e,h⟩:=h;exact⟨vs,e,nM r cs vs h⟩
 | .tup cs,v,h=>by
  simp only[io,Rep,pa] at h⊢;obtain⟨vs,e,h⟩:=h;exact⟨vs,e,nM r cs vs h⟩
 | .fn f xs ys,v,h=>by
  simp only[io,Rep,pa] at h⊢;obtain⟨vs,us,e,h1,h2⟩:=h;exact⟨vs,us,e,nM r xs vs h1,nM r ys us h2⟩
 | .own a b c,v,h=>by
  have hx:Ext E w (frz E (iH ks H) m) w:=⟨fun _ _ h=> .inl h,fun _ _ _=>rfl,fun _ _ h=>h,fun _ L h=>⟨L,h,bLx _,fun _=>rfl⟩⟩;have:=Weak.own _ _ _ E w v (by simpa using h);simp only[pa,eV];exact this.ext hx
 | .ifc t x,v,h=>by
  have hx:Ext E w (frz E (iH ks H) m) w:=⟨fun _ _ h=> .inl h,fun _ _ _=>rfl,fun _ _ h=>h,fun _ L h=>⟨L,h,bLx _,fun _=>rfl⟩⟩;simp only[pa];split
  ·rename_i y e;simp only[eV,Rep];exact aTn r 8 _ y v e h
  ·exact h.ext hx
 | .sm a b c d e,v,h=>by
  have hx:Ext E w (frz E (iH ks H) m) w:=⟨fun _ _ h=> .inl h,fun _ _ _=>rfl,fun _ _ h=>h,fun _ L h=>⟨L,h,bLx _,fun _=>rfl⟩⟩;simp only[pa];split
  ·rename_i y e;simp only[eV,Rep];exact aTn r 8 _ y v e h
  ·exact h.ext hx
 | .p x,v,h=>by
  have hx:Ext E w (frz E (iH ks H) m) w:=⟨fun _ _ h=> .inl h,fun _ _ _=>rfl,fun _ _ h=>h,fun _ L h=>⟨L,h,bLx _,fun _=>rfl⟩⟩;simp only[pa];exact h.ext hx
 | .ptr _ _,v,h=>by
  have hx:Ext E w (frz E (iH ks H) m) w:=⟨fun _ _ h=> .inl h,fun _ _ _=>rfl,fun _ _ h=>h,fun _ L h=>⟨L,h,bLx _,fun _=>rfl⟩⟩;simp only[pa];exact h.ext hx
 | .mp _,v,h=>by
  have hx:Ext E w (frz E (iH ks H) m) w:=⟨fun _ _ h=> .inl h,fun _ _ _=>rfl,fun _ _ h=>h,fun _ L h=>⟨L,h,bLx _,fun _=>rfl⟩⟩;simp only[pa];exact h.ext hx
 | .vec _ _,v,h=>by
  have hx:Ext E w (frz E (iH ks H) m) w:=⟨fun _ _ h=> .inl h,fun _ _ _=>rfl,fun _ _ h=>h,fun _ L h=>⟨L,h,bLx _,fun _=>rfl⟩⟩;simp only[pa];exact h.ext hx
 | .junk,v,h=>by simp only[pa,aC6,Rep]
theorem nM (r:Rel E (iH ks H).at w):∀(xs:List AV)(vs:List Value),RepL E w (ioL ks xs) vs->RepL (frz E (iH ks H) m) w (ioL ks (paL H m xs)) vs
 |[],vs,h=>by simpa only[paL,ioL,RepL] using h
 |x::xs,vs,h=>by
  simp only[paL,ioL,RepL] at h⊢;obtain⟨v,us,e,h1,h2⟩:=h;exact⟨v,us,e,aTm r x v h1,nM r xs us h2⟩
end
theorem vJ (h:Heap)(m:Nat)(hm:m<=h.length):(aC0 h m).length=h.length:=by
 unfold aC0;simp;omega
theorem aI1 (ks:Ks)(H:HX)(m:Nat)(hm:m<=H.length)(x:AV):Settles (io ks x) (iH ks H) (io ks (pa H m x)) (aC0 (iH ks H) m):=by
 intro E w v r hf hx;have hm':m<=(iH ks H).length:=by rw[bJ];exact hm
 obtain⟨h1,h2⟩:=mH r m hm';exact⟨_,h1,fun id hid=>hf id (by rw[vJ _ _ hm'] at hid;exact hid),aTm r x v hx,h2⟩
theorem aLg (h:Heap)(m:Nat)(hm:m<=h.length):(aC0 h m).take m=h.take m:=by
 unfold aC0;rw[bMx (by simp;omega),List.take_take,Nat.min_self]
end
end Go.AI.EV
