import Derived.Test.YtcfcolkbeelegaaGreatJA0
import Derived.Scope
import Derived.Test.YtcfcolkbeelegaaGreatJX2
import Derived.Test.YtcfcolkbeelegaaGreatJLB
import Derived.Test.YtcfcolkbeelegaaGreatJFL
set_option maxRecDepth 8000
set_option maxHeartbeats 16000000
namespace Go.AI
open Go
theorem aT2 {E:Env} {w:World} {sz cap:Nat} {es:List (List PV)} {vs:List Value} (hes:∀e∈es,e.length=sz)(hn:es.length<=cap)(hl:vs.length=cap*sz)
  (hr:RepL E w (es.flatten.map .p) (vs.take (es.flatten.map AV.p).length)):RepL E w (buf sz es (cap-es.length)) vs:=by
 have hel:(es.flatten.map AV.p).length=es.length*sz:=by rw[aZo,aV hes]
 rw[hel] at hr;have hmul:es.length*sz+(cap-es.length)*sz=cap*sz:=by rw[<-bB2];congr 1;omega
 have hd:(vs.drop (es.length*sz)).length=(cap-es.length)*sz:=by rw[bA0];omega
 have:=hr.append (hd▸RepL.junks (E:=E) (w:=w) (vs.drop (es.length*sz)));rw[bA4] at this;exact this
theorem Rel.thaw {E:Env} {h:Heap} {w:World} (r:Rel E h.at w)(hf:Fresh E h.length) {id b cap sz:Nat} {es:List (List PV)} (hat:h.at id=some (.vec sz es))(hL:E.t id=some ⟨some b,cap,es.length⟩)(hes:∀e∈es,e.length=sz):
  let E':Env:= {E with g:=fun i=>if i=h.length then some b else E.g i}
  let h':Heap:=h.set id none++[some (.cells (buf sz es (cap-es.length)))]
  Rel E' h'.at w/\Fr E h.at w E' h'.at w/\Fresh E' (h.length+1)/\es.length<=cap:=by
 intro E' h';obtain⟨blk,cap',ht,k1,k2,k3⟩:=r.toks id _ _ _ _ _ hat rfl;rw[hL] at ht;cases ht;obtain⟨vs,hrow,hcl,hcr⟩:=k3 b rfl;have hlt:=cP hat
 have hx:Ext E w E' w:=⟨fun _ _ h=>h,fun _ _ _=>rfl,fun i b' e=>by
   show(if i=h.length then some b else E.g i)=some b';rw[if_neg (fun he=>by rw[he,(hf _ (aYw _)).1] at e;cases e)];exact e,fun _ L h=>⟨L,h,aYw _,fun _=>rfl⟩⟩
 have hnew:h'.at h.length=some (.cells (buf sz es (cap-es.length))):=by
  have:=dR (h.set id none) (some (.cells (buf sz es (cap-es.length)))) h.length;rw[bAt,if_pos rfl] at this;exact this
 have hold:∀i o,i≠h.length->h'.at i=some o->h.at i=some o/\i≠id:=by
  intro i o hne e;have:=dR (h.set id none) (some (.cells (buf sz es (cap-es.length)))) i;exact y54
 have hg':∀i,i≠h.length->E'.g i=E.g i:=fun i hne=>if_neg hne
 have hgn:E'.g h.length=some b:=if_pos rfl
 have hO:∀i b',lO E' h'.at i b'->(i=h.length/\b'=b)\/(i≠h.length/\i≠id/\lO E h.at i b'):=by
  intro i b' ho
  by_cases e:i=h.length
  ·subst e;left;refine⟨rfl,?_⟩;rcases ho with ⟨o',h1,h3,h2⟩|⟨o',x,c,m,h1,hk,h2⟩
   ·rw[hgn] at h2;cases h2;rfl
   ·rw[hnew] at h1;cases h1;simp[AO.tk] at hk
  ·right;rcases ho with ⟨o',h1,h3,h2⟩|⟨o',x,c,m,h1,hk,h2⟩
   ·obtain⟨q1,q2⟩:=hold i o' e h1;rw[hg' i e] at h2;exact⟨e,q2, .inl ⟨o',q1,h3,h2⟩⟩
   ·obtain⟨q1,q2⟩:=hold i o' e h1;exact⟨e,q2, .inr ⟨o',x,c,m,q1,hk,h2⟩⟩
 have hown:lO E h.at id b:= .inr ⟨_,_,_,_,hat,rfl,hL⟩;refine⟨⟨fun i o hc hn=>?_,fun i o n s k cs hc hk=>?_,fun i i' b' h1 h2=>?_,fun i o b' off hc hn hg hb=>?_,fun i o n s k cs b' c m off hc hk hg hl hb=>?_,r.lt⟩,⟨fun _ _ _=>rfl,hx,fun _ _ h=> .inl h,aYw _,fun b' ⟨i,ho⟩=>?_,Kp.refl w⟩,fun i hi=>?_,k1⟩
 ·by_cases e:i=h.length
  ·subst e;rw[hnew] at hc;cases hc;exact⟨b,hgn,vs,hrow,(aT2 hes k1 hcl hcr).ext hx⟩
  ·obtain⟨q1,_⟩:=hold i o e hc;obtain⟨b',hg,ho⟩:=r.objsO i o q1 hn;exact⟨b',by rw[hg' i e];exact hg,ho.move hx rfl⟩
 ·have e:i≠h.length:=fun e=>by subst e;rw[hnew] at hc;cases hc;simp[AO.tk] at hk
  obtain⟨q1,_⟩:=hold i o e hc;obtain⟨blk,cap2,ht,h1,h2,h3⟩:=r.toks i o n s k cs q1 hk;refine⟨blk,cap2,ht,h1,h2,fun b' hb=>?_⟩;obtain⟨us,hr,hl,hp⟩:=h3 b' hb;exact⟨us,hr,hl,hp.ext hx⟩
 ·exact y5i
 ·by_cases e:i=h.length
  ·subst e;rw[hgn] at hg;cases hg;exact r.sepT id _ _ _ _ _ b cap _ off hat rfl hL aB hb
  ·obtain⟨q1,_⟩:=hold i o e hc;rw[hg' i e] at hg;exact r.sepO i o b' off q1 hn hg hb
 ·have e:i≠h.length:=fun e=>by subst e;rw[hnew] at hc;cases hc;simp[AO.tk] at hk
  obtain⟨q1,_⟩:=hold i o e hc;exact r.sepT i o n s k cs b' c m off q1 hk hg hl hb
 ·exact y87
 ·have hid':h.length+1<=i:=hi;exact⟨by rw[hg' i aB];exact(hf i aB).1,(hf i aB).2⟩
section
variable {P:Program} {rd:Option Nat} {nb:Nat} {k:List It} {T:List AV} {h:Heap} {D:List AD} {Q:AX->List AV->Heap->List AD->Prop}
theorem Run.thawAt (cid off:Nat) {id n sz:Nat} {cs:List AV} {es:List (List PV)} (hcid:h.at cid=some (.cells cs))(hs:cs[off]?=some (.vec id n))(hat:h.at id=some (.vec sz es))(hes:∀e∈es,e.length=sz)(hn:es.length=n)(hpos:0<n)
  (r:∀cap,n<=cap->Run P rd nb k T ((h.set cid (some (.cells (cs.set off (.sm h.length 0 n cap sz))))).set id none++[some (.cells (buf sz es (cap-n)))]) D Q):Run P rd nb k T h D Q:=by
 intro E w a s;subst hn;have hlt:=cP hat;have hltc:=cP hcid;have hne:cid≠id:=fun e=>by subst e;rw[hcid] at hat;cases hat
 obtain⟨blk,cap,ht,k1,k2,k3⟩:=s.rel.toks id _ _ _ _ _ hat rfl
 obtain⟨b,rfl⟩:∃b,blk=some b:=by
  cases blk with
  |none=>have:=k2 rfl;omega
  |some b=>exact⟨b,rfl⟩
 obtain⟨t1,t2,t3,_⟩:=s.rel.thaw s.fresh hat ht hes;have hl1:(h.set id none++[some (AO.cells (buf sz es (cap-es.length)))]).length=h.length+1:=aA;have s':=s.move t2 t1 (by rw[hl1];exact t3)
 have hid':Heap.at (h.set id none++[some (.cells (buf sz es (cap-es.length)))]) cid=some (.cells cs):=by
  rw[dR,bAt,if_neg aB];exact y9c
 obtain⟨bc,vs,hg,hrow,hreps⟩:=s'.rel.objs cid cs hid';have hl:=hreps.length;have hoff:off<cs.length:=(aYv.1 hs).1;obtain⟨v,hv⟩:∃v,vs[off]?=some v:=⟨_,aYu aB⟩
 have hvr:Rep {E with g:=fun i=>if i=h.length then some b else E.g i} w (.vec id es.length) v:=by
  have:=hreps.get off;simpa only[List.getD,hs,hv,aZb] using this
 simp only[Rep] at hvr;obtain⟨L,hL,_,ad,cap0,rfl,hcur⟩:=hvr;rw[ht] at hL;cases hL;obtain⟨e1,e2⟩:=hcur rfl;simp only[bA1] at e1 e2;subst e1;have e3:=e2.symm;subst e3
 have hx:Rep {E with g:=fun i=>if i=h.length then some b else E.g i} w (.sm h.length 0 es.length cap sz) (.slice (some ⟨b,0,none⟩) es.length cap):=by
  simp only[Rep];exact⟨b,by simp,rfl⟩
 have hsame:vs.set off (.slice (some ⟨b,0,none⟩) es.length cap)=vs:=by
  exact y4g
 have hset:=hreps.set hx off;rw[hsame] at hset;obtain⟨w1,w2⟩:=s'.rel.write hid' hg hrow (fun _ _=>rfl) rfl rfl rfl hset
 have e:List.set (h.set id none++[some (AO.cells (buf sz es (cap-es.length)))]) cid (some (.cells (cs.set off (.sm h.length 0 es.length cap sz))))=(h.set cid (some (.cells (cs.set off (.sm h.length 0 es.length cap sz))))).set id none++[some (.cells (buf sz es (cap-es.length)))]:=by
  rw[aZp _ _ (by rw[bAt];exact hltc),List.set_comm _ _ (fun q=>hne q.symm)]
 rw[e] at w1 w2;have s2:=s'.move w2 w1 (by rw[aZ4,bAt,bAt];exact t3);exact dQ (P:=P) (rd:=rd) (Post.of_fr (Q:=Q) (t2.trans w2)) k _ _ _ (r cap k1 _ w a s2)
end
open Go
section
variable {P:Program} {rd:Option Nat} {nb:Nat} {k:List It} {T:List AV} {h:Heap} {D:List AD} {Q:AX->List AV->Heap->List AD->Prop}
theorem Run.freezeAt (cid off:Nat) {id n cap sz m:Nat} {cs:List AV} {es:List (List PV)} (hcid:h.at cid=some (.cells cs))(hs:cs[off]?=some (.sm id 0 n cap sz))(hat:h.at id=some (.cells (buf sz es m)))(hne:cid≠id)(hes:∀e∈es,e.length=sz)(hn:es.length=n)(hcap:n<=cap)
  (r:Run P rd nb k T ((h.set cid (some (.cells (cs.set off (.p (.sl sz es)))))).set id none) D Q):Run P rd nb k T h D Q:=by
 intro E w a s;have hlt:=cP hat;have hltc:=cP hcid;obtain⟨b,vals,hg,hrow,hreps⟩:=s.rel.objs id _ hat;obtain⟨f1,f2⟩:=s.rel.freeze hat hg;have s':=s.move f2 f1 (fun i hi=>s.fresh i (by simpa using hi));have hel:(es.flatten.map AV.p).length=es.length*sz:=by rw[aZo,aV hes]
 have hx:Rep {E with ro:=fun b' off=>E.ro b' off\/b'=b} w (.p (.sl sz es)) (.slice (some ⟨b,0,none⟩) n cap):=by
  exact y49
 have hid':Heap.at (h.set id none) cid=some (.cells cs):=by
  exact y9c
 obtain⟨bc,vs,hgc,hrowc,hrepsc⟩:=s'.rel.objs cid cs hid';have hl:=hrepsc.length;have hoff:off<cs.length:=(aYv.1 hs).1;obtain⟨v,hv⟩:∃v,vs[off]?=some v:=⟨_,aYu aB⟩
 have hvr:Rep {E with ro:=fun b' off=>E.ro b' off\/b'=b} w (.sm id 0 n cap sz) v:=by
  have:=hrepsc.get off;simpa only[List.getD,hs,hv,aZb] using this
 simp only[Rep] at hvr;obtain⟨b2,hb2,rfl⟩:=hvr;have hb2:E.g id=some b2:=hb2;rw[hg] at hb2;cases hb2
 have hsame:vs.set off (.slice (some ⟨b,0,none⟩) n cap)=vs:=by
  exact y4g
 have hset:=hrepsc.set hx off;rw[hsame] at hset;obtain⟨w1,w2⟩:=s'.rel.write hid' hgc hrowc (fun _ _=>rfl) rfl rfl rfl hset
 have e:List.set (h.set id none) cid (some (.cells (cs.set off (.p (.sl sz es)))))=(h.set cid (some (.cells (cs.set off (.p (.sl sz es)))))).set id none:=by
  rw[List.set_comm _ _ (fun q=>hne q.symm)]
 rw[e] at w1 w2;have s2:=s'.move w2 w1 (fun i hi=>s'.fresh i (by simpa using hi));exact dQ (P:=P) (rd:=rd) (Post.of_fr (Q:=Q) (f2.trans w2)) k _ _ _ (r _ w a s2)
end
end Go.AI
namespace Go.Proofs.YtcfcolkbeelegaaGreat
open Go Go.AI
abbrev aX8 (l:List Pt)(m:Nat):Option AO:=some (.cells (buf 3 (cC l) m))
theorem aQn (l:List Pt)(m:Nat):(buf 3 (cC l) m).length=(l.length+m)*3:=by rw[kQ (lC l)];simp
theorem aHm {l:List Pt} {m k:Nat} (t:Pt)(hk:k<l.length):patch (buf 3 (cC l) m) (k*3) (t.cells.map .p)=buf 3 (cC (l.set k t)) m:=by
 rw[buf_set (lC l) (by simpa using hk) aA];simp[nH,List.map_set]
theorem aQm {l:List Pt} {m k:Nat} {p:Pt} (h:l[k]?=some p):((buf 3 (cC l) m).drop (k*3)).take 3=p.cells.map .p:=by
 have hk:k<l.length:=(aYv.1 h).1;have hg:l[k]=p:=(aYv.1 h).2;rw[aKw (lC l) (by simpa using hk)];simp[nH,hg]
theorem uH {l:List Pt} {m k:Nat} {kk:Int} {n:List UInt8} {qs:List Pt} (h:l[k]?=some (.mk kk n qs))(c:Nat)(hc:c<3):(buf 3 (cC l) m)[k*3+c]?=[iA kk, .p (sP n), .p (.sl 3 (cC qs))][c]?:=by
 have:=congrArg (fun x=>x[c]?) (aQm (m:=m) h);simp only[bC,List.map] at this;rw[List.getElem?_take_of_lt hc,List.getElem?_drop] at this;exact this
theorem aN1 {l:List Pt} {m k:Nat} {kk:Int} {n:List UInt8} {qs:List Pt} (ws:List Pt)(h:l[k]?=some (.mk kk n qs)):(buf 3 (cC l) m).set (k*3+2) (.p (.sl 3 (cC ws)))=buf 3 (cC (l.set k (.mk kk n ws))) m:=by
 have hk:k<l.length:=(aYv.1 h).1;rw[<-aHm (m:=m) (.mk kk n ws) hk];simp only[bC,List.map,patch];have c0:=uH (m:=m) h 0 aB;have c1:=uH (m:=m) h 1 aB;simp at c0 c1;generalize buf 3 (cC l) m=b at c0 c1
 have e0:b.set (k*3) (iA kk)=b:=by
  apply bAi;intro j;refine y2b ?_;split
  ·rename_i e;subst e;rw[c0];simp[(aYv.1 c0).1]
  ·rfl
 have e1:b.set (k*3+1) (.p (sP n))=b:=by
  apply bAi;intro j;refine y2b ?_;split
  ·rename_i e;subst e;rw[c1];simp[(aYv.1 c1).1]
  ·rfl
 rw[e0,e1]
def aSn (h:Heap)(ts:List Pt)(o:AOut)(h':Heap):Prop:=
 (ts=[]/\o= .ret (.p (.sl 3 []))/\h'=h)\/∃(G:Heap) (cap:Nat),WF (h++G)/\ts.length<=cap/\o= .ret (.sm (h.length+G.length) 0 ts.length cap 3)/\h'=h++(G++[aX8 ts (cap-ts.length)])
theorem aJb (h:Heap)(hh:WF h)(ts:List Pt)(hl:ts.length<=1048576):ACalls Tryz.prog 179 [.p (.sl 3 (cC ts))] h (aSn h ts):=by
 refine zER Tryz.func179 Tryz.ntmps179 ?_;refine Run.regPre 1 fun K J=>?_
 refine yd ?_;simp;refine zi ?_;clear J;refine ya ?_;refine Run.nilEq (sz:=3) (es:=cC ts) rfl Tryz.underlying50 rfl aA fun b hb=>?_
 refine zo ?_
 cases b with
 |true=>
  have h0:ts=[]:=by
   have:=hb rfl;rw[nH] at this;exact y6y
  subst h0;refine lM ?_;exact Fin.ret' (h0:=h) (xs:=[.p (.prim (.slice none 0 0))]) aA rfl hh (aZ0 _).symm aA rfl (Weak.nil 3) rfl (.inl ⟨rfl,rfl,rfl⟩)
 |false=>
  refine znf ?_
  cases ts with
  |nil=>
   refine nv ?_;refine Run.regPre 2 fun K J=>?_
   refine yd ?_;simp[cC];refine zi ?_;clear J;refine ya ?_;refine Run.appendZ (sz:=3) (sz':=3) (es:=[]) (e:=74) rfl rfl rfl rfl aA aA ?_;refine zox ?_;exact y7z
  |cons t0 ts0=>
   generalize ht:t0::ts0=ts at*;have hpos:0<ts.length:=by rw[<-ht];simp
   clear ht t0 ts0;refine nv ?_;refine Run.regPre 0 fun K J=>?_
   simp only[bBc];simp;refine zi ?_;clear J;refine y27 ?_;refine Run.build0 (sz:=3) (e:=74) rfl rfl rfl rfl ?_;refine Run.opsPre 1 fun K J=>?_
   refine yd ?_;simp;refine zi ?_;clear J;refine ya ?_;refine Run.appendS (id:=h.length) (es:=[]) (ys:=cC ts) (cap:=0) (sz:=3) (by_:=48) (e:=74) rfl rfl rfl rfl rfl rfl aA (by simp[buf]) aA aA aA aA (by simpa using hpos) (by simp;omega) (by simp;omega) ?_ ?_
   ·intro hc;simp only[aZ2,aEp] at hc;omega
   ·intro c' hc';refine zox ?_;refine Fin.retM (h0:=h++([some (.cells (buf 3 [] 0))]++[aX8 ts (c'-ts.length)])) (l:=[]) aA aA (hh.app (by simp[bT])) aA aE rfl (Weak.refl _) aA (.inr ⟨[some (.cells (buf 3 [] 0))],c',hh.app (by simp[bT]),by simpa using hc',rfl,rfl⟩)
def iF:List Int->List Pt->Pt->List Pt
 |[],l,_=>l
 |[i],l,x=>l.set i.toNat x
 |i::j::w,l,x=>match l[i.toNat]? with
  |some (.mk k n qs)=>l.set i.toNat (.mk k n (iF (j::w) qs x))
  |none=>l
def aG3:List Int->List Pt->Prop
 |[],_=>False
 |[i],l=>l.length<=1048576/\0<=i/\i.toNat<l.length
 |i::j::w,l=>l.length<=1048576/\0<=i/\∃k n qs,l[i.toNat]?=some (.mk k n qs)/\aG3 (j::w) qs
theorem zI (x:Pt)(a b:Nat):∀(w:List Int)(l:List Pt),aG3 w l->∀h,WF h->h[a]?=some (some (.cells (x.cells.map .p)))->h[b]?=some (some (.cells [.fn (.func 178) [] [.ptr a 0, .ptr b 0]]))->
  AC 178 [.p (.sl 3 (cC l)), .p (.sl 1 (rM w)), .ptr a 0, .ptr b 0] h (.p (.sl 3 (cC (iF w l x)))):=by
 intro w
 induction w with
 |nil=>intro l hp;exact hp.elim
 |cons i w ih=>
 intro l hp h hh ha hb;obtain⟨a1,_⟩:=idf ha;obtain⟨b1,_⟩:=idf hb;have hll:l.length<=1048576:=by cases w<;>exact hp.1
 have hi0:0<=i:=by cases w<;>exact hp.2.1
 have hil:i.toNat<l.length:=by
  cases w with
  |nil=>exact hp.2.2
  |cons j w=>obtain⟨k,n,qs,hg,_⟩:=hp.2.2;exact(aYv.1 hg).1
 obtain⟨ii,rfl⟩:∃ii:Nat,i=ii:=⟨i.toNat,by omega⟩;simp only[aZj] at hil;have c1:=fun g hw=>aJb g hw l hll
 refine cW Tryz.func178 Tryz.ntmps178 ?_;refine Run.call rfl rfl aA rfl (c1 _ hh) ?_ ?_
 rotate_left
 ·rintro v h' (⟨_,hv,_⟩|⟨_,_,_,_,hv,_⟩)<;>cases hv
 rintro v h' (⟨h0,_,_⟩|⟨G,cap,hG,hcap,hv,rfl⟩)
 ·subst h0;simp at hil
 simp only[AOut.ret.injEq] at hv;subst hv;rw[show h++(G++[aX8 l (cap-l.length)])=(h++G)++[aX8 l (cap-l.length)] by simp,<-aZ4];have a2:∀m,((h++G)++m)[a]?=some (some (.cells (x.cells.map .p))):=fun m=>by rw[aZi];exact a1 _
 have b2:∀m,((h++G)++m)[b]?=some (some (.cells [.fn (.func 178) [] [.ptr a 0, .ptr b 0]])):=fun m=>by rw[aZi];exact b1 _
 have hGl:h.length<=(h++G).length:=aA;have hend:∀m,h++G++m=h++(G++m):=fun m=>by simp
 generalize h++G=H at hG a2 b2 hGl hend;have l1:ii*3+3<=(buf 3 (cC l) (cap-l.length)).length:=by rw[aQn];omega
 obtain⟨es,hes⟩:∃es,rM ((ii:Int)::w)=es:=⟨_,rfl⟩;have he0:es[0]?=some [iP ii]:=by rw[<-hes];rfl
 have hel:es.length=w.length+1:=by rw[<-hes];simp[rM]
 have het:es.tail=rM w:=by rw[<-hes];rfl
 rw[hes];clear hes;refine zo ?_;refine zr1 he0 ?_;refine zr ?_
 cases w with
 |nil=>
  have hput:=aHm (m:=cap-l.length) x hil;refine dF hel ?_;refine zr4 a2 hil l1 hput ?_;refine Run.keep [7] ?_;simp;refine Run.freezeS 7 (id:=H.length) (n:=l.length) (cap:=cap) (sz:=3) (m:=cap-l.length) (es:=cC (l.set ii x)) aA aA (lC _) aA hcap ?_;refine aRi ?_;refine Fin.ret' (h0:=h) aA rfl hh (hend _) aE rfl (Weak.refl _) aA ⟨by simp[iF],rfl⟩
 |cons j w=>
  obtain⟨_,_,k,n,qs,hg,hp2⟩:=hp;simp only[aZj] at hg;have c2:=fun(g:Heap) (hw:WF g) (h1:g[a]?=_) (h2:g[b]?=_)=>ih qs hp2 g hw h1 h2
  have hg2:=uH (m:=cap-l.length) hg 2 aB;simp at hg2;obtain⟨ws,hws⟩:∃ws,iF (j::w) qs x=ws:=⟨_,rfl⟩;rw[hws] at c2;have hput:=aN1 (m:=cap-l.length) ws hg;have hres:iF ((ii:Int)::j::w) l x=l.set ii (.mk k n ws):=by simp[iF,hg,hws]
  rw[hres];simp only[aZ1] at hel;have hel1:(1:Int)<=(es.length:Int):=aB;refine cf (by simp;omega) (nv ?_);refine Run.draw [0,0,0,0,0,0,0,0,0,0,0,1,1,1] [0,0,0,0,0,0,0,0,0,0,0,0,0,1] [0,0,0,0,0,24,56,120,0,256,1020,2047,4095,8191] [2,3,4,5,6,7,8,9,10,0,1,11,12,13] aC aC ?_;refine zd5 hil b2 hg2 hel1 het ?_;refine DR.call (args:=[.p (.sl 3 (cC qs)), .p (.sl 1 (rM (j::w))), .ptr a 0, .ptr b 0]) rfl rfl aA rfl rfl (c2 _ (hG.app (by simp[bT])) (a2 _) (b2 _)) ?_;refine zd3 hil l1 hput ?_;refine y9 ?_;refine nv ?_;refine Run.keep [7] ?_;simp;refine Run.freezeS 7 (id:=H.length) (n:=l.length) (cap:=cap) (sz:=3) (m:=cap-l.length) (es:=cC (l.set ii (.mk k n ws))) aA aA (lC _) aA hcap ?_;refine aRi ?_;exact Fin.ret' (h0:=h) aA rfl hh (hend _) aE rfl (Weak.refl _) aA ⟨rfl,rfl⟩
theorem aCc (x:Pt)(w:List Int)(l:List Pt)(hp:aG3 w l)(h:Heap)(hh:WF h):AC 131 [.p (.sl 3 (cC l)), .p (.sl 1 (rM w)),x.av] h (.p (.sl 3 (cC (iF w l x)))):=by
 have c1:=fun(a b:Nat) (g:Heap) (hw:WF g) (h1:g[a]?=_) (h2:g[b]?=_)=>zI x a b w l hp g hw h1 h2
 obtain⟨k,n,qs⟩:=x;simp only[Pt.av,bC,List.map] at c1⊢;refine zE Tryz.func131 Tryz.ntmps131 ?_;refine iQ ?_;refine zr ?_;refine zL (c1 h.length (h.length+1) _ (hh.app aA) aA aA) ?_;refine zox ?_;exact y2s
open Go Go.AI
def aA1:Pt:= .mk 0 [] []
mutual
def ctP:Pt->Nat
 | .mk k _ qs=>(if k=1 then 1 else 0)+aVi qs
def aVi:List Pt->Nat
 |[]=>0
 |p::ps=>ctP p+aVi ps
end
mutual
def oO:Pt->Pt->Nat
 | .mk k n qs,v=>if k=1 then(if v.kind=1 then(if v.name=n then fG qs v.args else 0) else 1+aVi qs) else 0
def fG:List Pt->List Pt->Nat
 |[],_=>0
 |_::_,[]=>0
 |p::ps,v::vs=>oO p v+fG ps vs
end
theorem aMw:∀(p v:Pt),v.kind≠1->oO p v<=ctP p
 | .mk k n qs,v,h=>by
  simp only[oO,ctP]
  by_cases c:k=1
  ·rw[if_pos c,if_neg h,if_pos c];omega
  ·rw[if_neg c];omega
theorem uD:∀(l:List Pt)(m:Nat),fG l (List.replicate m aA1)<=aVi l
 |[],m=>by simp[fG]
 |p::l,0=>by simp[fG]
 |p::l,m+1=>by
  simp only[bA2,fG,aVi];have:=aMw p aA1 (by simp[aA1]);have:=uD l m;omega
def mG (n:List UInt8)(m:Nat):Pt:= .mk 1 n (List.replicate m aA1)
theorem aHl (p v:Pt)(hv:v.kind≠1)(n:List UInt8)(m:Nat):oO p (mG n m)<=oO p v/\(p.kind=1->oO p (mG n m)<oO p v):=by
 obtain⟨k,nm,qs⟩:=p;obtain⟨vk,vn,vq⟩:=v;have hv2:=uD qs m;simp only[Pt.kind] at hv;simp only[oO,mG,Pt.kind,Pt.name,Pt.args,if_true]
 by_cases c:k=1
 ·by_cases e:n=nm
  ·simp only[c,hv,e,if_true,if_false];exact⟨by omega,fun _=>by omega⟩
  ·simp only[c,hv,e,if_true,if_false];exact⟨by omega,fun _=>by omega⟩
 ·simp only[c,if_false];exact⟨aYw _,fun h=>h.elim⟩
theorem pU:∀(l vs:List Pt)(i:Nat)(v v':Pt),vs[i]?=some v->(∀p,oO p v'<=oO p v)->fG l (vs.set i v')<=fG l vs
 |[],_,_,_,_,_,_=>by simp[fG]
 |_::_,[],_,_,_,h,_=>by simp at h
 |p::l,x::vs,0,v,v',h,hle=>by
  simp at h;subst h;simp only[bB0,fG];have:=hle p;omega
 |p::l,x::vs,i+1,v,v',h,hle=>by
  simp only[bBb,fG];have:=pU l vs i v v' (by simpa using h) hle;omega
theorem jY:∀(l vs:List Pt)(i:Nat)(p v v':Pt),l[i]?=some p->vs[i]?=some v->oO p v'<oO p v->fG l (vs.set i v')<fG l vs
 |[],_,_,_,_,_,h,_,_=>by simp at h
 |_::_,[],_,_,_,_,_,h,_=>by simp at h
 |q::l,x::vs,0,p,v,v',h1,h,hlt=>by
  simp at h1 h;subst h1 h;simp only[bB0,fG];omega
 |q::l,x::vs,i+1,p,v,v',h1,h,hlt=>by
  simp only[bBb,fG];have:=jY l vs i p v v' (by simpa using h1) (by simpa using h) hlt;omega
def PathV:List Int->List Pt->Prop
 |[],_=>False
 |[i],vs=>0<=i/\∃v,vs[i.toNat]?=some v/\v.kind≠1
 |i::j::w,vs=>0<=i/\∃n qs,vs[i.toNat]?=some (.mk 1 n qs)/\PathV (j::w) qs
def PathC (nm:List UInt8):List Int->List Pt->List Pt->Prop
 |[],_,_=>False
 |[i],l,vs=>0<=i/\∃qs v,l[i.toNat]?=some (.mk 1 nm qs)/\vs[i.toNat]?=some v/\v.kind≠1
 |i::j::w,l,vs=>0<=i/\∃n qs ws,l[i.toNat]?=some (.mk 1 n qs)/\vs[i.toNat]?=some (.mk 1 n ws)/\PathC nm (j::w) qs ws
theorem PathC.v {nm:List UInt8} :∀ {w:List Int} {l vs:List Pt},PathC nm w l vs->PathV w vs
 |[],_,_,h=>h.elim
 |[i],l,vs,h=>⟨h.1,by obtain⟨qs,v,_,h2,h3⟩:=h.2;exact⟨v,h2,h3⟩⟩
 |i::j::w,l,vs,h=>⟨h.1,by obtain⟨n,qs,ws,_,h2,h3⟩:=h.2;exact⟨n,ws,h2,h3.v⟩⟩
mutual
theorem aT6:∀(i:Nat)(p v:Pt)(w:List Int)(nm:List UInt8),pK i p v=⟨2,w,nm⟩->∃w',w=(i:Int)::w'/\PathC nm (0::w') [p] [v]
 |i, .mk k n qs,v,w,nm,h=>by
  rw[pK] at h
  by_cases hk:k=1
  ·rw[if_pos hk] at h;subst hk
   by_cases hv:v.kind=1
   ·rw[if_pos hv] at h
    by_cases hn:v.name=n
    ·rw[if_pos hn] at h;simp only[Vx.mk.injEq] at h;obtain⟨h1,h2,h3⟩:=h;obtain⟨a,w',he,h4,h5⟩:=sQ 0 qs v.args (bI 0 qs v.args).w (bI 0 qs v.args).n (by cases hc:bI 0 qs v.args;rw[hc] at h1;simp at h1;simp[h1]);refine⟨a::w',by rw[<-h2,he],by omega,n,qs,v.args,by simp,?_,?_⟩
     ·obtain⟨kv,nv,av⟩:=v;simp at hv hn;subst hv hn;simp
     ·rw[h3] at h5;simpa using h5
    ·rw[if_neg hn] at h;simp at h
   ·rw[if_neg hv] at h;simp only[Vx.mk.injEq] at h;obtain⟨_,h2,h3⟩:=h;refine⟨[],h2.symm,by omega,qs,v,by simp[h3],by simp,hv⟩
  ·rw[if_neg hk] at h;simp at h
theorem sQ:∀(i0:Nat)(l vs:List Pt)(w:List Int)(nm:List UInt8),bI i0 l vs=⟨2,w,nm⟩->∃(i:Int)(w':List Int),w=i::w'/\(i0:Int)<=i/\PathC nm ((i-i0)::w') l vs
 |i0,[],vs,w,nm,h=>by simp[bI] at h
 |i0,p::ps,[],w,nm,h=>by simp[bI] at h
 |i0,p::ps,v::vs,w,nm,h=>by
  rw[bI] at h
  by_cases c:(pK i0 p v).v=0
  ·rw[if_pos c] at h;obtain⟨i,w',h1,h2,h3⟩:=sQ (i0+1) ps vs w nm h;refine⟨i,w',h1,by omega,?_⟩;obtain⟨m,hm⟩:∃m:Nat,i-((i0+1:Nat):Int)=m:=⟨(i-((i0+1:Nat):Int)).toNat,by omega⟩;have hm2:i-(i0:Int)=((m+1:Nat):Int):=aB;rw[hm] at h3;rw[hm2]
   cases w' with
   |nil=>
    obtain⟨_,qs,x,a,b,c⟩:=h3;exact⟨by omega,qs,x,by simpa using a,by simpa using b,c⟩
   |cons j w'=>
    obtain⟨_,n,qs,ws,a,b,c⟩:=h3;exact⟨by omega,n,qs,ws,by simpa using a,by simpa using b,c⟩
  ·rw[if_neg c] at h;obtain⟨w',h1,h2⟩:=aT6 i0 p v w nm h;refine⟨i0,w',h1,by omega,?_⟩;rw[show(i0:Int)-i0=0 by omega]
   cases w' with
   |nil=>
    obtain⟨_,qs,x,a,b,c⟩:=h2;exact⟨by omega,qs,x,by simpa using a,by simpa using b,c⟩
   |cons j w'=>
    obtain⟨_,n,qs,ws,a,b,c⟩:=h2;exact⟨by omega,n,qs,ws,by simpa using a,by simpa using b,c⟩
end
theorem aN4 (n:List UInt8)(m:Nat):∀(w:List Int)(vs:List Pt),PathV w vs->∀l,fG l (iF w vs (mG n m))<=fG l vs
 |[],vs,h,l=>h.elim
 |[i],vs,h,l=>by
  obtain⟨h0,v,hv,hk⟩:=h;exact pU l vs i.toNat v _ hv fun p=>(aHl p v hk n m).1
 |i::j::w,vs,h,l=>by
  obtain⟨h0,nm,qs,hv,hp⟩:=h;have ih:=aN4 n m (j::w) qs hp;simp only[iF,hv];refine pU l vs i.toNat _ _ hv fun p=>?_
  obtain⟨k,n',ps⟩:=p;simp only[oO,Pt.kind,Pt.name,Pt.args,if_true]
  by_cases c:k=1
  ·rw[if_pos c,if_pos c]
   by_cases e:nm=n'
   ·simp only[e,if_true];exact ih ps
   ·simp only[e,if_false];exact aYw _
  ·rw[if_neg c,if_neg c];exact aYw _
theorem aS8 (n:List UInt8)(m:Nat)(nm:List UInt8):∀(w:List Int)(l vs:List Pt),PathC nm w l vs->fG l (iF w vs (mG n m))<fG l vs
 |[],l,vs,h=>h.elim
 |[i],l,vs,h=>by
  obtain⟨h0,qs,v,h1,hv,hk⟩:=h;exact jY l vs i.toNat _ v _ h1 hv ((aHl _ v hk n m).2 rfl)
 |i::j::w,l,vs,h=>by
  obtain⟨h0,nn,qs,ws,h1,hv,hp⟩:=h;have ih:=aS8 n m nm (j::w) qs ws hp;simp only[iF,hv];refine jY l vs i.toNat _ _ _ h1 hv ?_;simp only[oO,Pt.kind,Pt.name,Pt.args,if_true];exact ih
def pT:List Cl->List Pt->Nat
 |[],_=>0
 |c::cs,vs=>fG c.ps vs+pT cs vs
theorem aHj (n:List UInt8)(m:Nat) {w:List Int} {vs:List Pt} (h:PathV w vs):∀cs:List Cl,pT cs (iF w vs (mG n m))<=pT cs vs
 |[]=>aYw _
 |c::cs=>by
  have:=aN4 n m w vs h c.ps;have:=aHj n m h cs;simp only[pT];omega
theorem aHk (n:List UInt8)(m:Nat) {nm:List UInt8} {w:List Int} {vs:List Pt} :∀ {cs:List Cl} {c:Cl},c∈cs->PathC nm w c.ps vs->pT cs (iF w vs (mG n m))<pT cs vs
 |[],c,h,_=>by cases h
 |x::cs,c,h,hp=>by
  simp only[pT];rcases aZg.1 h with rfl|h
  ·have:=aS8 n m nm w c.ps vs hp;have:=aHj n m hp.v cs;omega
  ·have:=aN4 n m w vs hp.v x.ps;have:=aHk n m h hp;omega
theorem aN3 {env:List Dc} {x:Pt} (hx:jS env x=0):∀(w:List Int)(vs:List Pt),PathV w vs->cD env vs=0->cD env (iF w vs x)=0/\(iF w vs x).length=vs.length
 |[],vs,h,_=>h.elim
 |[i],vs,h,hc=>by
  refine⟨yC fun p hp=>?_,by simp[iF]⟩;simp only[iF] at hp;rcases List.mem_or_eq_of_mem_set hp with hp|rfl
  ·exact eS hc p hp
  ·exact hx
 |i::j::w,vs,h,hc=>by
  obtain⟨h0,n,qs,hv,hp⟩:=h;have hq:=eS hc _ (aZ9 hv);obtain⟨a,b,c⟩:=eR hq;have ih:=aN3 hx (j::w) qs hp c;simp only[iF,hv];refine⟨yC fun p hp=>?_,by simp⟩;rcases List.mem_or_eq_of_mem_set hp with hp|rfl
  ·exact eS hc p hp
  ·have e:∀qs:List Pt,jS env (.mk 1 n qs)=if(aM env n).2.2=false then 9 else if(qs.length:Int)=(aM env n).2.1 then cD env qs else 6:=fun qs=>by
    rw[jS,if_neg aB,if_pos rfl]
   rw[e,if_neg (by rw[a];simp),if_pos (by rw[ih.2];exact b)];exact ih.1
theorem PathV.ok {env:List Dc} (hfl:∀n,(aM env n).2.1<=1048576):∀ {w:List Int} {vs:List Pt},PathV w vs->vs.length<=1048576->cD env vs=0->aG3 w vs
 |[],_,h,_,_=>h.elim
 |[i],vs,h,hl,_=>⟨hl,h.1,by obtain⟨v,hv,_⟩:=h.2;exact(aYv.1 hv).1⟩
 |i::j::w,vs,h,hl,hc=>by
  obtain⟨h0,n,qs,hv,hp⟩:=h;obtain⟨a,b,c⟩:=eR (eS hc _ (aZ9 hv));have:=hfl n;exact⟨hl,h0,1,n,qs,hv,hp.ok hfl aB c⟩
theorem iB {l:List Int} (h:aT l=0):∀e∈l,e=0:=by
 induction l with
 |nil=>intro e he;cases he
 |cons x l ih=>
  simp only[aT] at h
  by_cases c:x=0
  ·rw[if_pos c] at h;intro e he;rcases aZg.1 he with rfl|he
   ·exact c
   ·exact ih h e he
  ·rw[if_neg c] at h;exact absurd h c
theorem aMm {env:List Dc} {d:Dc} (h:dnZ env d=0):∀(j:Nat)(s:List UInt8),(bE d)[j]?=some s->dH s env 0=none/\s∉(bE d).take j:=by
 intro j s hs;have hj:=(aYv.1 hs).1;have:=iB h (dnE env (bE d) j) (aZq.2 ⟨j,bA5.2 hj,rfl⟩);unfold dnE at this;rw[hs] at this;simp only at this;split at this
 ·exact absurd this aD
 ·split at this
  ·exact absurd this aD
  ·rename_i hc;rw[not_or] at hc;exact⟨by simpa using hc.1,hc.2⟩
theorem wI {s:List UInt8} :∀ {env:List Dc} {i:Nat},dH s env i=none->∀d∈env,s∉bE d
 |[],_,_,d,hd=>by cases hd
 |x::env,i,h,d,hd=>by
  simp only[dH] at h;split at h
  ·cases h
  ·rename_i hx;rcases aZg.1 hd with rfl|hd
   ·exact hx
   ·exact wI h d hd
theorem aVk {env:List Dc} (h:aOt env) {j:Nat} {d:Dc} (hg:env[j]?=some d):dnZ (env.take j) d=0:=by
 have h0:=h j d hg;unfold oC at h0;split at h0
 ·simp at h0
 split at h0
 ·simp at h0
 split at h0
 ·exact y6g
 split at h0
 ·exact y6g
 rename_i hc;simpa using hc
theorem aL6 (d:Dc)(a:Int) {s:List UInt8} :∀(l:List Ct)(i j:Nat)(c:Ct),l[j]?=some c->c.nm=s->(∀x∈l.take j,x.nm≠s)->nU d a s l i=some ⟨4,a,((i+j:Nat):Int),d.ps,c.ty⟩
 |[],_,_,_,h,_,_=>by simp at h
 |x::l,i,0,c,h,hn,_=>by
  simp at h;subst h;simp only[nU,if_pos hn];simp
 |x::l,i,j+1,c,h,hn,hne=>by
  simp only[nU];rw[if_neg (hne x aA),aL6 d a l (i+1) j c (by simpa using h) hn (fun y hy=>hne y (by simp[hy]))];simp;omega
theorem wC {env:List Dc} (hf:aP env) {i:Nat} {d:Dc} (hg:env[i]?=some d)(hk:d.k=3) {j:Nat} {c:Ct} (hc:d.cs[j]?=some c):gS env c.nm=(d,(j:Int),true):=by
 have hdn:=aVk hf.2 hg;have hj:=(aYv.1 hc).1
 have hnz:bE d=d.nm::(d.cs.map Ct.nm++[d.nm++aJf]):=by
  unfold bE;rw[if_neg aB,if_pos hk]
 have hat:(bE d)[j+1]?=some c.nm:=by
  rw[hnz];simp only[aZr];rw[aZ8 (by simpa using hj),bB3,hc];rfl
 obtain⟨h1,h2⟩:=aMm hdn (j+1) c.nm hat;have hz:dH c.nm env 0=some (rL d i c.nm):=aBh (fun x hx=>wI h1 x hx) hg (aZ9 hat);rw[hnz,aZu] at h2;simp only[aZg,not_or] at h2
 have h3:∀x∈d.cs.take j,x.nm≠c.nm:=by
  intro x hx e;refine h2.2 ?_;rw[aZw (by simp;omega),<-List.map_take];exact aZq.2 ⟨x,hx,e⟩
 have he:rL d i c.nm=⟨4,i,j,d.ps,c.ty⟩:=by
  unfold rL;rw[if_neg aB,if_pos hk,if_neg h2.1,aL6 d i d.cs 0 j c hc rfl h3];simp
 unfold gS;rw[hz,he];simp[hg]
theorem qS {env:List Dc} (hf:aP env) {n:List UInt8} (hn:(aM env n).2.2=true) {j:Nat} {c:Ct} (hc:(aM env n).1.cs[j]?=some c):aM env c.nm=((aM env n).1,oH (aM env n).1 j,true):=by
 have hz:(gS env n).2.2=true/\0<=(gS env n).2.1:=by
  unfold aM at hn
  by_cases h:(gS env n).2.2=true/\0<=(gS env n).2.1
  ·exact h
  ·rw[if_neg h] at hn;cases hn
 have hd:(aM env n).1=(gS env n).1:=by unfold aM;rw[if_pos hz]
 rw[hd] at hc⊢;rcases fF hf n with e|⟨d,a,e,hm,hk,_,_⟩
 ·rw[e] at hz;cases hz.1
 ·rw[e] at hc⊢;simp only at hc⊢;obtain⟨i,hi⟩:=bAl hm;have:=wC hf hi hk hc;unfold aM;rw[this];simp
open Go Go.AI
def aKh (rec:List Pt->Bool)(d:Dc)(w:List Int)(v:List Pt)(j:Nat):Bool:=match d.cs[j]? with
 |some c=>rec (iF w v (mG c.nm (oH d j).toNat))
 |none=>true
def aRw (rec:List Pt->Bool)(env:List Dc)(v:List Pt):List Cl->Bool
 |[]=>false
 |c::cs=>if(bI 0 c.ps v).v=0 then true else if(bI 0 c.ps v).v=1 then aRw rec env v cs
  else bB (aKh rec (aM env (bI 0 c.ps v).n).1 (bI 0 c.ps v).w v) (aM env (bI 0 c.ps v).n).1.cs.length
def aIi (env:List Dc)(cls:List Cl):Nat->List Pt->Bool
 |0,_=>false
 |n+1,v=>aRw (aIi env cls n) env v cls
theorem sW (rec:List Pt->Bool)(env:List Dc)(v:List Pt):∀(cs:List Cl)(j:Nat),(∀c∈cs.take j,(bI 0 c.ps v).v=1)->aRw rec env v cs=aRw rec env v (cs.drop j)
 |cs,0,_=>by simp
 |[],j+1,_=>by simp
 |c::cs,j+1,h=>by
  have h1:=h c aA;simp only[aRw,bB4];rw[if_neg aB,if_pos h1];exact sW rec env v cs j fun x hx=>h x (by simp[hx])
theorem aVf:∀(i:Nat)(p v:Pt),(pK i p v).v=0\/(pK i p v).v=1\/(pK i p v).v=2:=by
 have key:∀(N:Nat) (p:Pt),p.size<=N->∀i v,(pK i p v).v=0\/(pK i p v).v=1\/(pK i p v).v=2:=by
  intro N
  induction N with
  |zero=>intro p hp;have:=p.size_pos;omega
  |succ N ih=>
   have lst:∀(l:List Pt),Pt.sizes l<=N->∀i vs,(bI i l vs).v=0\/(bI i l vs).v=1\/(bI i l vs).v=2:=by
    intro l
    induction l with
    |nil=>intro _ i vs;simp[bI]
    |cons p l ihl=>
     intro hl i vs;simp only[Pt.sizes] at hl
     cases vs with
     |nil=>simp[bI]
     |cons v vs=>
      simp only[bI];split
      ·exact ihl aB _ _
      ·exact ih p aB _ _
   intro p hp i v;obtain⟨k,n,qs⟩:=p;simp only[Pt.size] at hp;simp only[pK];split
   ·split
    ·split
     ·exact lst qs aB 0 v.args
     ·simp
    ·simp
   ·simp
 exact fun i p v=>key p.size p (aYw _) i v
theorem aT7 (i:Nat):∀(l vs:List Pt),(bI i l vs).v=0\/(bI i l vs).v=1\/(bI i l vs).v=2:=by
 intro l
 induction l generalizing i with
 |nil=>intro vs;simp[bI]
 |cons p l ih=>
  intro vs
  cases vs with
  |nil=>simp[bI]
  |cons v vs=>
   simp only[bI];split
   ·exact ih _ _
   ·exact aVf _ _ _
theorem PathC.name {env:List Dc} {nm:List UInt8} :∀ {w:List Int} {l vs:List Pt},PathC nm w l vs->cD env l=0->(aM env nm).2.2=true
 |[],_,_,h,_=>h.elim
 |[i],l,vs,h,hc=>by
  obtain⟨_,qs,v,h1,_,_⟩:=h;exact(eR (eS hc _ (aZ9 h1))).1
 |i::j::w,l,vs,h,hc=>by
  obtain⟨_,n,qs,ws,h1,_,hp⟩:=h;exact hp.name (eR (eS hc _ (aZ9 h1))).2.2
theorem aTt {env:List Dc} {n:List UInt8} (h:(aM env n).2.2=true)(h0:0<=(aM env n).2.1):jS env (mG n (aM env n).2.1.toNat)=0:=by
 unfold mG;rw[jS,if_neg aB,if_pos rfl,if_neg (by rw[h];simp),if_pos (by simp;omega)];exact yC fun p hp=>by rw[(bBo.1 hp).2];simp[aA1,jS]
theorem yM (d:Dc)(j:Nat):0<=oH d j:=by
 unfold oH;split
 ·unfold aOp;split<;>omega
 ·omega
structure CovOk (env:List Dc) (cls:List Cl) (v:List Pt):Prop where
 cl:cls.length<=1048576
 cs:∀c∈cls,cD env c.ps=0/\Pt.sizes c.ps<=1048576/\c.ps.length=v.length
 vl:v.length<=1048576
 vc:cD env v=0
theorem CovOk.put {env:List Dc} {cls:List Cl} {v:List Pt} (h:CovOk env cls v)(hf:aP env) {c:Cl} (hc:c∈cls) {nm:List UInt8} {w:List Int} (hp:PathC nm w c.ps v) {j:Nat} {x:Ct} (hx:(aM env nm).1.cs[j]?=some x):
  CovOk env cls (iF w v (mG x.nm (oH (aM env nm).1 j).toNat))/\pT cls (iF w v (mG x.nm (oH (aM env nm).1 j).toNat))<pT cls v:=by
 have hn:=hp.name (env:=env) (h.cs c hc).1;have hff:=qS hf hn hx;have hnew:=aTt (env:=env) (n:=x.nm) (by rw[hff]) (by rw[hff];exact yM _ _);rw[hff] at hnew;obtain⟨h1,h2⟩:=aN3 hnew w v hp.v h.vc;exact⟨⟨h.cl,fun c hc=>by rw[h2];exact h.cs c hc,by rw[h2];exact h.vl,h1⟩,aHk _ _ hc hp⟩
theorem aT8 {l vs:List Pt} (h:(bI 0 l vs).v=2):PathC (bI 0 l vs).n (bI 0 l vs).w l vs:=by
 obtain⟨i,w,h1,h2,h3⟩:=sQ 0 l vs (bI 0 l vs).w (bI 0 l vs).n (by cases hc:bI 0 l vs;rw[hc] at h;simp at h;simp[h]);rw[h1];simpa using h3
end Go.Proofs.YtcfcolkbeelegaaGreat
