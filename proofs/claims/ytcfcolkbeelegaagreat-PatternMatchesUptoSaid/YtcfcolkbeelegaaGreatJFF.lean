import Derived.Test.YtcfcolkbeelegaaGreatJA0
import Derived.Test.YtcfcolkbeelegaaGreatJFD
namespace Go.AI
open Go
def buf (sz:Nat)(es:List (List PV))(m:Nat):List AV:=es.flatten.map .p++List.replicate (m*sz) .junk
theorem RepL.junks {E w} :∀(l:List Value),RepL E w (List.replicate l.length .junk) l
 |[]=>by simp[RepL]
 |v::l=>by simp only[aZ1,bA2,RepL];exact⟨v,l,rfl,by simp only[Rep],RepL.junks l⟩
theorem kQ {sz:Nat} {es:List (List PV)} {m:Nat} (h:∀e∈es,e.length=sz):(buf sz es m).length=(es.length+m)*sz:=by
 unfold buf;rw[aZ4,aZo,aV h,List.length_replicate,bB2]
theorem bT (n sz:Nat)(es:List (List PV))(m:Nat):AV.underL n (buf sz es m)=true:=by
 have hj:∀k,AV.underL n (List.replicate k .junk)=true:=by
  intro k
  induction k with
  |zero=>simp[AV.underL]
  |succ k ih=>simp only[bA2,AV.underL,AV.under,ih];rfl
 have ha:∀(xs ys:List AV),AV.underL n xs=true->AV.underL n ys=true->AV.underL n (xs++ys)=true:=by
  intro xs ys h1 h2
  induction xs with
  |nil=>exact h2
  |cons x xs ih=>simp only[AV.underL,aZ7,aYy] at h1⊢;exact⟨h1.1,ih h1.2⟩
 refine ha _ _ ?_ (hj _);generalize es.flatten=l
 induction l with
 |nil=>simp[AV.underL]
 |cons x l ih=>simp only[aZc,AV.underL,AV.under,ih];rfl
theorem aT1 {sz:Nat} {es ys:List (List PV)} {m:Nat} (h:∀e∈es,e.length=sz)(hy:∀e∈ys,e.length=sz)(hm:ys.length<=m):
  patch (buf sz es m) (es.length*sz) (ys.flatten.map .p)=buf sz (es++ys) (m-ys.length):=by
 have hle:(ys.flatten.map AV.p).length=ys.length*sz:=by rw[aZo,aV hy]
 have h1:(es.flatten.map AV.p).length=es.length*sz:=by rw[aZo,aV h]
 have hsp:m*sz=ys.length*sz+(m-ys.length)*sz:=by rw[<-bB2];congr 1;omega
 unfold buf;rw[<-h1,<-bB6 ((es.flatten.map AV.p).length),jI,hsp,<-List.replicate_append_replicate,dV _ _ _ (by rw[hle,List.length_replicate]),bB9,aZx,aZi]
section
variable {P:Program} {rd:Option Nat} {nb:Nat} {k:List It} {T:List AV} {h:Heap} {D:List AD} {Q:AX->List AV->Heap->List AD->Prop} {all:Array Oper} {o:Oper} {rest:List Oper}
theorem qB (b:List Oper):∀(l:List Oper)(T:List AV)(h:Heap),eA P all (fun l T h=>Run P rd nb (.ops all (l++b)::k) T h D Q) l T h->Run P rd nb (.ops all (l++b)::k) T h D Q
 |[],T,h,r=>r
 |o::l,T,h,r=>by
  simp only[eA] at r;split at r
  ·rename_i hw;split at r
   ·rename_i x h' ho;exact Run.op hw ho (qB b l _ _ r)
   ·exact r
  ·rename_i hw;exact Run.off hw (qB b l _ _ r)
  ·exact r
theorem Run.opsPre (n:Nat) {l:List Oper} (r:∀K:List Oper->List AV->Heap->Prop,(∀l' T h,Run P rd nb (.ops all (l'++l.drop n)::k) T h D Q->K l' T h)->eA P all K (l.take n) T h):Run P rd nb (.ops all l::k) T h D Q:=by
 have:=qB (P:=P) (rd:=rd) (nb:=nb) (all:=all) (k:=k) (D:=D) (Q:=Q) (l.drop n) (l.take n) T h (r _ fun _ _ _ h=>h)
 rwa [bA4] at this
theorem Run.opR {R:AV->Heap->Prop} (hw:aJ all T o=some true)(hnd:∀c,o.op≠ .defer c)
  (ho:∀E w a,St E w a T h D->∃x h' E' w' v,R x h'/\(execOp a.eval o).run P w= .ok (.value v) w'/\Rel E' (Heap.at h') w'/\Fresh E' h'.length/\Rep E' w' x v/\Fr E (Heap.at h) w E' (Heap.at h') w')
  (r:∀x h',R x h'->Run P rd nb (.ops all rest::k) (tput T o.dst x) h' D Q):Run P rd nb (.ops all (o::rest)::k) T h D Q:=by
 intro E w a s;obtain⟨x,h',E',w',v,hR,hrun,hr,hf,hx,hfr⟩:=ho E w a s;have s':St E' w' (a.put o.dst v) (tput T o.dst x) h' D:=(s.move hfr hr hf).put hx o.dst;have:=r x h' hR E' w' _ s';have hk:=dQ (P:=P) (rd:=rd) (Post.of_fr (Q:=Q) hfr) (.ops all rest::k) _ _ _ this;show wpListIn (fen rd) 0 P all (K P rd (Post nb Q E h w) k) (o::rest) a w;refine yu ?_;refine⟨fun _ _=>trivial,?_⟩;rw[Oper.semAt_eq _ _ _ hnd,hrun];exact hk
theorem aNf {E:Env} {w:World} {sz c':Nat} {es:List (List PV)} {vals zs:List Value} {e:TypeId} (r:Rel E h.at w)(hf:Fresh E h.length)(hv:RepL E w (es.flatten.map .p) vals)(hz:zs.length=(c'-es.length)*sz):
  ∃E',Rel E' (Heap.at (h++[some (.cells (buf sz es (c'-es.length)))])) (w.drew.alloc (.cells (List.toArray (vals++zs)) e (0,0)))/\Fresh E' (h.length+1)/\
   Fr E h.at w E' (Heap.at (h++[some (.cells (buf sz es (c'-es.length)))])) (w.drew.alloc (.cells (List.toArray (vals++zs)) e (0,0)))/\E'.g h.length=some w.heap.size:=by
 have hb:RepL E w.drew (buf sz es (c'-es.length)) (vals++zs):=by
  unfold buf;refine RepL.append (RepL.ext (E:=E) (w:=w) (E':=E) (w':=w.drew) ⟨fun _ _ h=>h,fun _ _ _=>rfl,fun _ _ h=>h,fun _ L h=>⟨L,h,aYw _,fun _=>rfl⟩⟩ hv) ?_;rw[<-hz];exact RepL.junks zs
 have hd:=r.of_heap (w':=w.drew) rfl rfl rfl;obtain⟨h1,h2,h3⟩:=hd.1.alloc hf hb e;exact⟨_,h1,h3,hd.2.trans h2,if_pos rfl⟩
theorem hY {a:Act} {s x:Operand} {t:TypeId} {v:Value} {w w':World} (ho:o.op= .call ⟨.builtin .append,#[s,x],#[t,t]⟩)(hrun:(Builtin.append_ #[t,t] o.type #[a.eval s,a.eval x]).run P w= .ok v w'):
  (execOp a.eval o).run P w= .ok (.value v) w':=by
 simp only[execOp,ho,resolve,Sem.run_bind,Sem.run_pure,Result.andThen_ok,invoke];simp[builtin,hrun]
theorem Run.appendN {s x:Operand} {t e:TypeId} {ys:List (List PV)} {sz by_:Nat} {z:List Value} (ho:o.op= .call ⟨.builtin .append,#[s,x],#[t,t]⟩)(hw:aJ all T o=some true)(he:elT P t=some e)(hsz:szT P e=some sz)(hby:byT P e=some by_)(hz:bZ P e=some z)
  (hs:aev T s= .p (.prim (.slice none 0 0))) (hx:aKc (aev T x)=some ys) (hx2:qD sz (aev T x)=true) (hpos:0<ys.length) (hb:ys.length*by_<=140737488355328) (hb2:ys.length<=9223372036854775807)
  (r:∀c',ys.length<=c'->Run P rd nb (.ops all rest::k) (tput T o.dst (.sm h.length 0 ys.length c' sz)) (h++[some (.cells (buf sz ys (c'-ys.length)))]) D Q):Run P rd nb (.ops all (o::rest)::k) T h D Q:=by
 refine Run.opR (R:=fun x h'=>∃c',ys.length<=c'/\x= .sm h.length 0 ys.length c' sz/\h'=h++[some (.cells (buf sz ys (c'-ys.length)))]) hw (fun c hc=>by rw[hc] at ho;cases ho) ?_ (by rintro x h' ⟨c',h1,rfl,rfl⟩;exact r c' h1);intro E w a st;exact y32
theorem Run.appendS {s x:Operand} {t e:TypeId} {es ys:List (List PV)} {id cap sz by_:Nat} {z:List Value} (ho:o.op= .call ⟨.builtin .append,#[s,x],#[t,t]⟩)(hw:aJ all T o=some true)(he:elT P t=some e)(hsz:szT P e=some sz)(hby:byT P e=some by_)(hz:bZ P e=some z)
  (hs:aev T s= .sm id 0 es.length cap sz) (hid:h.at id=some (.cells (buf sz es (cap-es.length)))) (hes:∀e∈es,e.length=sz) (hcap:es.length<=cap) (hx:aKc (aev T x)=some ys) (hx2:qD sz (aev T x)=true) (hpos:0<ys.length)
  (hb:(es.length+ys.length)*by_<=140737488355328) (hb2:es.length+ys.length<=9223372036854775807)
  (r1:es.length+ys.length<=cap->Run P rd nb (.ops all rest::k) (tput T o.dst (.sm id 0 (es.length+ys.length) cap sz)) (h.set id (some (.cells (buf sz (es++ys) (cap-(es.length+ys.length)))))) D Q)
  (r2:∀c',es.length+ys.length<=c'->Run P rd nb (.ops all rest::k) (tput T o.dst (.sm h.length 0 (es.length+ys.length) c' sz)) (h++[some (.cells (buf sz (es++ys) (c'-(es.length+ys.length))))]) D Q):Run P rd nb (.ops all (o::rest)::k) T h D Q:=by
 refine Run.opR (R:=fun x h'=>(es.length+ys.length<=cap/\x= .sm id 0 (es.length+ys.length) cap sz/\h'=h.set id (some (.cells (buf sz (es++ys) (cap-(es.length+ys.length))))))\/
   ∃c',es.length+ys.length<=c'/\x= .sm h.length 0 (es.length+ys.length) c' sz/\h'=h++[some (.cells (buf sz (es++ys) (c'-(es.length+ys.length))))]) hw (fun c hc=>by rw[hc] at ho;cases ho) ?_
  (by rintro x h' (⟨h1,rfl,rfl⟩|⟨c',h1,rfl,rfl⟩)
      ·exact r1 h1
      ·exact r2 c' h1)
 intro E w a st;have hsr:=aS st s;rw[hs] at hsr;simp only[Rep] at hsr;obtain⟨g,hg,hsv⟩:=hsr;have hX:=qE hx hx2 (aS st x);simp only[RepP] at hX;obtain⟨ad,cx,hxv,_,hX⟩:=hX;have hne:ys≠[]:=by intro h0;rw[h0] at hpos;simp at hpos
 obtain⟨b,off,rfl,hr⟩:=hX.resolve_left hne;have hu:=nP he;obtain⟨i,zv,hi,hzv,hzc,hzl,_⟩:=bV hz;have hisz:i.size=sz:=by unfold szT at hsz;rw[hi] at hsz;simpa using hsz
 have hiby:i.bytes=by_:=by unfold byT at hby;rw[hi] at hby;simpa using hby
 have hyl:=hr.length;obtain⟨news,n1,n2,n3⟩:=hr.values;obtain⟨g',cur,hg',hrow,hreps⟩:=st.rel.objs id _ hid;rw[hg] at hg';cases hg';have hcl:=hreps.length;rw[kQ hes] at hcl;have hmul:(es.length+(cap-es.length))*sz=cap*sz:=by congr 1;omega
 have hadd:(es.length+ys.length)*sz=es.length*sz+ys.length*sz:=bB2 _ _ _
 by_cases hroom:es.length+ys.length<=cap
 ·exact y36
 ·exact y2w
theorem Run.freezeS (slot:Nat) {id n cap sz m:Nat} {es:List (List PV)} (hs:nO T slot= .sm id 0 n cap sz)(hat:h.at id=some (.cells (buf sz es m)))(hes:∀e∈es,e.length=sz)(hn:es.length=n)(hcap:n<=cap)
  (r:Run P rd nb k (T.set slot (.p (.sl sz es))) (h.set id none) D Q):Run P rd nb k T h D Q:=by
 intro E w a s;have hv:=s.tmps.get slot;rw[<-fD,hs] at hv;simp only[Rep] at hv;obtain⟨b,hg,hv⟩:=hv;obtain⟨b',vals,hg',hrow,hreps⟩:=s.rel.objs id _ hat;rw[hg] at hg';cases hg';obtain⟨f1,f2⟩:=s.rel.freeze hat hg;have s':=s.move f2 f1 (fun i hi=>s.fresh i (by simpa using hi));have hel:(es.flatten.map AV.p).length=es.length*sz:=by rw[aZo,aV hes]
 have hx:Rep {E with ro:=fun b' off=>E.ro b' off\/b'=b} w (.p (.sl sz es)) (.slice (some ⟨b,0,none⟩) n cap):=by
  exact y49
 have hset:=s'.tmps.set hx slot
 have hsame:(a.tmps.toList).set slot (.slice (some ⟨b,0,none⟩) n cap)=a.tmps.toList:=by
  exact y5w
 exact y7c
end
open Go
section
variable {P:Program} {rd:Option Nat} {nb:Nat} {k:List It} {T:List AV} {h:Heap} {D:List AD} {Q:AX->List AV->Heap->List AD->Prop} {all:Array Oper} {o:Oper} {rest:List Oper}
theorem Run.nilEq {x:Operand} {t e ty:TypeId} {sz:Nat} {es:List (List PV)} (ho:o.op= .binOp .eql t x (.const (.slice none 0 0)) ty)(hu:P.underlying t=some (.slice e))(hw:aJ all T o=some true)(hx:aev T x= .p (.sl sz es))
  (r:∀b,(b=true->es=[])->Run P rd nb (.ops all rest::k) (tput T o.dst (.p (.prim (.bool b)))) h D Q):Run P rd nb (.ops all (o::rest)::k) T h D Q:=by
 refine Run.opR (R:=fun y h'=>h'=h/\∃b,y= .p (.prim (.bool b))/\(b=true->es=[])) hw (fun c hc=>by rw[hc] at ho;cases ho) ?_ (by rintro y h' ⟨rfl,b,rfl,hb⟩;exact r b hb);intro E w a st;have hxr:=aS st x;rw[hx] at hxr;simp only[Rep,RepP] at hxr;obtain⟨ad,cap,hv,_,hes⟩:=hxr
 have h1:∀d (s:Option Addr) n c,(Op.equalIn (d+1) t (.slice s n c) (.slice none 0 0)).run P w= .ok s.isNone w:=by
  intro d s n c
  cases s with
  |none=>simp only[Op.equalIn,Sem.run_bind,run_underlying hu,Result.andThen_ok];rfl
  |some s=>simp only[Op.equalIn,Sem.run_bind,run_underlying hu,Result.andThen_ok];rfl
 have h2:∀(s:Option Addr) n c,(Op.equal t (.slice s n c) (.slice none 0 0)).run P w= .ok s.isNone w:=h1 9999
 have e1:∀(s:Option Addr) n c,(do eqGuard .eql t x (.const (.slice none 0 0)) (.slice s n c) (.slice none 0 0);binOp .eql t (.slice s n c) (.slice none 0 0):Sem Value).run P w= .ok (.bool s.isNone) w:=by
  intro s n c
  have g1:(eqGuard .eql t x (.const (.slice none 0 0)) (.slice s n c) (.slice none 0 0)).run P w= .ok () w:=by
   unfold eqGuard;rfl
  simp[g1,binOp,h2]
 refine⟨_,h,E,w, .bool ad.isNone,⟨rfl,ad.isNone,rfl,fun hn=>?_⟩,?_,st.rel,st.fresh,by simp[Rep,RepP,bH],Fr.refl _ _ _⟩
 ·rcases hes with h0|⟨b,off,rfl,_⟩
  ·exact h0
  ·simp at hn
 ·simp only[execOp,ho,hv];rw[Sem.run_bind,show a.eval (.const (.slice none 0 0))= .slice none 0 0 from rfl,e1]
  rfl
theorem Run.build0 {t e:TypeId} {sz:Nat} (ho:o.op= .buildSlice t 0 #[])(he:elT P t=some e)(hsz:szT P e=some sz)(hw:aJ all T o=some true)
  (r:Run P rd nb (.ops all rest::k) (tput T o.dst (.sm h.length 0 0 0 sz)) (h++[some (.cells (buf sz [] 0))]) D Q):Run P rd nb (.ops all (o::rest)::k) T h D Q:=by
 refine Run.opR (R:=fun y h'=>y= .sm h.length 0 0 0 sz/\h'=h++[some (.cells (buf sz [] 0))]) hw (fun c hc=>by rw[hc] at ho;cases ho) ?_ (by rintro y h' ⟨rfl,rfl⟩;exact r);intro E w a st;have hb:buf sz [] 0=[]:=by simp[buf]
 obtain⟨h1,h2,h3⟩:=st.rel.alloc st.fresh (cs:=buf sz [] 0) (vs:=[]) (by rw[hb];simp[RepL]) e;refine⟨_,_,_,_, .slice (some ⟨w.heap.size,0,none⟩) 0 0,⟨rfl,rfl⟩,?_,h1,by simpa using h3,?_,h2⟩
 ·have hrun:(Instr.buildSlice t 0 #[]).run P w= .ok (.slice (some ⟨w.heap.size,0,none⟩) 0 0) (w.alloc (.cells (List.toArray []) e (0,0))):=by
   unfold Instr.buildSlice;simp only[Sem.run_bind,nL he,Result.andThen_ok,fL hsz,Nat.zero_mul];simp[Instr.fill,newRow,show Array.range 0=#[] from rfl]
  simp only[execOp,ho];rw[Sem.run_bind,show(Array.map (fun p:Nat×Operand=>(p.1,a.eval p.2)) #[])=#[] from by simp,hrun]
  rfl
 ·simp only[Rep];exact⟨_,by simp,rfl⟩
theorem Run.appendZ {s x:Operand} {t e:TypeId} {sz sz':Nat} {es:List (List PV)} {z:List Value} (ho:o.op= .call ⟨.builtin .append,#[s,x],#[t,t]⟩)(hw:aJ all T o=some true)(he:elT P t=some e)(hz:bZ P e=some z)
  (hs:aev T s= .p (.sl sz es)) (hx:aev T x= .p (.sl sz' [])) (r:Run P rd nb (.ops all rest::k) (tput T o.dst (.p (.sl sz es))) h D Q):Run P rd nb (.ops all (o::rest)::k) T h D Q:=by
 refine Run.opR (R:=fun y h'=>y= .p (.sl sz es)/\h'=h) hw (fun c hc=>by rw[hc] at ho;cases ho) ?_ (by rintro y h' ⟨rfl,rfl⟩;exact r);intro E w a st;have hsr:=aS st s;have hsr':=hsr;rw[hs] at hsr hsr';simp only[Rep,RepP] at hsr;obtain⟨ad,cap,hv,hc,_⟩:=hsr;have hxr:=aS st x;rw[hx] at hxr;simp only[Rep,RepP] at hxr;obtain⟨ad2,cap2,hv2,_,_⟩:=hxr;obtain⟨i,_,hi,_,_,_,_⟩:=bV hz;refine⟨_,h,E,w,a.eval s,⟨rfl,rfl⟩,?_,st.rel,st.fresh,hsr',Fr.refl _ _ _⟩;refine hY ho ?_;rw[hv,hv2];exact mW (nP he) hi ad ad2 es.length cap cap2 hc
theorem Run.weakH (id:Nat) {cs cs':List AV} (hid:h.at id=some (.cells cs))(hw:WeakL cs cs')(r:Run P rd nb k T (h.set id (some (.cells cs'))) D Q):Run P rd nb k T h D Q:=by
 intro E w a s;obtain⟨b,vals,hg,hrow,hreps⟩:=s.rel.objs id cs hid;obtain⟨g1,g2⟩:=s.rel.writeO hid rfl (o':= .cells cs') rfl hg (fun _=>⟨vals,hrow,hw E w vals hreps⟩) (fun _ _=>rfl) rfl rfl rfl;exact dQ (P:=P) (rd:=rd) (Post.of_fr (Q:=Q) g2) k _ _ _ (r E w a (s.move g2 g1 (by simpa using s.fresh)))
theorem Run.regPre {id:Nat} (n:Nat) {l:List Oper} (r:∀K:List Oper->List AV->Heap->Prop,(∀l' T h,Run P rd nb (.ops l.toArray (l'++l.drop n)::k) T h D Q->K l' T h)->eA P l.toArray K (l.take n) T h):Run P rd nb (.code (.region id l.toArray false)::k) T h D Q:=
 Run.region (Run.opsPre n r)
end
theorem aLo {sz:Nat} :∀ {es:List (List PV)} {k:Nat} (rest:List AV),(∀e∈es,e.length=sz)->(hk:k<es.length)->((es.flatten.map AV.p++rest).drop (k*sz)).take sz=(es[k]).map .p
 |[],k,rest,h,hk=>by simp at hk
 |e::es,0,rest,h,hk=>by
  have he:=h e aA;simp only[Nat.zero_mul,List.drop_zero,List.getElem_cons_zero,bA9,aZx,aZi];rw[aZw (by simp[he])];exact aZ6 (by simp[he])
 |e::es,k+1,rest,h,hk=>by
  have he:=h e aA;have ih:=aLo (es:=es) (k:=k) rest (fun x hx=>h x (bAq _ hx)) (by simpa using hk);simp only[List.getElem_cons_succ,bA9,aZx,aZi];rw[show(k+1)*sz=(e.map AV.p).length+k*sz by rw[aZo,he,bBl];omega,<-List.drop_drop,List.drop_left];exact ih
theorem aKw {sz:Nat} {es:List (List PV)} {m k:Nat} (h:∀e∈es,e.length=sz)(hk:k<es.length):((buf sz es m).drop (k*sz)).take sz=(es[k]).map .p:=aLo _ h hk
theorem uG {α:Type} :∀(us l r:List α)(off:Nat),off+us.length<=l.length->patch (l++r) off us=patch l off us++r
 |[],l,r,off,_=>rfl
 |u::us,l,r,off,h=>by
  simp only[aZ1] at h;simp only[patch];rw[aZp _ _ aB];exact uG us (l.set off u) r (off+1) (by rw[bAt];omega)
theorem buf_set {sz:Nat} {es:List (List PV)} {m k:Nat} {e:List PV} (h:∀e∈es,e.length=sz)(hk:k<es.length)(he:e.length=sz):patch (buf sz es m) (k*sz) (e.map .p)=buf sz (es.set k e) m:=by
 have hle:(k+1)*sz<=es.length*sz:=bAj _ aB;rw[bBl] at hle;unfold buf;rw[uG _ _ _ _ (by rw[aZo,aZo,aV h,he];omega),<-kW,oG sz es k e h he hk]
end Go.AI
