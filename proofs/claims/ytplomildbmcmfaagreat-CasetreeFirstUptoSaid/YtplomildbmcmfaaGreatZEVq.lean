import Derived.Test.YtplomildbmcmfaaGreatZA0
import Derived.Test.YtplomildbmcmfaaGreatZFS
import Derived.Scope
namespace Go.AI
open Go
section
variable {P:Program} {rd:Option Nat} {nb:Nat} {k:List It} {T:List AV} {h:Heap} {D:List AD} {Q:AX->List AV->Heap->List AD->Prop} {all:Array Oper} {o:Oper} {rest:List Oper}
theorem Rel.forget {E:Env} {h:Heap} {w:World} (r:Rel E h.at w) {id:Nat} :Rel E (Heap.at (h.set id none)) w/\Fr E h.at w E (Heap.at (h.set id none)) w:=by
 have hat:∀id' o,Heap.at (h.set id none) id'=some o->h.at id'=some o:=by
  intro id' o e;unfold Heap.at at e⊢
  by_cases e':id=id'
  ·subst e';rw[List.getElem?_set_self'] at e
   cases hh:h[id]?<;>simp[hh] at e
  ·rwa [bMl e'] at e
 have hO:∀id' b',fG E (Heap.at (h.set id none)) id' b'->fG E h.at id' b':=by
  intro id' b' ho;rcases ho with ⟨c,h1,h3,h2⟩|⟨c,x,c',m,h1,hk,h2⟩
  ·exact .inl ⟨c,hat _ _ h1,h3,h2⟩
  ·exact .inr ⟨c,x,c',m,hat _ _ h1,hk,h2⟩
 exact⟨⟨fun id' c hc hm=>r.objsO id' c (hat _ _ hc) hm,fun id' c n sz k cs hc hk=>r.toks id' c n sz k cs (hat _ _ hc) hk,fun i i' b' h1 h2=>r.inj i i' b' (hO _ _ h1) (hO _ _ h2),fun id' c b' off hc hm=>r.sepO id' c b' off (hat _ _ hc) hm,
  fun id' c n sz k cs b' c' m off hc=>r.sepT id' c n sz k cs b' c' m off (hat _ _ hc),r.lt⟩,
  ⟨fun _ _ _=>rfl,Ext.refl _ _,fun _ _ h=> .inl h,bLx _,fun b' ⟨i,ho⟩=> .inl ⟨i,hO _ _ ho⟩,Kp.refl w⟩⟩
theorem flat_rep {E w} {es ys:List (List PV)} {vs us:List Value} (h1:RepL E w (es.flatten.map .p) vs)(h2:RepL E w (ys.flatten.map .p) us):RepL E w ((es++ys).flatten.map .p) (vs++us):=by
 rw[bOa,bMy];exact h1.append h2
theorem vec_fresh {E:Env} {id b c n:Nat} {R:Nat->Nat->Prop} {o:Option AO} (hf:Fresh E h.length)(hlt:id<h.length):
  Fresh {E with ro:=R,t:=fun j=>if j=id then some ⟨some b,c,n⟩ else E.t j} (h.set id o).length:=by
 intro j hj;exact y6c
theorem Run.appendV {s x:Operand} {t e:TypeId} {es ys:List (List PV)} {id sz by_:Nat} {z:List Value} (ho:o.op= .call ⟨.builtin .append,#[s,x],#[t,t]⟩)(hw:awanted all T o=some true)(he:elT P t=some e)(hsz:szT P e=some sz)(hby:byT P e=some by_)(hz:aS P e=some z)
  (hs:aev T s= .vec id es.length) (hid:h.at id=some (.vec sz es)) (hes:∀e∈es,e.length=sz) (hx:sI (aev T x)=some ys) (hx2:srcSz sz (aev T x)=true) (hpos:0<ys.length)
  (hb:(es.length+ys.length)*by_<=140737488355328) (hb2:es.length+ys.length<=9223372036854775807)
  (r:Run P rd nb (.ops all rest::k) (tput T o.dst (.vec id (es.length+ys.length))) (h.set id (some (.vec sz (es++ys)))) D Q):Run P rd nb (.ops all (o::rest)::k) T h D Q:=by
 refine Run.opR (R:=fun x h'=>x= .vec id (es.length+ys.length)/\h'=h.set id (some (.vec sz (es++ys)))) hw (fun c hc=>by rw[hc] at ho;cases ho) ?_ (by rintro x h' ⟨rfl,rfl⟩;exact r);intro E w a st;have hlt:=bD hid;have hsr:=aev_rep st s;rw[hs] at hsr;simp only[Rep] at hsr;obtain⟨L,hL,_,ad0,cap0,hsv,hcur⟩:=hsr;obtain⟨blk,cap,ht,k1,k2,k3⟩:=st.rel.toks id _ _ _ _ _ hid rfl;rw[hL] at ht;cases ht;obtain⟨ha0,hc0⟩:=hcur rfl;simp only at hc0;rw[ha0,hc0] at hsv;have hX:=iR hx hx2 (aev_rep st x);simp only[RepP] at hX;obtain⟨ad,cx,hxv,_,hX⟩:=hX;have hne:ys≠[]:=by intro h0;rw[h0] at hpos;simp at hpos
 obtain⟨b,off,rfl,hr⟩:=hX.resolve_left hne;have hu:=eZ he;obtain⟨i,zv,hi,hzv,hzc,hzl,_⟩:=aN hz;have hisz:i.size=sz:=by unfold szT at hsz;rw[hi] at hsz;simpa using hsz
 have hiby:i.bytes=by_:=by unfold byT at hby;rw[hi] at hby;simpa using hby
 have hyl:=hr.length;obtain⟨news,n1,n2,n3⟩:=hr.values;have hlY:(ys.flatten.map AV.p).length=ys.length*sz:=by rw[bMp,flat_length hyl]
 have hlE:(es.flatten.map AV.p).length=es.length*sz:=by rw[bMp,flat_length hes]
 have hadd:(es.length+ys.length)*sz=es.length*sz+ys.length*sz:=bO3 _ _ _;have hlA:((es++ys).flatten.map AV.p).length=(es.length+ys.length)*sz:=by rw[bOa,bMy,bM5,hlE,hlY,hadd]
 have hk':(AO.vec sz (es++ys)).tk=some (es.length+ys.length,sz,0,(es++ys).flatten.map .p):=by simp[AO.tk]
 cases blk with
 |none=>
  exact y24
 |some g=>
  obtain⟨cur,hrow,hcl,hcr⟩:=k3 g rfl;have hnro:∀off,¬E.ro g off:=fun off=>st.rel.sepT id _ _ _ _ _ g _ _ off hid rfl hL aB
  have hlec:es.length*sz<=cap*sz:=bNk _ k1;rw[hlE] at hcr
  by_cases hroom:es.length+ys.length<=cap
  ·exact y25
  ·exact y20
theorem Run.freezeV (slot:Nat) {id n sz:Nat} {es:List (List PV)} (hs:tget T slot= .vec id n)(hat:h.at id=some (.vec sz es))(hes:∀e∈es,e.length=sz)(hn:es.length=n)
  (r:Run P rd nb k (T.set slot (.p (.sl sz es))) (h.set id none) D Q):Run P rd nb k T h D Q:=by
 intro E w a s;have hv:=s.tmps.get slot;rw[<-tget_eq,hs] at hv;simp only[Rep] at hv;obtain⟨L,hL,_,ad,cap0,hv,hcur⟩:=hv;obtain⟨blk,cap,ht,k1,k2,k3⟩:=s.rel.toks id _ _ _ _ _ hat rfl;rw[hL] at ht;cases ht;subst hn;obtain⟨ha0,hc0⟩:=hcur rfl;simp only at hc0;rw[ha0,hc0] at hv
 have hset:∀ {E':Env} {x:AV},RepL E' w T a.tmps.toList->Rep E' w x (a.tmps.toList.getD slot undef)->RepL E' w (T.set slot x) a.tmps.toList:=by
  intro E' x hT hx;have hset:=hT.set hx slot
  have hsame:(a.tmps.toList).set slot (a.tmps.toList.getD slot undef)=a.tmps.toList:=by
   apply bNj;intro j;refine y1t ?_;split
   ·rename_i e;subst e;rcases bNi slot a.tmps.size with l|l
    ·simp[l]
    ·have l':¬slot<a.tmps.size:=aB;simp[l']
   ·rfl
  rwa [hsame] at hset
 cases blk with
 |none=>
  have hc0:=k2 rfl;have he0:es=[]:=bNw aB;subst he0;obtain⟨f1,f2⟩:=s.rel.forget (id:=id);have s':=s.move f2 f1 (fun i hi=>s.fresh i (by simpa using hi))
  have hx:Rep E w (.p (.sl sz [])) (.slice none 0 cap):=by
   simp only[Rep,RepP];exact⟨_,cap,rfl,k1, .inl trivial⟩
  exact y5x
 |some b=>
  obtain⟨vals,hrow,hcl,hcr⟩:=k3 b rfl;obtain⟨f1,f2⟩:=s.rel.freezeG (b:=b) hat (.inr ⟨_,_,_,_,hat,rfl,hL⟩);have s':=s.move f2 f1 (fun i hi=>s.fresh i (by simpa using hi));have hel:(es.flatten.map AV.p).length=es.length*sz:=by rw[bMp,flat_length hes]
  have hx:Rep {E with ro:=fun b' off=>E.ro b' off\/b'=b} w (.p (.sl sz es)) (.slice (some ⟨b,0,none⟩) es.length cap):=by
   simp only[Rep,RepP];refine⟨_,cap,rfl,k1, .inr ⟨b,0,rfl,?_⟩⟩;rw[hel] at hcr;refine RepEs.of_row (vs:=vals.take (es.length*sz)) hes (fun j v hj=>⟨.inr rfl,?_⟩) (hcr.ext f2.ext);rw[hrow.cell,bMw];exact y3h
  exact y5x
end
section
open Go.Shelf Go.Sort Go.Proofs
end
open Go
section
variable {P:Program} {E:Env} {w:World} {h:Heap}
theorem kK {t:TypeId} {len:Nat} {parts:List (Nat×AV)} {vals:Array (Nat×Value)} {sz:Nat} {es:List (List PV)}
  (h1:parts.map (·.1)=vals.toList.map (·.1)) (h2:RepL E w (parts.map (·.2)) (vals.toList.map (·.2)))
  (hb:eW P t len parts=some (.p (.sl sz es))):∃vs T,(∀e∈es,e.length=sz)/\RepL E w (es.flatten.map .p) vs/\(Instr.buildSlice t len vals).run P w= .ok (.slice (some ⟨w.heap.size,0,none⟩) es.length es.length) (w.alloc (.cells (List.toArray vs) T (0,0))):=by
 unfold eW at hb;split at hb
 ·rename_i e hel;split at hb
  ·rename_i sz' z hsz hz;split at hb
   ·rename_i hcond;obtain⟨hlim,hpos⟩:=hcond;simp only[bMb,AV.p.injEq,PV.sl.injEq] at hb;obtain⟨out,ho,rfl,rfl⟩:=hb;obtain⟨zv,hzr,hzc⟩:=jU (w:=w) hz;obtain⟨i,_,hi,_,_,hzl,hprim⟩:=aN hz;have hzs:z.length=sz':=by unfold szT at hsz;rw[hi] at hsz;simp at hsz;omega
    have hu0:∀e∈List.replicate len (z.map PV.prim),e.length=sz':=by
     intro e he;rw[(bOp.1 he).2];simp[hzs]
    have h30:RepL E w ((List.replicate len (z.map PV.prim)).flatten.map .p) (List.replicate len z).flatten:=by
     rw[uC];exact y3e
    obtain⟨vo,e1,e2,e3,e4⟩:=lA (E:=E) (w:=w) sz' parts vals.toList _ _ out h1 h2 hu0 h30 ho;simp only[List.length_replicate] at e4;subst e4;refine⟨vo,e,e3,e2,?_⟩
    have hinit:(Array.range (out.length*sz')).map (fun i=>(List.toArray z)[i%(List.toArray z).size]!)=List.toArray (List.replicate out.length z).flatten:=by
     exact y71
    refine y1o ?_
    by_cases hz0:out.length*sz'=0
    ·have hl0:out.length=0:=by
      exact y5r
     have e1':Instr.fill (fun i=>some (i*sz',sz')) #[] vals.toList=some (List.toArray vo):=by
      rw[hl0] at e1;simpa using e1
     exact y7e
    ·exact y72
   ·cases hb
  ·cases hb
 ·cases hb
end
section
variable {P:Program} {rd:Option Nat} {nb:Nat} {k:List It} {T:List AV} {h:Heap} {D:List AD} {Q:AX->List AV->Heap->List AD->Prop} {all:Array Oper} {o:Oper} {rest:List Oper}
theorem Run.buildV {t:TypeId} {len sz:Nat} {parts:Array (Nat×Operand)} {es:List (List PV)} (ho:o.op= .buildSlice t len parts)(hw:awanted all T o=some true)
  (hb:eW P t len (parts.toList.map fun p=>(p.1,aev T p.2))=some (.p (.sl sz es))) (hpos:0<es.length)
  (r:Run P rd nb (.ops all rest::k) (tput T o.dst (.vec h.length es.length)) (h++[some (.vec sz es)]) D Q):Run P rd nb (.ops all (o::rest)::k) T h D Q:=by
 refine Run.opR (R:=fun x h'=>x= .vec h.length es.length/\h'=h++[some (.vec sz es)]) hw (fun c hc=>by rw[hc] at ho;cases ho) ?_ (by rintro x h' ⟨rfl,rfl⟩;exact r);intro E w a st;obtain⟨p1,p2⟩:=mF st parts;obtain⟨vs,T0,hes,hrep,hrun⟩:=kK (P:=P) p1 p2 hb;exact y2c
end
open Go
section
variable {P:Program} {b:Frame} {a:Act} {k:List Item} {cs:List Frame} {w:World} {Q:Exit->Act->World->Prop} {F:Fence} {n:Nat}
theorem dI {c:Code} :step P (lone (b.atR a (.code (.scope c)::k)) cs w)= .next (lone (b.atR a (.code c:: .inScope c::k)) cs w):=
 step_lone_go (by simp[stepG,stepG.exec,Frame.atR])
theorem sV {c:Code} :step P (lone (b.atR a (.inScope c::k)) cs w)= .next (lone (b.atR a k) cs w):=
 step_lone_go (by simp[stepG,stepG.exec,Frame.atR])
theorem aDd {c:Code} (h:c.wpIn F n P (Exit.noGoto Q) a w):(Code.scope c).wpIn F n P Q a w:=by
 intro b k cs hro hb hr;have h0:(lone (b.atR a (.code (.scope c)::k)) cs w).fenced P F:=fenced_calm hb hr rfl;obtain⟨e,a₁,w₁,hq,harr⟩:=h b (.inScope c::k) cs hro hb hr
 cases e with
 |normal=>exact⟨.normal,a₁,w₁,hq, .head h0 dI (StepsIn.trans harr (.one (fenced_calm hb hr rfl) sV))⟩
 |exit id=>
  have hx:exitTo id (.inScope c::k)=exitTo id k:=by simp[exitTo]
  exact⟨.exit id,a₁,w₁,hq,fun k' hk=> .head h0 dI (harr.1 k' (by rw[hx];exact hk)),
   fun hr' hk=>let ⟨k₁,h1,h2⟩:=harr.2 hr' (by rw[hx];exact hk);⟨k₁,h1, .head h0 dI h2⟩⟩
 |goto l=>exact hq.elim
 |ret=>exact⟨_,a₁,w₁,hq, .of_steps (.one h0 dI) harr⟩
 |panic ch=>exact⟨_,a₁,w₁,hq, .of_steps (.one h0 dI) harr⟩
 |outgrown=>exact⟨_,a₁,w₁,hq, .of_steps (.one h0 dI) harr⟩
end
theorem aDl {P:Program} {rd:Option Nat} {Q:Exit->Act->World->Prop} (hQ:∀l a w,¬Q (.goto l) a w):∀(k:List It) l a w,¬K P rd Q k (.goto l) a w
 |[],l,a,w=>hQ l a w
 | .code _::k,l,a,w=>aDl hQ k l a w
 | .ops _ _::k,l,a,w=>aDl hQ k l a w
 | .inBlock _::k,l,a,w=>aDl hQ k l a w
theorem Post.not_goto {nb Q E h w l a w'} :¬Post nb Q E h w (.goto l) a w':=by
 rintro⟨_,_,_,_,x,_,_,_,h⟩
 cases x<;>simp[RepX] at h
theorem Run.scope {P:Program} {rd:Option Nat} {nb:Nat} {c:Code} {k:List It} {T:List AV} {h:Heap} {D:List AD} {Q:AX->List AV->Heap->List AD->Prop} (r:Run P rd nb (.code c::k) T h D Q):Run P rd nb (.code (.scope c)::k) T h D Q:=by
 intro E w a hs;refine aDd (wpIn_mono (r E w a hs) ?_);intro e a w hq
 cases e with
 |goto l=>exact aDl (fun _ _ _=>Post.not_goto) k l a w hq
 |_=>exact hq
end Go.AI
namespace Go.AI.EV
open Go Go.AI
section
variable {P:Program}
theorem aUd (h:Heap)(q:Nat):Heap.at (h++List.replicate q none)=h.at:=by
 funext id
 rw[Heap.at_app];split
 ·rfl
 ·rename_i l;rw[aPd h id aB];unfold Heap.at;rw[List.getElem?_replicate];split<;>rfl
theorem aBu {cf:bF} {lt:LT} (hcf:gJ P (Gl lt) cf) {ks:Ks} {j:Nat} (hG:Gl lt j ks) {ops:Array Oper} {p:Pl} {T T':List AV} {H H':HX} {D:List AD} (hok:aMi ops p=true)(hm:P.follows .mixedOrders=true)
  (h:aL7 P cf lt ops p T H j D=some (T',H')) {rd:Option Nat} {nb rid:Nat} {k:List It} {Q:AX->List AV->Heap->List AD->Prop} (r:Run P rd nb k (T'.map (io ks)) (iH ks H') (D.map (ioD ks)) Q):
  Run P rd nb (.code (.region rid ops true)::k) (T.map (io ks)) (iH ks H) (D.map (ioD ks)) Q:=by
 have hk:=aHe hok;unfold aL7 at h;split at h
 ·rename_i R hR;split at h
  ·rename_i hc;simp only[bM8] at hc;obtain⟨⟨⟨⟨_,hD⟩,hHS⟩,hpend⟩,hdead⟩:=hc;simp only[bM0,bMf] at h;obtain⟨rfl,rfl⟩:=h
   have c0:cnt ops p (fun i=>decide (i<0))=0:=by
    unfold cnt;rw[List.countP_eq_zero];intro x _;simp
   rw[List.range_eq_range'] at hR
   have t0:T=TnF ops T [] (fun i=>decide (i<0)):=by
    apply bNj;intro s;rw[kW]
    cases T[s]? with
    |none=>rfl
    |some x=>simp only[bN2,rW];split<;>simp
   obtain⟨r1,r2,r3,r4,r5,r6,r7,r8⟩:=dG hk ops.size 0 T _ [] [_] [] [] R aB rfl t0 (by rw[c0];rfl) (by rw[c0];rfl) hR
   have hget:∀c,c<=cnt ops p (fun j=>decide (j<ops.size))->R.HS.getD c []∈R.HS:=by
    intro c hc;have:c<R.HS.length:=aB;rw[List.getD,bLv this];exact bLy this
   have hall:=bMg.1 hHS
   have hU:∀c,c<=cnt ops p (fun j=>decide (j<ops.size))->(R.HS.getD c []).length=H.length+p.fl.length/\∀k,k<=p.fl.length->(eP H.length R.inits k (R.HS.getD c [])).all (fV lt (H.length+k))=true:=by
    intro c hc;have:=hall _ (hget c hc);simp only[bM8] at this;exact⟨Nat.eq_of_beq_eq_true this.1,fun k hk=>bMg.1 this.2 k (bN6.2 aB)⟩
   have hP:∀i T op x,(i,T,op,x)∈R.pend->∀c,c<=cnt ops p (fun j=>decide (j<ops.size))->(List.range ops.size).countP (fun j=>p.chain ops j&& p.pre i j)<=c->c<=(List.range ops.size).countP (fun j=>p.chain ops j&& !p.pre j i)->fT P T op x (eP H.length R.inits (p.pc i) (R.HS.getD c []))=true:=by
    intro i T op x he c hc h1 h2;unfold aMr at hpend;have:=bMg.1 (bMg.1 hpend _ he) c (bN6.2 aB);simp only[bNe,bN0,Bool.and_eq_false_iff,bNp] at this;rcases this with (h|h)|h
    ·exact absurd h1 h
    ·exact absurd h2 h
    ·exact h
   have hdd:∀c k,c<=cnt ops p (fun j=>decide (j<ops.size))->k<p.fl.length->(R.HS.getD c []).getD (H.length+k) .dead≠ .dead->∃i,i<ops.size/\p.chain ops i=true/\cnt ops p (fun x=>decide (x<i))<c/\p.pre i (p.fl.getD k 0)=true:=by
    intro c k hc hkl hne;unfold aJf at hdead;have:=bMg.1 (bMg.1 hdead c (bN6.2 aB)) k (bN6.2 hkl);split at this
    ·rename_i e;exact absurd e hne
    ·obtain⟨i,hi,hc⟩:=bOk.1 this;simp only[bM8,bMi] at hc;exact⟨i,bN6.1 hi,hc.1.1,hc.1.2,hc.2⟩
   have hpc:∀i,i<ops.size->p.pc i<=p.fl.length:=fun i _=>List.length_filter_le _ _
   have call:cnt ops p (fun _=>true)=cnt ops p fun j=>decide (j<ops.size):=Nat.le_antisymm (xR fun i hi _=>by simpa using hi) (xR fun i _ _=>rfl)
   have hN:H.length<=(R.HS.getD (cnt ops p fun j=>decide (j<ops.size)) []).length:=by rw[(hU _ (bLx _)).1];omega
   have hfin:eP H.length R.inits p.fl.length (R.HS.getD (cnt ops p fun _=>true) [])=HnF ops p H.length R.HS R.inits fun j=>decide (j<ops.size):=by
    rw[call,<-pH (S:=fun j=>decide (j<ops.size)) (bLx _) hN fun q f _ hf=>by simpa using hk.flt f (bMa hf),bM7 (by rw[aAo hN];exact bLx _)]
   rw[hfin,r5] at r;have hmain:=aS6 hcf hG hk (fun a ha=>r8 a (Nat.zero_le _) ha) hD hU hP hdd hpc r ops.size (Array.replicate ops.size false) aA;intro E w a s;refine wpIn_region_any hm ?_;obtain⟨s',hfr⟩:=s.drew
   have hS:(fun i=>(Array.replicate ops.size false).getD i false)=fun _=>false:=by
    funext i
    rcases bNi i ops.size with l|l<;>simp[l]
   have hT0:(TnF ops T R.xs fun i=>(Array.replicate ops.size false).getD i false)=T:=by
    rw[hS];apply bNj;intro s;rw[kW]
    cases T[s]? with
    |none=>rfl
    |some x=>simp only[bN2,rW];split<;>simp
   have hc0:cnt ops p (fun i=>(Array.replicate ops.size false).getD i false)=0:=by
    rw[hS];unfold cnt;rw[List.countP_eq_zero];intro x _;simp
   have hV0:R.HS.getD 0 []=H++List.replicate p.fl.length .dead:=by
    rw[getD_pre r2 aA];rfl
   have hH0:(HnF ops p H.length R.HS R.inits fun i=>(Array.replicate ops.size false).getD i false)=H++List.replicate p.fl.length .dead:=by
    unfold HnF;rw[hc0,hV0,List.take_left]
    congr 1
    apply bNj;intro q;rw[bO4,List.getElem?_replicate]
    by_cases hq:q<p.fl.length
    ·rw[List.getElem?_range hq,if_pos hq,bN2];have e:=congrFun hS (p.fl.getD q 0);show some (if(Array.replicate ops.size false).getD (p.fl.getD q 0) false=true then _ else _)=_;rw[show(Array.replicate ops.size false).getD (p.fl.getD q 0) false=false from e]
     rfl
    ·rw[bNz (by rw[List.length_range];omega),if_neg hq];rfl
   rw[hT0,hH0] at hmain
   have hat:Heap.at (iH ks (H++List.replicate p.fl.length XO.dead))=Heap.at (iH ks H):=by
    rw[fA]
    have:iH ks (List.replicate p.fl.length XO.dead)=List.replicate p.fl.length none:=by
     unfold iH;rw[List.map_replicate];rfl
    rw[this,aUd]
   have hcnt:(List.range ops.size).countP (fun i=>(Array.replicate ops.size false).getD i false)+ops.size=ops.size:=by
    have:(List.range ops.size).countP (fun i=>(Array.replicate ops.size false).getD i false)=0:=by
     rw[List.countP_eq_zero];intro x _;rw[show(Array.replicate ops.size false).getD x false=false from congrFun hS x];simp
    omega
   have hf0:Fresh E (iH ks (H++List.replicate p.fl.length XO.dead)).length:=fun id hid=>s.fresh id (by rw[bJ] at hid⊢;simp at hid;omega)
   have:=hmain (by rw[hS];intro i j _ _ h;cases h) hcnt E _ a ⟨by rw[hat];exact s'.rel,hf0,s'.tmps,s'.defers⟩ fun q f hf _=>(s.fresh (H.length+q) (by rw[bJ];omega)).1
   refine wpAny_post (K_mono (P:=P) (rd:=rd) (Post.of_fr (Q:=Q) (h':=iH ks (H++List.replicate p.fl.length XO.dead)) ?_) k) ops.size _ _ _ this;rw[hat];exact hfr
  ·cases h
 ·cases h
theorem Run.forget {rd:Option Nat} {nb:Nat} {k:List It} {T:List AV} {h:Heap} {D:List AD} {Q:AX->List AV->Heap->List AD->Prop} {id:Nat} {o:AO} (hid:h.at id=some o)(r:Run P rd nb k T (h.set id none) D Q):Run P rd nb k T h D Q:=by
 intro E w a s;obtain⟨g1,g2⟩:=uD s.rel hid;have s':=s.move g2 g1 (fun i hi=>s.fresh i (by simpa using hi));exact K_mono (P:=P) (rd:=rd) (Post.of_fr (Q:=Q) g2) k _ _ _ (r E w a s')
def aCv:LoopState->Bool
 | .busy=>false
 |_=>true
def bG:Code->List (Nat×Array Oper)
 | .region id ops true=>[(id,ops)]
 | .seq a b=>bG a++bG b
 | .cond _ a b=>bG a++bG b
 | .block _ c=>bG c
 | .loop c=>bG c
 | .scope c=>bG c
 | .rangeFunc _ _ a b=>bG a++bG b
 |_=>[]
def iU:List It->List (Nat×Array Oper)
 |[]=>[]
 | .code c::k=>bG c++iU k
 | .ops _ _::k=>iU k
 | .inBlock _::k=>iU k
def OkD (S:Seat)(fid:FuncId)(l:List (Nat×Array Oper)):Prop:=∀e∈l,(∀lo rk tbl π,S.plan fid e.1=some (lo,rk,tbl,π)->okDraw e.2 lo rk tbl none π=true)/\(∀p,S.planF fid e.1=some p->aMi e.2 p=true)/\(∀p,S.plan2 fid e.1=some p->aR2 e.2 p=true)/\∀q∈S.planE fid e.1,okDraw e.2 q.2.1 q.2.2.1 q.2.2.2.1 (some q.1) q.2.2.2.2=true
def aFk (S:Seat)(lt:LT):Prop:=∀e∈lt,OkD S e.fid (bG e.asg)/\OkD S e.fid (bG e.bd)
theorem OkD.sub {S:Seat} {fid:FuncId} {l l':List (Nat×Array Oper)} (h:OkD S fid l)(hs:∀e∈l',e∈l):OkD S fid l':=fun e he=>h e (hs e he)
theorem mN {id:Nat} :∀ {k k':List It},unw id k=some k'->∀e∈iU k',e∈iU k
 |[],_,h=>by simp[unw] at h
 | .inBlock i::k,k',h=>by
  simp only[unw] at h;split at h
  ·simp only[bM0] at h;subst h;exact fun e he=>he
  ·exact mN (k:=k) h
 | .code c::k,k',h=>fun e he=>List.mem_append_right _ (mN (k:=k) h e he)
 | .ops _ _::k,k',h=>mN (k:=k) h
def pE:Option Code->Bool
 |none=>true
 |some .ret=>true
 |some (.exit _)=>true
 |_=>false
theorem sU {S:Seat} {fid:FuncId} {pend:Option Code} {k:List It} (h:pE pend=true)(hk:OkD S fid (iU k)):OkD S fid (iU (match (generalizing:=false) pend with|none=>k|some c=> .code c::k)):=by
 unfold pE at h;split at h
 ·exact hk
 ·simpa [iU,bG] using hk
 ·simpa [iU,bG] using hk
 ·cases h
def ev (S:Seat)(P:Program)(fid:FuncId)(cf:Bool->LT->bF)(yf:cF)(lt:LT)(rnd:Bool):Nat->List It->List AV->HX->Nat->List AD->Option (AX×List AV×HX×Nat×List AD)
 |0,_,_,_,_,_=>none
 |n+1,k,T,H,j,D=>match k with
  |[]=>some (.normal,T,H,j,D)
  | .inBlock _::k=>ev S P fid cf yf lt rnd n k T H j D
  | .ops all l::k=>match qB P (S.rows fid) (cf true lt) yf rnd all l T H j D with
   |some (.norm T' H' j' D')=>ev S P fid cf yf lt rnd n k T' H' j' D'
   |some (.pan v T' H' j' D')=>some (.panic v,T',H',j',D')
   |none=>none
  | .code c::k=>match c with
   | .skip=>ev S P fid cf yf lt rnd n k T H j D
   | .label _=>ev S P fid cf yf lt rnd n k T H j D
   | .scope c=>ev S P fid cf yf lt rnd n (.code c::k) T H j D
   | .seq a b=>ev S P fid cf yf lt rnd n (.code a:: .code b::k) T H j D
   | .block id b=>ev S P fid cf yf lt rnd n (.code b:: .inBlock id::k) T H j D
   | .loop b=>ev S P fid cf yf lt rnd n (.code b:: .code (.loop b)::k) T H j D
   | .cond c a b=>match aev T c with
    | .p (.prim (.bool t))=>ev S P fid cf yf lt rnd n (.code (if t=true then a else b)::k) T H j D
    |_=>none
   | .exit id=>match unw id k with
    |some k'=>ev S P fid cf yf lt rnd n k' T H j D
    |none=>some (.exit id,T,H,j,D)
   | .ret=>some (.ret,T,H,j,D)
   | .region rid ops draw=>if draw=true then
     (match S.plan fid rid with
     | some (lo,_,_,π)=>
       (match aBt P (S.rows fid) (cf true lt) ops lo D π [] T H j with
       |some (.nrm T' H' j')=>ev S P fid cf yf lt rnd n k T' H' j' D
       |some (.pan i f args H0 j0 v H1 j1)=>(match aWh (S.planE fid rid) i with
        |some q=>(match eO P (S.rows fid) (cf true lt) ops q.2.1 D q.2.2.2.2 [] T H j with
         |some (T2,H2,j2)=>if aRd ops i T2 H2 j2 f args H0 j0 j1 D=true then some (.panic v,sO ops T2,H1,j1,D) else none
         |none=>none)
        |none=>none)
       |none=>none)
     |none=>match S.planF fid rid with
      | some p=>
        (match aL7 P (cf false lt) lt ops p T H j D with
        |some (T',H')=>ev S P fid cf yf lt rnd n k T' H' j D
        |none=>none)
      |none=>match S.plan2 fid rid with
       | some p=>
         (match eO P (S.rows fid) (cf true lt) ops p.lo1 D p.π1 [] T H j,eO P (S.rows fid) (cf true lt) ops p.lo2 D p.π2 [] T H j with
         |some (T',H',j'),some (T2,H2,j2)=>if(aAm T' T2&& eqH H' H2&& Nat.beq j' j2)=true then ev S P fid cf yf lt rnd n k T' H' j' D else none
         |_,_=>none)
       |none=>none)
    else match qB P (S.rows fid) (cf true lt) yf rnd ops ops.toList T H j D with
     |some (.norm T' H' j' D')=>ev S P fid cf yf lt rnd n k T' H' j' D'
     |some (.pan v T' H' j' D')=>some (.panic v,T',H',j',D')
     |none=>none
   | .rangeFunc g ps asg bd=>if rnd=true then none else match aev T g with
    | .fn (.func gf) [] cap=>if(qL j T&& H.all (aC7 j)&& aWm j D&& qL j cap)=true then
      (match cf true (⟨j,fid,T,ps,asg,bd⟩::lt) gf (.fn (.yield j) [] []::cap) (H++[.dblk, .loop j .ready none]) (j+1) with
      |some (.ret _,H2,j2)=>match H2[H.length+1]? with
       | some (.loop i st pend)=>if(Nat.beq i j&& aCv st&& pE pend)=true then
         ev S P fid cf yf lt rnd n (match pend with|none=>k|some c=> .code c::k) T (H2.set (H.length+1) .dead) j2 ((.yield H.length,[],[])::D) else none
       |_=>none
      |_=>none) else none
    |_=>none
   |_=>none
def ioX (ks:Ks):AX->AX
 | .panic v=> .panic (io ks v)
 |x=>x
def Ends (ks:Ks)(j:Nat)(x:AX)(T':List AV)(H':HX)(j':Nat)(D':List AD):AX->List AV->Heap->List AD->Prop:=
 fun x2 T2 h2 D2=>∃ks',Agree j ks ks'/\(j'=j->ks'=ks)/\x2=ioX ks' x/\T2=T'.map (io ks')/\h2=iH ks' H'/\D2=D'.map (ioD ks')
theorem Ends.weaken {ks ks1:Ks} {j j1:Nat} {x:AX} {T':List AV} {H':HX} {j':Nat} {D':List AD} (ha:Agree j ks ks1)(he:j1=j->ks1=ks)(h1:j<=j1)(h2:j1<=j') {x2 T2 h D2} (e:Ends ks1 j1 x T' H' j' D' x2 T2 h D2):Ends ks j x T' H' j' D' x2 T2 h D2:=by
 obtain⟨ks',a1,a2,a3⟩:=e;exact⟨ks',ha.trans h1 a1,fun q=>by rw[a2 aB,he aB],a3⟩
theorem aQk (ks:Ks)(ops:Array Oper)(T:List AV):sO ops (T.map (io ks))=(sO ops T).map (io ks):=by
 unfold sO;generalize ops.toList=l
 induction l generalizing T with
 |nil=>rfl
 |cons o l ih=>
  have e:∀T,mB (o::l) T=mB l (tput T o.dst .junk):=fun _=>rfl
  rw[e,e,<-ih,<-tput_io,aC6]
theorem iE {S:Seat} {fid:FuncId} {cf:Bool->LT->bF} {yf:cF} {lt:LT} {rnd:Bool} {rd:Option Nat} {nb:Nat} (hfo:P.follows .mixedOrders=true)(hlt:aFk S lt)(hcf:∀b lt,aFk S lt->gJ P (Gl lt) (cf b lt))(hyf:jD P (Gl lt) yf)(hrd:rnd=false->rd=none):
  ∀(n:Nat) (k:List It) (T:List AV) (H:HX) (j:Nat) (D:List AD) (x:AX) (T':List AV) (H':HX) (j':Nat) (D':List AD),ev S P fid cf yf lt rnd n k T H j D=some (x,T',H',j',D')->
   OkD S fid (iU k)->j<=j'/\∀ks,Gl lt j ks->Run P rd nb k (T.map (io ks)) (iH ks H) (D.map (ioD ks)) (Ends ks j x T' H' j' D')
 |0,k,T,H,j,D,x,T',H',j',D',h=>by simp[ev] at h
 |n+1,k,T,H,j,D,x,T',H',j',D',h=>by
  intro hk;have ih:=iE (S:=S) (fid:=fid) (rd:=rd) (nb:=nb) hfo hlt hcf hyf hrd n
  have opsCase:∀(all:Array Oper) (l:List Oper) (k:List It),(match qB P (S.rows fid) (cf true lt) yf rnd all l T H j D with
    |some (.norm T' H' j' D')=>ev S P fid cf yf lt rnd n k T' H' j' D'
    |some (.pan v T' H' j' D')=>some (.panic v,T',H',j',D')
    |none=>none)=some (x,T',H',j',D')->OkD S fid (iU k)->j<=j'/\∀ks,Gl lt j ks->Run P rd nb (.ops all l::k) (T.map (io ks)) (iH ks H) (D.map (ioD ks)) (Ends ks j x T' H' j' D'):=by
   intro all l k h hk;split at h
   ·rename_i T1 H1 j1 D1 ho;obtain⟨b1,b2⟩:=ih _ _ _ _ _ _ _ _ _ _ h hk;have hj1:j<=j1:=(eE (rd:=rd) (nb:=nb) (k:=k) (Q:=fun _ _ _ _=>True) (Gl.closed lt) (hcf true lt hlt) hyf hrd l T H j D _ ho).1;refine⟨by omega,fun ks hG=>?_⟩;refine(eE (rd:=rd) (nb:=nb) (k:=k) (Q:=Ends ks j x T' H' j' D') (Gl.closed lt) (hcf true lt hlt) hyf hrd l T H j D _ ho).2 ks hG ?_;intro ks1 a1 a2;exact(b2 ks1 (Gl.closed lt _ _ _ _ hG a1 hj1)).mono fun x2 T2 h2 D2 e=>e.weaken a1 a2 hj1 b1
   ·rename_i v T1 H1 j1 D1 ho;simp only[bM0,bMf] at h;obtain⟨rfl,rfl,rfl,rfl,rfl⟩:=h;have hj1:j<=j1:=(eE (rd:=rd) (nb:=nb) (k:=k) (Q:=fun _ _ _ _=>True) (Gl.closed lt) (hcf true lt hlt) hyf hrd l T H j D _ ho).1;refine⟨hj1,fun ks hG=>?_⟩;refine(eE (rd:=rd) (nb:=nb) (k:=k) (Q:=Ends ks j _ T1 H1 j1 D1) (Gl.closed lt) (hcf true lt hlt) hyf hrd l T H j D _ ho).2 ks hG ?_;intro ks1 a1 a2;exact⟨ks1,a1,a2,rfl,rfl,rfl,rfl⟩
   ·cases h
  simp only[ev] at h;split at h
  ·simp only[bM0,bMf] at h;obtain⟨rfl,rfl,rfl,rfl,rfl⟩:=h;exact⟨bLx _,fun ks _=>Run.nil ⟨ks,Agree.refl _ _,fun _=>rfl,rfl,rfl,rfl,rfl⟩⟩
  ·obtain⟨h1,h2⟩:=ih _ _ _ _ _ _ _ _ _ _ h (hk.sub fun e he=>by simpa [iU,bG] using he);exact⟨h1,fun ks hG=>Run.inBlock (h2 ks hG)⟩
  ·exact opsCase _ _ _ h (hk.sub fun e he=>by simpa [iU] using he)
  ·split at h
   ·obtain⟨h1,h2⟩:=ih _ _ _ _ _ _ _ _ _ _ h (hk.sub fun e he=>by simpa [iU,bG] using he);exact⟨h1,fun ks hG=>Run.skip (h2 ks hG)⟩
   ·obtain⟨h1,h2⟩:=ih _ _ _ _ _ _ _ _ _ _ h (hk.sub fun e he=>by simpa [iU,bG] using he);exact⟨h1,fun ks hG=>Run.label (h2 ks hG)⟩
   ·obtain⟨h1,h2⟩:=ih _ _ _ _ _ _ _ _ _ _ h (hk.sub fun e he=>by simpa [iU,bG] using he);exact⟨h1,fun ks hG=>Run.scope (h2 ks hG)⟩
   ·obtain⟨h1,h2⟩:=ih _ _ _ _ _ _ _ _ _ _ h (by simpa only[iU,bG,bMj] using hk);exact⟨h1,fun ks hG=>Run.seq (h2 ks hG)⟩
   ·obtain⟨h1,h2⟩:=ih _ _ _ _ _ _ _ _ _ _ h (by simpa only[iU,bG] using hk);exact⟨h1,fun ks hG=>Run.block (h2 ks hG)⟩
   ·obtain⟨h1,h2⟩:=ih _ _ _ _ _ _ _ _ _ _ h (hk.sub fun e he=>by simp only[iU,bG,bMo] at he⊢;rcases he with he|he|he<;>simp[he]);exact⟨h1,fun ks hG=>Run.loop (h2 ks hG)⟩
   ·split at h
    ·rename_i t hc
     obtain⟨h1,h2⟩:=ih _ _ _ _ _ _ _ _ _ _ h (hk.sub fun e he=>by
      simp only[iU,bG,bMo] at he⊢
      cases t<;>simp only[bMe,if_false,if_true] at he<;>rcases he with he|he<;>simp[he])
     exact⟨h1,fun ks hG=>Run.cond (b:=t) (by rw[aev_io,hc,eV]) (h2 ks hG)⟩
    ·cases h
   ·split at h
    ·rename_i hu;obtain⟨h1,h2⟩:=ih _ _ _ _ _ _ _ _ _ _ h (hk.sub fun e he=>by simpa [iU,bG] using mN hu e he);exact⟨h1,fun ks hG=>Run.exit hu (h2 ks hG)⟩
    ·rename_i hu;simp only[bM0,bMf] at h;obtain⟨rfl,rfl,rfl,rfl,rfl⟩:=h;exact⟨bLx _,fun ks _=>Run.exitN hu ⟨ks,Agree.refl _ _,fun _=>rfl,rfl,rfl,rfl,rfl⟩⟩
   ·simp only[bM0,bMf] at h;obtain⟨rfl,rfl,rfl,rfl,rfl⟩:=h;exact⟨bLx _,fun ks _=>Run.ret ⟨ks,Agree.refl _ _,fun _=>rfl,rfl,rfl,rfl,rfl⟩⟩
   ·rename_i rid ops draw;split at h
    ·rename_i hd;subst hd;split at h
     ·rename_i lo rk tbl π hp;split at h
      ·rename_i T1 H1 j1 hdr;have hdr:=aE9 hdr;obtain⟨h1,h2⟩:=ih _ _ _ _ _ _ _ _ _ _ h (hk.sub fun e he=>by simp[iU,he]);obtain⟨d1,d2⟩:=bZ (Kont:=fun _ _=>True) (Gl.closed lt) (hcf true lt hlt) π [] T H j hdr;refine⟨by omega,fun ks hG=>Run.draw lo rk tbl π hfo ((hk (rid,ops) (by simp[iU,bG])).1 lo rk tbl π hp) ?_⟩;refine(bZ (Gl.closed lt) (hcf true lt hlt) π [] T H j hdr).2 ks hG fun ks' b1 b2 b3=>?_
       exact y4g
      ·rename_i i f args H0 j0 v H1 j1 hdr;split at h
       ·rename_i q hq;split at h
        ·rename_i T2 H2 j2 hd2;split at h
         ·rename_i hc;simp only[bM0,bMf] at h;obtain⟨rfl,rfl,rfl,rfl,rfl⟩:=h;obtain⟨o,c,e1,e2,e3,e4,x1,x2,x3⟩:=aHi hc;subst x1;subst x2;have hcall:=iD hdr;obtain⟨d1,_⟩:=bZ (Kont:=fun _ _=>True) (Gl.closed lt) (hcf true lt hlt) q.2.2.2.2 [] T H j hd2;obtain⟨c1,c2,c3⟩:=hcf true lt hlt f args _ _ _ _ _ hcall;have hokd:=(hk (rid,ops) (by simp[iU,bG])).2.2.2 q (yB hq).1;rw[(yB hq).2] at hokd;refine⟨by omega,fun ks hG=>aSa q.2.1 q.2.2.1 q.2.2.2.1 q.2.2.2.2 i hfo hokd ?_⟩;refine(bZ (Gl.closed lt) (hcf true lt hlt) q.2.2.2.2 [] T H j hd2).2 ks hG fun ks' b1 b2 b3=>?_
          have hG':=Gl.closed lt _ _ _ _ hG b1 d1;refine⟨o,c,f,args.map (io ks'),e1,cI _ _ _ e2,e3,gK e4,c1,(c3 ks' hG').mono ?_⟩;rintro o2 g ⟨ks2,y1,y2,rfl,rfl⟩;refine⟨io ks2 v,by simp only[ioR],fun T' hT=>?_⟩;show Ends _ _ _ _ _ _ _ _ _ _ _;rw[aC8 hT];obtain⟨z1,z2,_⟩:=aLz x3 y1 y2;refine⟨ks2,b1.trans d1 y1,fun r=>?_,rfl,?_,rfl,?_⟩
          ·rw[y2 aB,b2 aB]
          ·rw[<-aQk,z1]
          ·rw[z2,b3]
         ·cases h
        ·cases h
       ·cases h
      ·cases h
     ·split at h
      ·rename_i p hp;split at h
       ·rename_i T1 H1 hrg;obtain⟨h1,h2⟩:=ih _ _ _ _ _ _ _ _ _ _ h (hk.sub fun e he=>by simp[iU,he]);exact⟨h1,fun ks hG=>aBu (hcf false lt hlt) hG ((hk (rid,ops) (by simp[iU,bG])).2.1 p hp) hfo hrg (h2 ks hG)⟩
       ·cases h
      ·split at h
       ·rename_i p hp;split at h
        ·rename_i T1 H1 j1 T2 H2 j2 hdr1 hdr2;split at h
         ·rename_i hc;simp only[bM8] at hc;obtain⟨⟨c1,c2⟩,c3⟩:=hc;have c1:=gF c1;have c2:=aKa c2;have c3:=Nat.eq_of_beq_eq_true c3;subst c1;subst c2;subst c3;obtain⟨h1,h2⟩:=ih _ _ _ _ _ _ _ _ _ _ h (hk.sub fun e he=>by simp[iU,he]);obtain⟨d1,_⟩:=bZ (Kont:=fun _ _=>True) (Gl.closed lt) (hcf true lt hlt) p.π1 [] T H j hdr1;refine⟨by omega,fun ks hG=>aXc (p:=p) hfo ((hk (rid,ops) (by simp[iU,bG])).2.2.1 p hp) ?_ ?_⟩
          ·refine(bZ (Gl.closed lt) (hcf true lt hlt) p.π1 [] T H j hdr1).2 ks hG fun ks' b1 b2 b3=>?_
           exact y4g
          ·refine(bZ (Gl.closed lt) (hcf true lt hlt) p.π2 [] T H j hdr2).2 ks hG fun ks' b1 b2 b3=>?_
           exact y4g
         ·cases h
        ·cases h
       ·cases h
    ·rename_i hd;have hd:draw=false:=by simpa using hd
     subst hd;obtain⟨h1,h2⟩:=opsCase _ _ _ h (hk.sub fun e he=>by simpa [iU,bG] using he);exact⟨h1,fun ks hG=>Run.region (h2 ks hG)⟩
   ·rename_i g ps asg bd;split at h
    ·cases h
    ·rename_i hr;have hrd':rd=none:=hrd (by simpa using hr);subst hrd';split at h
     ·rename_i gf cap hg;split at h
      ·rename_i hok;simp only[bM8] at hok;obtain⟨⟨⟨k1,k2⟩,k3⟩,k4⟩:=hok;split at h
       ·rename_i v H2 j2 hcall;split at h
        ·rename_i i st pend hat;split at h
         ·rename_i hst;simp only[bM8] at hst;have hi:=Nat.eq_of_beq_eq_true hst.1.1;subst hi;obtain⟨h1,h2⟩:=ih _ _ _ _ _ _ _ _ _ _ h (sU hst.2 (hk.sub fun e he=>by simp[iU,he]))
          have hlt2:aFk S (⟨i,fid,T,ps,asg,bd⟩::lt):=by
           intro e he;rcases bMh.1 he with rfl|he
           ·exact⟨hk.sub fun e he=>by simp[iU,bG,he],hk.sub fun e he=>by simp[iU,bG,he]⟩
           ·exact hlt e he
          obtain⟨c1,c2,c3⟩:=hcf true _ hlt2 _ _ _ _ _ _ _ hcall;refine⟨by omega,fun ks hG=>Run.range (gf:=gf) (cap:=cap.map (io ks)) (by rw[aev_io,hg,yM];rfl) c1 fun l=>?_⟩;obtain⟨L,hL⟩:∃L:LD,L=⟨T.map (io ks),ps,asg,bd⟩:=⟨_,rfl⟩;have ag:Agree i ks (aSi ks i l L):=uM ks i l L
          have hG1:Gl (⟨i,fid,T,ps,asg,bd⟩::lt) (i+1) (aSi ks i l L):=by
           intro e he;rcases bMh.1 he with rfl|he
           ·refine⟨Nat.lt_succ_self _,fN (Nat.le_succ _) k1,?_⟩;rw[rU,bX ag k1,hL]
           ·exact Gl.closed lt i (i+1) ks _ hG ag (Nat.le_succ _) e he
          have hcc:=c3 (aSi ks i l L) hG1
          have e1:(AV.fn (.yield i) [] []::cap).map (io (aSi ks i l L))= .fn (.yield l) [] []::cap.map (io ks):=by
           rw[bMd,bX ag k4,yM];simp only[iof,rU,bNb]
          have e2:iH (aSi ks i l L) (H++[XO.dblk, .loop i .ready none])=iH ks H++[some (.aux .dblk),some (.aux (.loop l .ready none (T.map (io ks)) ps asg bd))]:=by
           rw[fA,pB ag k2]
           congr 1
           show [some (AO.aux .dblk),iO _ _]=_;simp only[iO,rU,hL]
          rw[e1,e2] at hcc;refine⟨_,hcc,?_⟩;rintro o g' ⟨ks2,a1,a2,rfl,rfl⟩;have hk2:ks2 i=(l,L):=by rw[a1 i (Nat.lt_succ_self _),rU]
          refine⟨io ks2 v,st,pend,rfl,?_,fun q=>by rw[q] at hst;simp[aCv] at hst,?_⟩
          ·rw[bJ,lC hat];simp only[iO,hk2,hL]
          ·have ag2:Agree i ks ks2:=ag.trans (Nat.le_succ _) a1;have:=h2 ks2 (Gl.closed lt i j2 ks ks2 hG ag2 aB);rw[bX ag2 k1] at this;rw[<-jK] at this;simp only[iO,bMd,ioD,bNb] at this;have e3:D.map (ioD ks2)=D.map (ioD ks):=jZ ag2 k3;rw[show List.map (ioD ks2) D=List.map (ioD ks) D from e3] at this;rw[bJ];refine Run.mono (Q:=Ends ks2 j2 x T' H' j' D') ?_ fun x2 T2 h2 D2 e=>e.weaken ag2 (fun q=>by omega) aB h1
           have hlt:H.length+1<(iH ks2 H2).length:=by
            have:=(bLw.1 hat).1;rw[bJ];exact this
           refine Run.forget (id:=H.length+1) (by rw[fK _ _ _ _ hlt,if_pos rfl]) ?_;rw[List.set_set];exact this
         ·cases h
        ·cases h
       ·cases h
      ·cases h
     ·cases h
   ·cases h
end
end Go.AI.EV
