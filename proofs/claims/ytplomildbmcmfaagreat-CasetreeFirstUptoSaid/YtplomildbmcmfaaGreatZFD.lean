import Derived.Test.YtplomildbmcmfaaGreatZA0
import Derived.IntWalk
import Derived.Recover
import Derived.RangeFuncIn
import Derived.RangeFuncRecord
import Derived.RangeFuncSeq
import Derived.RangeFuncLeaves
import Derived.Test.YtplomildbmcmfaaGreatZFC
namespace Go.AI
open Go
theorem aHu (P:Program)(all:Array Oper)(K:List Oper->List AV->Heap->Prop)(T:List AV)(h:Heap):bY P all K [] T h=K [] T h:=by simp only[bY]<;>rfl
theorem aCo (P:Program)(all:Array Oper)(K:List Oper->List AV->Heap->Prop)(o:Oper)(l:List Oper)(T:List AV)(h:Heap):bY P all K (o::l) T h=
  (match awanted all T o with
  |some true=>match aop P (aev T) h o.op with
   |some (x,h')=>bY P all K l (tput T o.dst x) h'
   |none=>K (o::l) T h
  |some false=>bY P all K l (tput T o.dst (.tup [])) h
  |none=>K (o::l) T h):=by simp only[bY]<;>rfl
theorem drOps_nil (P:Program)(ops:Array Oper)(lo:List Nat)(K:List Nat->List Heap->List AV->Heap->Prop)(hist:List Heap)(T:List AV)(h:Heap):drOps P ops lo K [] hist T h=K [] hist T h:=by simp only[drOps]<;>rfl
theorem drOps_cons (P:Program)(ops:Array Oper)(lo:List Nat)(K:List Nat->List Heap->List AV->Heap->Prop)(i:Nat)(π:List Nat)(hist:List Heap)(T:List AV)(h:Heap):drOps P ops lo K (i::π) hist T h=
  (match ops[i]? with
  |none=>False
  |some o=>match awanted ops T o with
   |some false=>drOps P ops lo K π (if isE o.op then hist++[h] else hist) (tput T o.dst (.tup [])) h
   |some true=>match aop P (aev T) h o.op with
    |some (x,h')=>if isE o.op then drOps P ops lo K π (hist++[h]) (tput T o.dst x) h' else stab P T x o.op (hist.drop (lo.getD i 0))/\drOps P ops lo K π hist (tput T o.dst x) h
    |none=>K (i::π) hist T h
   |none=>K (i::π) hist T h):=by simp only[drOps]<;>rfl
attribute [simp] aHu aCo awanted aop aev tget tput cU sS isPrim aAt sZ dZ pK abuiltin aT8 abin aXw aun xB eA pL sG setMany keepT keepT.go Heap.at pJ eW sK kJ rQ nS patch lI qS aU5 mS sI srcSz aFr aslice loA hiA maA aFo sX aP6 aTj aU9 gP hK acallee aX bR drOps_nil drOps_cons stab isE prims AV.under AV.underL AO.under
theorem wrap_id {n:Int} (h1:-9223372036854775808<=n)(h2:n<=9223372036854775807):IntKind.i64.wrap n=n:=IntWalk.i64_in n aB
@[simp] theorem aMe (n:Nat):((n:Int)<0)=False:=aA
@[simp] theorem lX (h l:List (Option AO)) (k:Nat):(h++l)[h.length+k]?=l[k]?:=by rw[bN8 aB];congr 1;omega
@[simp] theorem yI (h l:List (Option AO)):(h++l)[h.length]?=l[0]?:=lX h l 0
@[simp] theorem mJ (h l:List (Option AO)) (k:Nat) (o:Option AO):(h++l).set (h.length+k) o=h++l.set k o:=by rw[bNf _ _ aB];congr 2;omega
@[simp] theorem zX (h l:List (Option AO)) (o:Option AO):(h++l).set h.length o=h++l.set 0 o:=mJ h l 0 o
@[simp] theorem take_last (h l:List (Option AO)):(h++l).take h.length=h:=by rw[bMx (bLx _),bMm]
@[simp] theorem aLj (h l:List (Option AO)) (i k:Nat) (o:Option AO):(h.set i o++l)[h.length+k]?=l[k]?:=by have:=lX (h.set i o) l k;rwa [bNu] at this
@[simp] theorem aZ5 (h l:List (Option AO)) (i:Nat) (o:Option AO):(h.set i o++l)[h.length]?=l[0]?:=aLj h l i 0 o
@[simp] theorem aNp (h l:List (Option AO)) (i k:Nat) (o o':Option AO):(h.set i o++l).set (h.length+k) o'=h.set i o++l.set k o':=by have:=mJ (h.set i o) l k o';rwa [bNu] at this
@[simp] theorem bA6 (h l:List (Option AO)) (i:Nat) (o o':Option AO):(h.set i o++l).set h.length o'=h.set i o++l.set 0 o':=aNp h l i 0 o o'
@[simp] theorem bA9 (h l:List (Option AO)) (i:Nat) (o:Option AO):(h.set i o++l).take h.length=h.set i o:=by have:=take_last (h.set i o) l;rwa [bNu] at this
@[simp] theorem bF2 (h l:List (Option AO)) (i:Nat) (hi:i<h.length):(h++l)[i]?=h[i]?:=bM9 hi
@[simp] theorem bGa (h l:List (Option AO)) (i:Nat) (o:Option AO) (hi:i<h.length):(h++l).set i o=h.set i o++l:=bMq _ _ hi
@[simp] theorem bCe (h:List (Option AO)) (i:Nat) (o:Option AO) (hi:i<h.length):(h.set i o)[i]?=some o:=by simp[hi]
theorem iM {h:List (Option AO)} {i:Nat} {o:Option AO} (hi:h[i]?=some o):h.set i o=h:=by
 apply bNj;intro j;refine y1t ?_;split
 ·rename_i e;subst e;have hlt:=(bLw.1 hi).1;simp[hlt];have:=(bLw.1 hi).2;exact this.symm
 ·rfl
theorem idf {h:List (Option AO)} {i:Nat} {o:Option AO} (hi:h[i]?=some o):
  (∀l:List (Option AO),(h++l)[i]?=some o)/\(∀(l:List (Option AO)) (o':Option AO),(h++l).set i o'=h.set i o'++l)/\(∀o':Option AO,(h.set i o')[i]?=some o')/\
  (∀(l:List (Option AO)) (o':Option AO),(h.set i o'++l)[i]?=some o')/\(∀(l:List (Option AO)) (o' o'':Option AO),(h.set i o'++l).set i o''=h.set i o''++l)/\i<h.length:=by
 have hlt:=(bLw.1 hi).1;refine⟨fun l=>by rw[bM9 hlt,hi],fun l o'=>bMq _ _ hlt,fun o'=>by simp[hlt],fun l o'=>?_,fun l o' o''=>?_,hlt⟩
 ·rw[bM9 (by simpa using hlt)];simp[hlt]
 ·rw[bMq _ _ (by simpa using hlt),List.set_set]
mutual
theorem AV.under_mono {n m:Nat} (h:n<=m):∀ {x:AV},x.under n=true->x.under m=true
 | .p _,_=>by simp only[AV.under]
 | .agg cs,hx=>by simp only[AV.under] at hx⊢;exact AV.underL_mono h hx
 | .tup cs,hx=>by simp only[AV.under] at hx⊢;exact AV.underL_mono h hx
 | .ptr id _,hx=>by simp only[AV.under,bMi] at hx⊢;omega
 | .sm id _ _ _ _,hx=>by simp only[AV.under,bMi] at hx⊢;omega
 | .own tok _ _,hx=>by simp only[AV.under,bMi] at hx⊢;omega
 | .fn _ xs ys,hx=>by simp only[AV.under,bM8] at hx⊢;exact⟨AV.underL_mono h hx.1,AV.underL_mono h hx.2⟩
 | .ifc _ x,hx=>by simp only[AV.under] at hx⊢;exact AV.under_mono h hx
 | .mp id,hx=>by simp only[AV.under,bMi] at hx⊢;omega
 | .vec id _,hx=>by simp only[AV.under,bMi] at hx⊢;omega
 | .junk,_=>by simp only[AV.under]
theorem AV.underL_mono {n m:Nat} (h:n<=m):∀ {xs:List AV},AV.underL n xs=true->AV.underL m xs=true
 |[],_=>by simp only[AV.underL]
 |x::xs,hx=>by simp only[AV.underL,bM8] at hx⊢;exact⟨AV.under_mono h hx.1,AV.underL_mono h hx.2⟩
end
theorem AO.under_mono {n m:Nat} (h:n<=m) {o:Option AO} (ho:AO.under n o=true):AO.under m o=true:=by
 cases o with
 |none=>rfl
 |some o=>cases o with
  |cells cs=>exact AV.underL_mono h ho
  |tok _ _=>rfl
  |vec _ _=>rfl
  |aux x=>cases x with
   |loop=>exact AV.underL_mono h ho
   |dblk=>rfl
   |map=>rfl
theorem Weak.int {k:IntKind} {a b:Int} (h:a=b):Weak (.p (.prim (.int k a))) (.p (.prim (.int k b))):=by subst h;exact Weak.refl _
theorem Weak.of_eq {x y:AV} (h:x=y):Weak x y:=by subst h;exact Weak.refl _
def WF (h:Heap):Prop:=h.all (AO.under h.length)=true
theorem WF.nil:WF []:=rfl
theorem WF.app {h:Heap} (hh:WF h) {l:List (Option AO)} (hl:l.all (AO.under (h.length+l.length))=true):WF (h++l):=by
 unfold WF at*;rw[bO9,bM8,bM5];refine⟨?_,hl⟩;rw[bMg] at hh⊢;exact fun o ho=>AO.under_mono aB (hh o ho)
theorem WF.set {h:Heap} (hh:WF h) {id:Nat} {o:Option AO} (ho:AO.under h.length o=true):WF (List.set h id o):=by
 unfold WF at*;rw[bMg] at hh⊢;intro x hx;rw[bNu];rcases List.mem_or_eq_of_mem_set hx with h1|h1
 ·exact hh x h1
 ·rw[h1];exact ho
theorem WF.all {h:Heap} (hh:WF h):h.all (AO.under h.length)=true:=hh
theorem Fin.ret' {P:Program} {fn:Func} {R:AOut->Heap->Prop} {T:List AV} {h h0:Heap} {n:Nat} {l:List (Option AO)} {x y:AV} {xs:List AV} {ax:AX} (hax:(∀v,ax≠ .panic v)/\∀i,ax≠ .exit i)(hn:h0.length=n)(hh:WF h0)(e:h=h0++l)(hr:aX P T h fn.results.toList=some xs)(hx:bR xs=x)(hw:Weak x y)(hy:y.under n=true)(hR:R (.ret y) h0):
  Fin P fn n R ax T h []:=by
 subst e hx hn
 have:∃l' y' h' m,aX P T (h0++l) fn.results.toList=some l'/\Settles (bR l') (h0++l) y' h'/\h0.length<=m/\m<=h'.length/\y'.under m=true/\(h'.take m).all (AO.under m)=true/\R (.ret y') (h'.take m):=by
  refine⟨xs,y,h0++l,h0.length,hr,Settles.weak hw _,bLx _,by simp,hy,?_,?_⟩
  ·rw[take_last];exact hh
  ·rw[take_last];exact hR
 cases ax with
 |panic v=>exact absurd rfl (hax.1 v)
 |exit v=>exact absurd rfl (hax.2 v)
 |normal=>exact⟨rfl,this⟩
 |ret=>exact⟨rfl,this⟩
theorem Fin.ret {P:Program} {fn:Func} {R:AOut->Heap->Prop} {T:List AV} {h h0:Heap} {l:List (Option AO)} {x y:AV} {xs:List AV} (hh:WF h0)(e:h=h0++l)(hr:aX P T h fn.results.toList=some xs)(hx:bR xs=x)(hw:Weak x y)(hy:y.under h0.length=true)(hR:R (.ret y) h0):
  Fin P fn h0.length R .ret T h []:=by
 subst e hx;refine⟨rfl,xs,y,h0++l,h0.length,hr,Settles.weak hw _,bLx _,by simp,hy,?_,?_⟩
 ·rw[take_last];exact hh
 ·rw[take_last];exact hR
theorem Run.tok {P:Program} {rd:Option Nat} {nb:Nat} {k:List It} {T:List AV} {h:Heap} {D:List AD} {Q:AX->List AV->Heap->List AD->Prop} (slot sz:Nat)(hs:tget T slot= .p (.prim (.slice none 0 0)))(r:Run P rd nb k (T.set slot (.own h.length sz [])) (h++[some (.tok 0 sz)]) D Q):Run P rd nb k T h D Q:=by
 intro E w a s;obtain⟨t1,t2,t3⟩:=s.rel.newTok s.fresh sz;have s':=s.move t2 t1 (by simpa using t3);have hv:=s.tmps.get slot;rw[<-tget_eq,hs] at hv;simp only[Rep,RepP] at hv
 have hx:Rep {E with t:=fun id=>if id=h.length then some ⟨none,0,0⟩ else E.t id} w (.own h.length sz []) (.slice none 0 0):=by
  exact y43
 exact y30
open Go
section
variable {P:Program} {rd:Option Nat} {nb:Nat} {k:List It} {T:List AV} {h:Heap} {D:List AD} {Q:AX->List AV->Heap->List AD->Prop} {all:Array Oper} {o:Oper} {rest:List Oper}
theorem Run.panic {x:Operand} {t:TypeId} {y:PV} (ho:o.op= .panic x)(hw:awanted all T o=some true)(hx:aev T x= .p (.ifc t y))(hq:Q (.panic (.p (.ifc t y))) T h D):Run P rd nb (.ops all (o::rest)::k) T h D Q:=by
 intro E w a s;have hr:=aev_rep s x;rw[hx] at hr;have hr':=hr;simp only[Rep,RepP] at hr;obtain⟨u,e,hu⟩:=hr;show wpListIn (fen rd) 0 P all (K P rd (Post nb Q E h w) k) (o::rest) a w;refine yk ?_;refine⟨fun _ _=>trivial,?_⟩;rw[Oper.semAt_eq _ _ _ (fun c hc=>by rw[hc] at ho;cases ho)];have:(execOp a.eval o).run P w= .halt (.panic (.iface t u)) w:=by simp[execOp,ho,Instr.panic,e]
 rw[this];show K P rd (Post nb Q E h w) k (.panic _) a w;rw[K_panic];exact⟨E,T,h,D, .panic (.p (.ifc t y)),hq,s,(Fr.refl _ _ _).toN _, .iface t u,rfl,by rw[e] at hr';exact hr'⟩
theorem Run.defer {c:Call} {f:Operand} {i:FuncId} {first cap:List AV} (ho:o.op= .defer c)(hw:awanted all T o=some true)(hc:c.callee= .value f)(hf:aev T f= .fn (.func i) first cap)
  (r:Run P none nb (.ops all rest::k) (tput T o.dst (.tup [])) h ((.func i,cap,first++c.args.toList.map (aev T))::D) Q):Run P none nb (.ops all (o::rest)::k) T h D Q:=by
 intro E w a s;have hr:=aev_rep s f;rw[hf] at hr;simp only[Rep] at hr;obtain⟨vs,us,e,r1,r2⟩:=hr;have hargs:=fW s c.args.toList;have hun:Rep E w (.tup []) undef:=by simp only[Rep,RepL];exact⟨[],rfl,rfl⟩
 show wpListIn (fen none) 0 P all (K P none (Post nb Q E h w) k) (o::rest) a w;refine yk ?_;refine⟨fun _ _=>trivial,?_⟩;rw[Oper.semAt_none]
 have:(execOp a.eval o).run P w= .ok (.defer {target:= .fn (.func i) (List.toArray us),args:=List.toArray (vs++c.args.toList.map a.eval)}) w:=by
  simp[execOp,ho,resolve,hc,e,Deferred.ofValue]
 rw[this]
 have s1:St E w {a with defers:= {target:= .fn (.func i) (List.toArray us),args:=List.toArray (vs++c.args.toList.map a.eval)} ::a.defers} T h ((.func i,cap,first++c.args.toList.map (aev T))::D):=
  ⟨s.rel,s.fresh,s.tmps,us,vs++c.args.toList.map a.eval,a.defers,rfl,r2,r1.append hargs,s.defers⟩
 exact r E w _ (s1.put hun o.dst)
end
def aDn (E:Env)(w:World):Option AV->FrameMode->Prop
 |none,u=>u= .returning
 |some x,u=>∃v,u= .panicking [{v,recovered:=false}]/\Rep E w x v
def recA:Option AV->AV
 |none=> .p (.prim .nilIface)
 |some x=>x
def ADef (P:Program)(f:FuncId)(args:List AV)(m:Option AV)(h h':Heap):Prop:=
 ∀E w vs u,Rel E h.at w->Fresh E h.length->RepL E w args vs->aDn E w m u->
  CallsD P f (List.toArray vs) u w fun e u' w'=>(∃v,e= .returned v)/\settle u'= .returning/\∃E',Rel E' (Heap.at h') w'/\Fresh E' h'.length/\Fr E h.at w E' (Heap.at h') w'
theorem cJ {P:Program} {ops:Array Oper} {Q:Exit->Act->List Frame->World->Prop} {cs:List Frame} (hQ:∀a w,¬Q .outgrown a cs w):
  ∀(l:List Nat) (a:Act) (w:World),wpOps P ops (fun e a w=>Q e a cs w) l a w->wpOpsS P ops Q l a cs w
 |[],a,w,r=>r
 |i::l,a,w,r=>by
  simp only[wpOps] at r;simp only[wpOpsS];split
  ·rename_i ho;simp only[ho] at r;exact cJ hQ l a w r
  ·rename_i o ho;simp only[ho] at r;split
   ·rename_i hw;simp only[hw,if_true] at r;have r:=r.resolve_right (fun⟨_,a0,w0,hq⟩=>hQ a0 w0 hq);unfold Oper.wp at r;split
    ·rename_i w' hr;rw[hr] at r;exact r.elim
    ·generalize (execOp a.eval o).run P w=rr at*
     cases rr with
     |ok n w'=>
      cases n<;>simp only[Oper.upon] at r⊢<;>first
       |exact cJ hQ l _ _ r
       | exact Calls.mono r (fun e w'' he=>by
         cases e with
         |returned v=>exact cJ hQ l _ _ he
         |panicked ch=>exact he
         |outgrown=>obtain⟨x,y,z⟩:=he;exact absurd z (hQ _ _))
       |exact Rows.mono r (fun _ _ he=>cJ hQ l _ _ he)
     |halt x w'=>cases x<;>simp only[Oper.upon] at r⊢<;>exact r
   ·rename_i hw;simp only[hw] at r;exact cJ hQ l _ _ r
theorem lD {P:Program} {all:Array Oper} {D:List AD} {Q:Exit->Act->World->Prop} {R:List AV->Heap->Prop} :
  ∀(l:List Oper) (T:List AV) (h:Heap) (E:Env) (w:World) (a:Act),bY P all (fun l T h=>l=[]/\R T h) l T h->St E w a T h D->
   (∀E' w' a' T' h',R T' h'->St E' w' a' T' h' D->Fr E h.at w E' (Heap.at h') w'->Q .normal a' w')->wpList P all Q l a w
 |[],T,h,E,w,a,r,s,hQ=>hQ E w a T h r.2 s (Fr.refl _ _ _)
 |o::l,T,h,E,w,a,r,s,hQ=>by
  simp only[bY] at r;simp only[wpList];split at r
  ·rename_i hw;rw[awanted_sound s hw];simp only[if_true];split at r
   ·rename_i x h' ho;left;obtain⟨E',w',n,v,hrun,hn,hr,hf,hx,hfr⟩:=aop_sound ho s;have s':St E' w' (a.put o.dst v) (tput T o.dst x) h' D:=(s.move hfr hr hf).put hx o.dst;have:=lD (Q:=Q) l _ _ E' w' _ r s' (fun E2 w2 a2 T2 h2 hR hs hf2=>hQ E2 w2 a2 T2 h2 hR hs (hfr.trans hf2));unfold Oper.wp;rw[hrun];rcases hn with rfl|⟨rfl,rfl⟩<;>exact this
   ·cases r.1
  ·rename_i hw;rw[awanted_sound s hw];simp only[bMe,if_false];exact lD l _ _ E w _ r (s.put (by simp only[Rep,RepL];exact⟨[],rfl,rfl⟩) o.dst) hQ
  ·cases r.1
theorem ADef.of_run {P:Program} {f:FuncId} {fn:Func} {c:Code} {id:Nat} {o0:Oper} {os:List Oper} {ts:Array TypeId} {args:List AV} {m:Option AV} {h h':Heap} (hf:P.funcs[f]?=some fn)(hb:fn.body=some (.seq (.region id (o0::os).toArray false) c))
  (ho:o0.op= .call ⟨.builtin .recover,#[],ts⟩) (hg:o0.guard=none)
  (r:∀K:List Oper->List AV->Heap->Prop,(∀T g,Run P none h.length [.code c] T g [] (Fin P fn h.length fun o g=>(∃v,o= .ret v)/\g=h')->K [] T g)->
   bY P (o0::os).toArray K os (tput (args++List.replicate (fn.ntmps-args.length) (.tup [])) o0.dst (recA m)) h):ADef P f args m h h':=by
 intro E w vs u hrel hfresh hargs hm;refine callsD_of_wpS hf hb ?_;intro c₀ cs hmode
 --the caller's frame behind recover
 obtain⟨u',x,hrec,hset,hx⟩:∃u' x,(recoverD (c₀::cs)=some (x, {c₀ with mode:=u'} ::cs)\/(recoverD (c₀::cs)=none/\x= .nilIface/\ {c₀ with mode:=u'} =c₀))/\settle u'= .returning/\Rep E w (recA m) x:=by
  cases m with
  |none=>
   simp only[aDn] at hm;subst hm;refine⟨.returning, .nilIface, .inr ⟨?_,rfl,by rw[<-hmode]⟩,rfl,by simp[recA,Rep,RepP,isPrim]⟩;simp[recoverD,hmode]
  |some y=>
   simp only[aDn] at hm;obtain⟨v,rfl,hv⟩:=hm;refine⟨.panicking [{v,recovered:=true}],v, .inl ?_,rfl,hv⟩;simp[recoverD,hmode]
 have s:St E w {tmps:=List.toArray vs++Array.replicate (fn.ntmps-(List.toArray vs).size) undef,defers:=[]} (args++List.replicate (fn.ntmps-args.length) (.tup [])) h []:=by
  exact y35
 have hr0:=r (fun l T g=>l=[]/\Run P none h.length [.code c] T g [] (Fin P fn h.length fun o g=>(∃v,o= .ret v)/\g=h')) (fun T g hh=>⟨rfl,hh⟩);have hs0:=s.put hx o0.dst;generalize hA:({tmps:=List.toArray vs++Array.replicate (fn.ntmps-(List.toArray vs).size) undef,defers:=[]} :Act)=A at hs0 s⊢
 --what the body leaves
 have fin:∀e a w',Post h.length (Fin P fn h.length fun o g=>(∃v,o= .ret v)/\g=h') E h w e a w'->
   bodyPostS P fn c₀ cs (fun e u' w'=>(∃v,e= .returned v)/\settle u'= .returning/\∃E',Rel E' (Heap.at h') w'/\Fresh E' h'.length/\Fr E h.at w E' (Heap.at h') w') e a ({c₀ with mode:=u'} ::cs) w':=by
  rintro e a w' ⟨E',T',g,D',x',hq,s',hfr,hx'⟩
  have ret:(D'=[]/\∃l y h2 m,aX P T' g fn.results.toList=some l/\Settles (bR l) g y h2/\h.length<=m/\m<=h2.length/\y.under m=true/\(h2.take m).all (AO.under m)=true/\(∃v,AOut.ret y= .ret v)/\h2.take m=h')->
    a.defers=[]/\∃u'',({c₀ with mode:=u'} ::cs)= {c₀ with mode:=u''} ::cs/\∃v,(results fn a.tmps).run P w'= .ok v w'/\
     ((∃v',Ending.returned v= .returned v')/\settle u''= .returning/\∃E',Rel E' (Heap.at h') w'/\Fresh E' h'.length/\Fr E h.at w E' (Heap.at h') w'):=by
   rintro⟨rfl,l,y,h2,m,hl,hst,hmm,hm2,hy,hh,_,rfl⟩;have hd:=s'.defers;simp only[RepD] at hd;refine⟨hd,u',rfl,?_⟩;obtain⟨v,e1,e2⟩:=iL (P:=P) a.tmps s'.rel s'.tmps hl;obtain⟨E2,r2,f2,x2,g2⟩:=hst E' w' v s'.rel s'.fresh e2;exact⟨v,e1,⟨v,rfl⟩,hset,E2.cut m,r2.cut m hh,Fresh.cut E2 hm2,(hfr.trans (g2.toN _)).cut hfresh hmm⟩
  cases x' with
  |normal=>simp only[RepX] at hx';subst hx';exact ret hq
  |ret=>simp only[RepX] at hx';subst hx';exact ret hq
  |exit id=>exact hq.elim
  |panic x'=>
   obtain⟨_,_,_,_,_,_,_,_,_,⟨⟨v,hv⟩,_⟩⟩:=hq;cases hv
 refine wpS_seq (wpS_region ?_)
 have hrange:List.range (o0::os).toArray.size=0::List.range' 1 os.length:=by
  rw[List.range_eq_range'];simp[List.range'_succ]
 rw[hrange]
 have hrunrec:(execOp A.eval o0).run P w= .ok .recover w:=by
  simp[execOp,ho,resolve,invoke,builtin]
 have hz:(o0::os).toArray[0]?=some o0:=aA;have hwant:Region.wanted o0 (yielded (o0::os).toArray A.tmps)=true:=by simp[Region.wanted,hg]
 have cont:∀cs',cs'= {c₀ with mode:=u'} ::cs->wpOpsS P (o0::os).toArray (Exit.thenS (c.wpS P (bodyPostS P fn c₀ cs fun e u' w'=>(∃v,e= .returned v)/\settle u'= .returning/\∃E',Rel E' (Heap.at h') w'/\Fresh E' h'.length/\Fr E h.at w E' (Heap.at h') w'))
   (bodyPostS P fn c₀ cs fun e u' w'=>(∃v,e= .returned v)/\settle u'= .returning/\∃E',Rel E' (Heap.at h') w'/\Fresh E' h'.length/\Fr E h.at w E' (Heap.at h') w')) (List.range' 1 os.length) (A.put o0.dst x) cs' w:=by
  rintro cs' rfl;refine cJ ?_ _ _ _ ?_
  ·intro a w' hh;simp only[Exit.thenS,bodyPostS] at hh;obtain⟨_,⟨v,hv⟩,_⟩:=hh;cases hv
  ·rw[wpOps_eq_wpList os 1 (fun j=>by simp[bOn 1 j])];refine lD os _ h E w _ hr0 hs0 ?_;intro E2 w2 a2 T2 h2 hrun hs2 hf2;simp only[Exit.thenS];have hk:=hrun E2 w2 a2 hs2;exact wpS_of_wp (wp_mono (wN.1 hk) fun e a w' hp=>fin e a w' (Post.of_fr hf2 _ _ _ hp))
 simp only[wpOpsS,hz,hwant,if_true,hrunrec];rcases hrec with hrec|⟨hrec,rfl,hsame⟩
 ·simp only[hrec];exact cont _ rfl
 ·simp only[hrec];refine cont _ ?_;rw[hsame]
def wX (P:Program)(fn:Func)(n:Nat)(R:AOut->Heap->Prop)(x:AX)(T:List AV)(h:Heap):List AD->Prop
 |[]=>Fin P fn n R x T h []
 |[(.func f,cap,args)]=>(∀i,x≠ .exit i)/\aK P f=true/\∃h2,ADef P f (args++cap) (match x with| .panic v=>some v|_=>none) h h2/\Fin P fn n R .ret T h2 []
 |_=>False
theorem ACalls.of_runD {P:Program} {f:FuncId} {fn:Func} {c:Code} {args:List AV} {h:Heap} {R:AOut->Heap->Prop} (hf:P.funcs[f]?=some fn)(hb:fn.body=some c)
  (r:Run P none h.length [.code c] (args++List.replicate (fn.ntmps-args.length) (.tup [])) h [] (wX P fn h.length R)):ACalls P f args h R:=by
 intro E w vs hrel hfresh hargs;refine calls_of_wp_defers hf hb ?_
 have s:St E w {tmps:=List.toArray vs++Array.replicate (fn.ntmps-(List.toArray vs).size) undef,defers:=[]} (args++List.replicate (fn.ntmps-args.length) (.tup [])) h []:=by
  exact y35
 refine wp_mono (wN.1 (r E w _ s)) ?_;rintro e a' w' ⟨E',T',h',D',x,hq,s',hfr,hx⟩
 have ret:∀(T1:List AV) (h1:Heap) (E1:Env) (w1:World),RepL E1 w1 T1 a'.tmps.toList->Rel E1 h1.at w1->Fresh E1 h1.length->FrN h.length E h.at w E1 (Heap.at h1) w1->Fin P fn h.length R .ret T1 h1 []->
   ∃v,(results fn a'.tmps).run P w1= .ok v w1/\∃out h'' E'',R out h''/\Rel E'' (Heap.at h'') w1/\Fresh E'' h''.length/\RepO E'' w1 out (.returned v)/\Fr E h.at w E'' (Heap.at h'') w1:=by
  rintro T1 h1 E1 w1 ht hr1 hf1 hfr1 ⟨_,l,y,h2,m,hl,hst,hm,hm2,hy,hh,hR⟩;obtain⟨v,e1,e2⟩:=iL (P:=P) a'.tmps hr1 ht hl;obtain⟨E2,r2,f2,x2,g2⟩:=hst E1 w1 v hr1 hf1 e2;exact y5y
 have hds:=s'.defers
 match D',hq,hds with
 |[],hq,hds=>
  simp only[RepD] at hds;simp only[wX] at hq
  cases x with
  |normal=>simp only[RepX] at hx;subst hx;simp only[bodyPostD,hds,Leaves];exact ret T' h' E' w' s'.tmps s'.rel s'.fresh hfr hq
  |ret=>simp only[RepX] at hx;subst hx;simp only[bodyPostD,hds,Leaves];exact ret T' h' E' w' s'.tmps s'.rel s'.fresh hfr hq
  |exit id=>exact hq.elim
  |panic x=>
   simp only[RepX] at hx;obtain⟨v,rfl,hv⟩:=hx;obtain⟨_,y,h2,m,hst,hm,hm2,hy,hh,hR⟩:=hq;obtain⟨E2,r2,f2,x2,g2⟩:=hst E' w' v s'.rel s'.fresh hv;simp only[bodyPostD,hds,Leaves];exact⟨.panic y,h2.take m,E2.cut m,hR,r2.cut m hh,Fresh.cut E2 hm2,⟨v,rfl,x2.cut hy⟩,(hfr.trans (g2.toN _)).cut hfresh hm⟩
 |[(.func g,cap,dargs)],hq,hds=>
  obtain⟨vc,va,rst,hd,hvc,hva,hrst⟩:=hds;simp only[RepD] at hrst;subst hrst;obtain⟨hnex,hent,h2,hdef,hfin⟩:=hq
  have hinv:∀w,(invoke (.fn (.func g) (List.toArray vc)) (List.toArray va)).run P w= .ok (.enter g (List.toArray (va++vc))) w:=by
   intro w;unfold aK at hent
   cases e:P.funcs[g]? with
   |none=>simp[e] at hent
   |some fn'=>
    simp only[e,bM8,bN0,beq_eq_false_iff_ne,ne_eq] at hent;have hb':fn'.body≠none:=by intro hb';simp[hb'] at hent
    simp[invoke,callFunc,e,hent.2,hb']
  have go:∀u,u≠ .run->aDn E' w' (match x with| .panic v=>some v|_=>none) u->Leaves P fn a'.tmps (fun e w''=>∃out h'' E'',R out h''/\Rel E'' (Heap.at h'') w''/\Fresh E'' h''.length/\RepO E'' w'' out e/\Fr E h.at w E'' (Heap.at h'') w'') a'.defers u w':=by
   intro u hu hmode;rw[hd];refine leaves_cons hu (hinv w') ?_;refine CallsD.mono (hdef E' w' (va++vc) u s'.rel s'.fresh (hva.append hvc) hmode) ?_;rintro e u' w'' ⟨⟨v,rfl⟩,hset,E2,r2,f2,g2⟩;show Leaves P fn a'.tmps _ [] (settle u') w'';rw[hset];exact ret T' h2 E2 w'' (s'.tmps.ext g2.ext) r2 f2 (hfr.trans (g2.toN _)) hfin
  cases x with
  |normal=>simp only[RepX] at hx;subst hx;exact go .returning aA rfl
  |ret=>simp only[RepX] at hx;subst hx;exact go .returning aA rfl
  |exit id=>exact absurd rfl (hnex id)
  |panic x=>
   simp only[RepX] at hx;obtain⟨v,rfl,hv⟩:=hx;exact go (.panicking [{v,recovered:=false}]) aA ⟨v,rfl,hv⟩
end Go.AI
namespace Go.AI
open Go
@[simp] def dU (n:Nat):List AD->Bool
 |[]=>true
 |(.yield id,_,_)::l=>decide (id<n)&& dU n l
 |(_,cap,args)::l=>AV.underL n cap&& AV.underL n args&& dU n l
theorem RepD.cut {E w} {n:Nat} :∀ {D:List AD} {ds:List Deferred},dU n D=true->RepD E w D ds->RepD (E.cut n) w D ds
 |[],_,_,r=>r
 |(f,_,_)::_,_,hb,r=>by
  cases f with
  |yield id=>
   simp only[dU,bM8,bMi] at hb;obtain⟨b,rest,hg,e,r3⟩:=r;exact⟨b,rest,by simp only[Env.cut,hb.1,if_true];exact hg,e,RepD.cut hb.2 r3⟩
  |_=>
   simp only[dU,bM8] at hb;obtain⟨vc,va,rest,e,r1,r2,r3⟩:=r;exact⟨vc,va,rest,e,r1.cut hb.1.1,r2.cut hb.1.2,RepD.cut hb.2 r3⟩
section
variable {P:Program} {rd:Option Nat} {nb:Nat} {k:List It} {T:List AV} {h:Heap} {D:List AD} {Q:AX->List AV->Heap->List AD->Prop}
theorem Run.cut (n:Nat)(hn:nb<=n)(hn2:n<=h.length)(hT:AV.underL n T=true)(hh:(h.take n).all (AO.under n)=true)(hD:dU n D=true)(r:Run P rd nb k T (h.take n) D Q):Run P rd nb k T h D Q:=by
 intro E w a s;have s':St (E.cut n) w a T (h.take n) D:=⟨s.rel.cut n hh,Fresh.cut E hn2,s.tmps.cut hT,s.defers.cut hD⟩
 have hat:∀id o,Heap.at (h.take n) id=some o->id<n/\h.at id=some o:=by
  intro id o e;rw[aAu] at e;exact y6b
 have hfr:FrN nb E h.at w (E.cut n) (Heap.at (h.take n)) w:=by
  refine⟨fun _ _ _=>rfl,fun _ _ h=>h,fun _ _ _=>rfl,fun id b l e=>?_,fun id L l e=>⟨L,?_,bLx _,fun _=>rfl⟩,fun _ _ h=> .inl h,bLx _,fun b ⟨id,ho⟩=> .inl ⟨id,?_⟩,Kp.refl w⟩
  ·have:id<n:=aB;simp only[Env.cut,this,if_true];exact e
  ·have:id<n:=aB;simp only[Env.cut,this,if_true];exact e
  ·rcases ho with ⟨c,h1,h3,h2⟩|⟨m,sz,c,j,h1,h2⟩
   ·exact y77
   ·obtain⟨l,h1⟩:=hat _ _ h1;simp only[Env.cut,l,if_true] at h2;exact .inr ⟨m,sz,c,j,h1,h2⟩
 exact K_mono (P:=P) (rd:=rd) (Post.of_frN (Q:=Q) hfr) k _ _ _ (r _ w a s')
theorem Run.tokAt (id off sz:Nat) {cs:List AV} (hid:h.at id=some (.cells cs))(hs:cs[off]?=some (.p (.prim (.slice none 0 0))))(r:Run P rd nb k T (h.set id (some (.cells (cs.set off (.own h.length sz []))))++[some (.tok 0 sz)]) D Q):Run P rd nb k T h D Q:=by
 intro E w a s;have hlt:=bD hid;obtain⟨t1,t2,t3⟩:=s.rel.newTok s.fresh sz;have s':=s.move t2 t1 (by simpa using t3);have hid':Heap.at (h++[some (.tok 0 sz)]) id=some (.cells cs):=by rw[cM,if_neg aB];exact hid
 obtain⟨b,vs,hg,hrow,hreps⟩:=s'.rel.objs id cs hid'
 have hx:Rep {E with t:=fun id=>if id=h.length then some ⟨none,0,0⟩ else E.t id} w (.own h.length sz []) (.slice none 0 0):=by
  exact y43
 have hoff:off<cs.length:=(bLw.1 hs).1;have hl:=hreps.length
 have hv:vs[off]?=some (.slice none 0 0):=by
  have:=hreps.get off;simp only[List.getD,hs,bMc,bLv (show off<vs.length by omega),Rep,RepP] at this;rw[bLv (show off<vs.length by omega),this.1]
 have hsame:vs.set off (.slice none 0 0)=vs:=by
  exact y60
 have hset:=hreps.set hx off;rw[hsame] at hset;obtain⟨w1,w2⟩:=s'.rel.write hid' hg hrow (fun _ _=>rfl) rfl rfl rfl hset;have e:List.set (h++[some (AO.tok 0 sz)]) id (some (.cells (cs.set off (.own h.length sz []))))=h.set id (some (.cells (cs.set off (.own h.length sz []))))++[some (.tok 0 sz)]:=bMq _ _ hlt;rw[e] at w1 w2;have s2:=s'.move w2 w1 (by simpa using t3);exact K_mono (P:=P) (rd:=rd) (Post.of_fr (Q:=Q) (t2.trans w2)) k _ _ _ (r _ w a s2)
end
theorem Settles.kids {xs:List AV} {id n sz:Nat} {es:List (List PV)} {h:Heap} (hat:h.at id=some (.cells (es.flatten.map .p)))(hes:∀e∈es,e.length=sz)(hn:es.length=n):
  Settles (.agg (xs++[.sm id 0 n n sz])) h (.agg (xs++[.p (.sl sz es)])) (h.set id none):=by
 intro E w v r hf hx;simp only[Rep] at hx;obtain⟨vs,rfl,hx⟩:=hx
 have hsplit:∃us u,vs=us++[u]/\RepL E w xs us/\Rep E w (.sm id 0 n n sz) u:=by
  have h1:=hx.take xs.length;have h2:=hx.drop xs.length;rw[bMx (bLx _),bMm] at h1;rw[List.drop_append_of_le_length (bLx _),bNo,bM4] at h2;simp only[RepL] at h2;obtain⟨u,us',e,r1,rfl⟩:=h2;exact⟨vs.take xs.length,u,by rw[<-e,bN5],h1,r1⟩
 obtain⟨us,u,rfl,hus,hu⟩:=hsplit;simp only[Rep] at hu;obtain⟨b,hg,rfl⟩:=hu;obtain⟨b',vals,hg',hrow,hreps⟩:=r.objs id _ hat;rw[hg] at hg';cases hg';obtain⟨f1,f2⟩:=r.freeze hat hg;refine⟨_,f1,fun i hi=>hf i (by simpa using hi),?_,f2⟩;simp only[Rep];refine⟨_,rfl,(hus.ext f2.ext).append ?_⟩;simp only[RepL];refine⟨_,[],rfl,?_,rfl⟩;simp only[Rep,RepP];refine⟨_,n,by rw[hn],by omega, .inr ⟨b,0,rfl,?_⟩⟩;refine RepEs.of_row hes (fun j v hj=>⟨.inr rfl,?_⟩) (hreps.ext f2.ext);rw[hrow.cell];simpa using hj
theorem Fin.retS {P:Program} {fn:Func} {R:AOut->Heap->Prop} {T:List AV} {h h0 h2:Heap} {n:Nat} {l:List (Option AO)} {x y:AV} {xs:List AV} {ax:AX} (hax:(∀v,ax≠ .panic v)/\∀i,ax≠ .exit i)(hn:h0.length=n)(hh:WF h0)(hr:aX P T h fn.results.toList=some xs)(hx:bR xs=x)(hw:Settles x h y h2)(e:h2=h0++l)(hy:y.under n=true)(hR:R (.ret y) h0):
  Fin P fn n R ax T h []:=by
 subst e hx hn
 have:∃l' y' h' m,aX P T h fn.results.toList=some l'/\Settles (bR l') h y' h'/\h0.length<=m/\m<=h'.length/\y'.under m=true/\(h'.take m).all (AO.under m)=true/\R (.ret y') (h'.take m):=by
  refine⟨xs,y,h0++l,h0.length,hr,hw,bLx _,by simp,hy,?_,?_⟩
  ·rw[take_last];exact hh
  ·rw[take_last];exact hR
 cases ax with
 |panic v=>exact absurd rfl (hax.1 v)
 |exit v=>exact absurd rfl (hax.2 v)
 |normal=>exact⟨rfl,this⟩
 |ret=>exact⟨rfl,this⟩
theorem Fin.pan {P:Program} {fn:Func} {R:AOut->Heap->Prop} {T:List AV} {h h0:Heap} {n:Nat} {l:List (Option AO)} {y:PV} (hn:h0.length=n)(hh:WF h0)(e:h=h0++l)(hR:R (.panic (.p y)) h0):
  Fin P fn n R (.panic (.p y)) T h []:=by
 subst e hn;refine⟨rfl, .p y,h0++l,h0.length,Settles.refl _ _,bLx _,by simp,rfl,?_,?_⟩
 ·rw[take_last];exact hh
 ·rw[take_last];exact hR
theorem tS (keep:List Nat):∀(T:List AV)(i:Nat),WeakL T (keepT.go keep i T)
 |[],_=>WeakL.refl _
 |x::T,i=>by
  simp only[keepT.go];refine WeakL.cons ?_ (tS keep T (i+1));split
  ·exact Weak.refl _
  ·exact Weak.junk _
theorem Run.keep {P:Program} {rd:Option Nat} {nb:Nat} {k:List It} {T:List AV} {h:Heap} {D:List AD} {Q:AX->List AV->Heap->List AD->Prop} (keep:List Nat)(r:Run P rd nb k (keepT keep T) h D Q):Run P rd nb k T h D Q:=
 Run.weak (tS keep T 0) r
theorem uI (h l:List (Option AO))(k:Nat):(h++l).take (h.length+k)=h++l.take k:=by
 rw[List.take_append,bM7 aB];congr 2;omega
theorem Run.cutAt {P:Program} {rd:Option Nat} {nb:Nat} {k:List It} {T:List AV} {h h0:Heap} {l:List (Option AO)} {D:List AD} {Q:AX->List AV->Heap->List AD->Prop} (m:Nat)(hh:WF h0)(e:h=h0++l)(hn:nb<=h0.length)(hm:m<=l.length)(hT:AV.underL (h0.length+m) T=true)
  (hl:(l.take m).all (AO.under (h0.length+m))=true) (hD:dU (h0.length+m) D=true) (r:Run P rd nb k T (h0++l.take m) D Q):Run P rd nb k T h D Q:=by
 subst e;refine Run.cut (h0.length+m) aB (by simp;omega) hT ?_ hD (by rw[uI];exact r);rw[uI,bO9,bM8];refine⟨?_,hl⟩;have:=hh.all;rw[bMg] at this⊢;exact fun o ho=>AO.under_mono aB (this o ho)
theorem cG {h l:List (Option AO)} {n k:Nat} (hn:h.length=n):(h++l)[n+k]?=l[k]?:=by subst hn;exact lX h l k
theorem eG {h l:List (Option AO)} {n:Nat} (hn:h.length=n):(h++l)[n]?=l[0]?:=cG (k:=0) hn
theorem cH {h l:List (Option AO)} {n k:Nat} {o:Option AO} (hn:h.length=n):(h++l).set (n+k) o=h++l.set k o:=by subst hn;exact mJ h l k o
theorem gU {h l:List (Option AO)} {n:Nat} {o:Option AO} (hn:h.length=n):(h++l).set n o=h++l.set 0 o:=cH (k:=0) hn
@[simp] theorem aU8 (l:List PV):(l.map AV.p).all lI=true:=by
 induction l with
 |nil=>rfl
 |cons x l ih=>simp[lI,ih]
@[simp] theorem aT9 (l:List PV):(∀x∈l.map AV.p,lI x=true)=True:=by
 simp
open Go
def AYield (P:Program)(l:Nat)(args:List AV)(h:Heap)(R:AOut->Heap->Prop):Prop:=
 ∀E w vs,Rel E h.at w->Fresh E h.length->RepL E w args vs->
  YieldAt (fen none) 0 P l (List.toArray vs) w fun e w'=>∃out h' E',R out h'/\Rel E' (Heap.at h') w'/\Fresh E' h'.length/\RepO E' w' out e/\Fr E h.at w E' (Heap.at h') w'
theorem AYield.mono {P l args h R R'} (c:AYield P l args h R)(hr:∀out h',R out h'->R' out h'):AYield P l args h R':=
 fun E w vs h1 h2 h3=>by
  obtain⟨fn,tmps,as,bd,e,hround⟩:=c E w vs h1 h2 h3;exact⟨fn,tmps,as,bd,e,hround.mono fun _ _ ⟨out,h',E',hR,rest⟩=>⟨out,h',E',hr _ _ hR,rest⟩⟩
def eJ (T:List AV)(c:Call):Option (Nat×List AV):=
 match c.callee with
 | .value f=>match aev T f with
  | .fn (.yield l) [] []=>some (l,c.args.toList.map (aev T))
  |_=>none
 |_=>none
attribute [simp] eJ
section
variable {P:Program} {rd:Option Nat} {nb:Nat} {k:List It} {T:List AV} {h:Heap} {D:List AD} {Q:AX->List AV->Heap->List AD->Prop} {all:Array Oper} {o:Oper} {rest:List Oper}
theorem sJ {E w a} {c:Call} {l:Nat} {args:List AV} {o:Oper} (s:St E w a T h D)(hc:eJ T c=some (l,args))(ho:o.op= .call c):
  ∃vs,(execOp a.eval o).run P w=(Instr.yield l (List.toArray vs)).run P w/\RepL E w args vs:=by
 unfold eJ at hc;split at hc
 ·rename_i fo hcal;have hf:=aev_rep s fo;have hargs:=fW s c.args.toList;split at hc
  ·rename_i i hev;simp only[bM0,bMf] at hc;obtain⟨rfl,rfl⟩:=hc;rw[hev] at hf;simp only[Rep,RepL] at hf;obtain⟨vs,us,hv,rfl,rfl⟩:=hf;refine⟨c.args.toList.map a.eval,?_,hargs⟩;have e:(List.toArray (c.args.toList.map a.eval))=c.args.map a.eval:=by apply bOb;simp
   rw[e];simp[execOp,ho,resolve,hcal,hv,Deferred.ofValue,invoke]
  ·cases hc
 ·cases hc
theorem Run.yield {c:Call} {l:Nat} {args:List AV} {R:AOut->Heap->Prop} (ho:o.op= .call c)(hw:awanted all T o=some true)(hc:eJ T c=some (l,args))
  (hR:AYield P l args h R) (hret:∀v h',R (.ret v) h'->Run P rd nb (.ops all rest::k) (tput T o.dst v) h' D Q) (hpan:∀v h',R (.panic v) h'->Q (.panic v) T h' D):
  Run P rd nb (.ops all (o::rest)::k) T h D Q:=by
 intro E w a s;obtain⟨vs,hrun,hvs⟩:=sJ (P:=P) s hc ho;obtain⟨fn,tmps,as,bd,hy,hround⟩:=hR E w vs s.rel s.fresh hvs;show wpListIn (fen rd) 0 P all (K P rd (Post nb Q E h w) k) (o::rest) a w;refine yk ?_;refine⟨fun _ _=>trivial,?_⟩;rw[Oper.semAt_eq _ _ _ (fun c hc=>by rw[hc] at ho;cases ho),hrun,hy];refine⟨fun hd=>(by cases hd),?_⟩;refine RoundIn.mono (F:=fen rd) (n:=0) (R:=fun e w'=>∃out h' E',R out h'/\Rel E' (Heap.at h') w'/\Fresh E' h'.length/\RepO E' w' out e/\Fr E h.at w E' (Heap.at h') w') hround ?_;rintro e w' ⟨out,h',E',hr,hrel,hf,hout,hfr⟩;have s':=s.move hfr hrel hf
 cases out with
 |ret x=>
  exact y4y
 |panic x=>
  exact y4z
end
@[simp] def eH (T:List AV):List Tmp->List AV->List AV
 |p::ps,x::xs=>eH (T.set p x) ps xs
 |_,_=>T
theorem qZ {E w} :∀(ps:List Tmp)(xs:List AV)(vs:List Value)(T:List AV)(tmps:Array Value),RepL E w xs vs->RepL E w T tmps.toList->
  RepL E w (eH T ps xs) ((ps.zip vs).foldl (fun tmps (t,a)=>tmps.setIfInBounds t a) tmps).toList
 |[],_,vs,T,tmps,_,ht=>by simpa using ht
 |p::ps,[],vs,T,tmps,hx,ht=>by simp only[RepL] at hx;subst hx;simpa using ht
 |p::ps,x::xs,vs,T,tmps,hx,ht=>by
  simp only[RepL] at hx;obtain⟨v,us,rfl,h1,h2⟩:=hx;simp only[eH,List.zip_cons_cons,List.foldl_cons];refine qZ ps xs us _ _ h2 ?_;rw[Array.toList_setIfInBounds];exact ht.set h1 p
def oH:AX->Option (Option Code)
 | .normal=>some none
 | .ret=>some (some .ret)
 | .exit i=>some (some (.exit i))
 | .panic _=>none
def stOf (j:Option Code):LoopState:=if j.isNone then .ready else .done
def FinY (l id n:Nat)(T0:List AV)(ps:Array Tmp)(as bd:Code)(R:AOut->Heap->Prop)(x:AX)(_:List AV)(h:Heap)(D:List AD):Prop:=
 ∃j m,oH x=some j/\D=[]/\n<=m/\m<=h.length/\h.at id=some (.aux (.loop l .busy none T0 ps as bd))/\
  ((h.set id (some (.aux (.loop l (stOf j) j T0 ps as bd)))).take m).all (AO.under m)=true/\
  R (.ret (.p (.prim (.bool j.isNone)))) ((h.set id (some (.aux (.loop l (stOf j) j T0 ps as bd)))).take m)
theorem Rel.turn {E:Env} {h:Heap} {w:World} (r:Rel E h.at w) {id l:Nat} {st:LoopState} {j:Option Code} {T:List AV} {ps:Array Tmp} {as bd:Code} (hid:h.at id=some (.aux (.loop l st j T ps as bd)))(st':LoopState)(j':Option Code):
  ∃rc:Loop,w.heap[l]?=some (.loop rc)/\rc.state=st/\rc.pending=j/\rc.params=ps/\rc.assign=as/\rc.body=bd/\RepL E w T rc.tmps.toList/\E.g id=some l/\
   ∀rc':Loop,rc'= {rc with state:=st',pending:=j'} ->Rel E (Heap.at (h.set id (some (.aux (.loop l st' j' T ps as bd))))) (w.putObj l (.loop rc'))/\Fr E h.at w E (Heap.at (h.set id (some (.aux (.loop l st' j' T ps as bd))))) (w.putObj l (.loop rc')):=by
 obtain⟨b,hg,rfl,rc,hrc,h1,h2,h3,h4,h5,h6⟩:=r.objsO id _ hid rfl;refine⟨rc,hrc,h1,h2,h3,h4,h5,h6,hg,?_⟩;rintro rc' rfl;refine Rel.writeO r hid rfl rfl hg (fun hx=>⟨rfl,_,World.putObj_heap_same (fI hrc),rfl,rfl,h3,h4,h5,h6.ext hx⟩) (fun b' hb=>World.putObj_heap_other hb) World.putObj_size rfl rfl
theorem AYield.of_run {P:Program} {l id:Nat} {T:List AV} {ps:Array Tmp} {as bd:Code} {args:List AV} {h:Heap} {R:AOut->Heap->Prop} (hid:h.at id=some (.aux (.loop l .ready none T ps as bd)))(hps:args.length=ps.size)
  (r:Run P (some l) h.length [.code as] (eH T ps.toList args) h [] fun x T1 h1 D1=>x= .normal/\D1=[]/\h1.at id=some (.aux (.loop l .ready none T ps as bd))/\
   Run P (some l) h.length [.code bd] T1 (h1.set id (some (.aux (.loop l .busy none T ps as bd)))) [] (FinY l id h.length T ps as bd R)):AYield P l args h R:=by
 intro E w vs hrel hfresh hargs;obtain⟨rc,hrc,h1,h2,h3,h4,h5,h6,hg,_⟩:=hrel.turn hid .ready none;have hl:=hargs.length;have hy:=run_yield (P:=P) (args:=List.toArray vs) hrc (by rw[h3,<-hps,<-hl];simp);refine⟨rc.fn,_,rc.assign,rc.body,hy,?_⟩;rw[h4,h5];refine roundIn_of_wpIn trivial ?_;have hidlt:id<h.length:=bD hid
 have s:St E w {tmps:=(rc.params.zip (List.toArray vs)).foldl (fun tmps (t,a)=>tmps.setIfInBounds t a) rc.tmps,defers:=[]} (eH T ps.toList args) h []:=by
  refine⟨hrel,hfresh,?_,rfl⟩;have:=qZ ps.toList args vs T rc.tmps hargs h6
  have e:(rc.params.zip (List.toArray vs)).foldl (fun tmps (x:Tmp×Value)=>tmps.setIfInBounds x.1 x.2) rc.tmps=(ps.toList.zip vs).foldl (fun tmps (x:Tmp×Value)=>tmps.setIfInBounds x.1 x.2) rc.tmps:=by
   rw[<-Array.foldl_toList,Array.toList_zip,h3]
  show RepL E w _ ((rc.params.zip (List.toArray vs)).foldl (fun tmps (x:Tmp×Value)=>tmps.setIfInBounds x.1 x.2) rc.tmps).toList;rw[e];exact this
 have hrun:=r E w _ s;refine wpIn_mono (Q:=Post h.length _ E h w) hrun ?_;rintro e a₁ w₁ ⟨E1,T1,g1,D1,x,⟨rfl,rfl,hid1,hbody⟩,s1,hfr1,hx⟩;simp only[RepX] at hx;subst hx;obtain⟨rc1,hrc1,k1,k2,k3,k4,k5,k6,hg1,hturn⟩:=s1.rel.turn hid1 .busy none;obtain⟨t1,t2⟩:=hturn {rc1 with state:= .busy} (by rw[<-k2]);refine⟨_,run_beginRound hrc1 k1,?_⟩;have s2:=s1.move t2 t1 (s1.fresh.set);refine wpIn_mono (Q:=Post h.length _ E1 (g1.set id (some (.aux (.loop l .busy none T ps as bd)))) (w₁.putObj l (.loop {rc1 with state:= .busy}))) (hbody _ _ _ s2) ?_;rintro e a₂ w₂ ⟨E2,T2,g2,D2,x,⟨j,m,hj,rfl,hm1,hm2,hid2,hun,hR⟩,s3,hfr3,hx⟩;obtain⟨rc2,hrc2,q1,q2,q3,q4,q5,q6,hg2,hturn2⟩:=s3.rel.turn hid2 (stOf j) j;obtain⟨u1,u2⟩:=hturn2 {rc2 with state:=if j.isNone then .ready else .done,pending:=j} rfl;have hend:=run_endRound (P:=P) j hrc2
 have res:∃out h' E',R out h'/\Rel E' (Heap.at h') (w₂.putObj l (.loop {rc2 with state:=if j.isNone then .ready else .done,pending:=j}))/\Fresh E' h'.length/\
   RepO E' (w₂.putObj l (.loop {rc2 with state:=if j.isNone then .ready else .done,pending:=j})) out (.returned (.bool j.isNone))/\
   Fr E h.at w E' (Heap.at h') (w₂.putObj l (.loop {rc2 with state:=if j.isNone then .ready else .done,pending:=j})):=by
  refine⟨_,_,E2.cut m,hR,u1.cut m hun,Fresh.cut E2 (by simpa using hm2),⟨_,rfl,by simp[Rep,RepP,isPrim]⟩,?_⟩;exact((hfr1.trans (t2.toN _)).trans (hfr3.trans (u2.toN _))).cut hfresh hm1
 cases x with
 |normal=>simp only[RepX] at hx;subst hx;simp only[oH,bM0] at hj;subst hj;exact⟨_,_,hend,res⟩
 |ret=>simp only[RepX] at hx;subst hx;simp only[oH,bM0] at hj;subst hj;exact⟨_,_,hend,res⟩
 |exit i=>simp only[RepX] at hx;subst hx;simp only[oH,bM0] at hj;subst hj;exact⟨_,_,hend,res⟩
 |panic v=>simp[oH] at hj
theorem Run.range {P:Program} {nb:Nat} {k:List It} {T:List AV} {h:Heap} {D:List AD} {Q:AX->List AV->Heap->List AD->Prop} {g:Operand} {ps:Array Tmp} {as bd:Code} {gf:FuncId} {cap:List AV} (hg:aev T g= .fn (.func gf) [] cap)(he:aK P gf=true)
  (r:∀l,∃R:AOut->Heap->Prop,ACalls P gf (.fn (.yield l) [] []::cap) (h++[some (.aux .dblk),some (.aux (.loop l .ready none T ps as bd))]) R/\
   ∀o h',R o h'->∃v st j,o= .ret v/\h'.at (h.length+1)=some (.aux (.loop l st j T ps as bd))/\st≠ .busy/\
    Run P none nb (match j with|none=>k|some c=> .code c::k) T (h'.set (h.length+1) (some (.aux (.loop l .exhausted j T ps as bd)))) ((.yield h.length,[],[])::D) Q):
  Run P none nb (.code (.rangeFunc g ps as bd)::k) T h D Q:=by
 intro E w a s;show(Code.rangeFunc g ps as bd).wpIn (fen none) 0 P (K P none (Post nb Q E h w) k) a w;refine wpIn_rangeFunc ?_;intro fn _;obtain⟨R,hcall,hret⟩:=r (w.heap.size+1);have hev:=aev_rep s g;rw[hg] at hev;simp only[Rep,RepL] at hev;obtain⟨_,us,hv,rfl,hus⟩:=hev
 --the two blocks
 obtain⟨a1,a2,a3⟩:=Rel.allocO s.rel s.fresh (o:= .aux .dblk) (ob:= .deferred (some [])) rfl (fun _ _ _ e=>by cases e) (fun _=>alloc_new _);generalize hE1:({E with g:=fun id=>if id=h.length then some w.heap.size else E.g id} :Env)=E1 at a1 a2 a3;have hsz:(w.alloc (.deferred (some []))).heap.size=w.heap.size+1:=alloc_size _;obtain⟨rc,hrc⟩:∃rc:Loop,rc= {state:= .ready,pending:=none,fn,tmps:=a.tmps,params:=ps,assign:=as,body:=bd,defers:=w.heap.size} :=⟨_,rfl⟩
 obtain⟨b1,b2,b3⟩:=Rel.allocO a1 (h:=h++[some (.aux .dblk)]) (by simpa using a3) (o:= .aux (.loop (w.heap.size+1) .ready none T ps as bd)) (ob:= .loop rc) rfl (fun _ _ _ e=>by cases e)
  (fun hx=>by
   have ht:rc.tmps=a.tmps:=by rw[hrc]
   refine⟨hsz,rc,alloc_new _,by rw[hrc],by rw[hrc],by rw[hrc],by rw[hrc],by rw[hrc],?_⟩;rw[ht];exact(s.tmps.ext a2.ext).ext hx)
 rw[bMj] at b1 b2;simp only[bM5,bM2,bM3] at b1 b2 b3;have hE2:∃E2,E2=({E1 with g:=fun id=>if id=h.length+(0+1) then some (w.alloc (.deferred (some []))).heap.size else E1.g id} :Env):=⟨_,rfl⟩;obtain⟨E2,hE2⟩:=hE2;rw[<-hE2] at b1 b2 b3;have f12:=a2.trans b2
 have hargs:RepL E2 ((w.alloc (.deferred (some []))).alloc (.loop rc)) (.fn (.yield (w.heap.size+1)) [] []::cap) (.func (.yield (w.heap.size+1)) #[] #[]::us):=by
  simp only[RepL,Rep];exact⟨_,us,rfl,⟨[],[],rfl,rfl,rfl⟩,hus.ext f12.ext⟩
 refine⟨w.heap.size+1,[{target:= .collected w.heap.size,args:=#[]}],(w.alloc (.deferred (some []))).alloc (.loop rc), {target:= .fn (.func gf) (List.toArray us),args:=#[.func (.yield (w.heap.size+1)) #[] #[]]},(w.alloc (.deferred (some []))).alloc (.loop rc),gf,
  List.toArray (.func (.yield (w.heap.size+1)) #[] #[]::us),(w.alloc (.deferred (some []))).alloc (.loop rc),?_,?_,fun _ _=>trivial,?_,fun hd=>(by cases hd),?_⟩
 ·rw[hrc];exact run_enterLoop_outer _ _ _ _ _
 ·simp only[resolve,hv];simp[go_sem]
 ·unfold aK at he
  cases e:P.funcs[gf]? with
  |none=>simp[e] at he
  |some fn'=>
   simp only[e,bM8,bN0,beq_eq_false_iff_ne,ne_eq] at he;have hb':fn'.body≠none:=by intro hb';simp[hb'] at he
   simp[invoke,callFunc,e,he.2,hb']
 ·refine callsIn_fen.2 (Calls.mono (hcall E2 _ _ b1 (by simpa using b3) hargs) ?_);rintro e w' ⟨out,h',E',hR,hrel,hf,hout,hfr⟩;obtain⟨v,st,j,rfl,hat,hst,hrun⟩:=hret out h' hR;simp only[RepO] at hout;obtain⟨rv,rfl,_⟩:=hout;obtain⟨rc2,hrc2,q1,q2,q3,q4,q5,q6,hg2,hturn⟩:=hrel.turn hat .exhausted j;obtain⟨u1,u2⟩:=hturn {rc2 with state:= .exhausted} (by rw[<-q2]);have hend:=run_endLoop (P:=P) hrc2 (by rw[q1];exact hst);have fall:=(f12.trans hfr).trans u2;generalize w'.putObj (w.heap.size+1) (.loop {rc2 with state:= .exhausted})=W4 at u1 u2 hend fall
  have hmark:E'.g h.length=some w.heap.size:=by
   have e1:E1.g h.length=some w.heap.size:=by rw[<-hE1];exact if_pos rfl
   have e2:=b2.ext.g _ _ e1;exact hfr.ext.g _ _ e2
  have s':St E' W4 {a with defers:= {target:= .collected w.heap.size,args:=#[]} ::a.defers} T
    (h'.set (h.length+1) (some (.aux (.loop (w.heap.size+1) .exhausted j T ps as bd)))) ((.yield h.length,[],[])::D):=
   ⟨u1,hf.set,s.tmps.ext fall.ext,⟨w.heap.size,a.defers,hmark,rfl,s.defers.ext fall.ext⟩⟩
  refine⟨rc2.pending,_,hend,?_⟩;rw[q2];have:=hrun E' _ _ s'
  cases j with
  |none=>exact K_mono (P:=P) (rd:=none) (Post.of_fr (Q:=Q) fall) k _ _ _ this
  |some c=>exact wpIn_mono this (K_mono (P:=P) (rd:=none) (Post.of_fr (Q:=Q) fall) k)
theorem Rel.drop {E:Env} {h:Heap} {w w':World} (r:Rel E h.at w) {id b:Nat} {o:AO} (hid:h.at id=some o)(hn:o.named=true)(hg:E.g id=some b)
  (hsame:∀b',b'≠b->w'.heap[b']?=w.heap[b']?) (hsz:w'.heap.size=w.heap.size) (hos:w'.os=w.os) (hout:w'.output=w.output) (hf:∀off,w'.frozen? ⟨b,off,none⟩=false):
  Rel E (Heap.at (h.set id none)) w'/\Fr E h.at w E (Heap.at (h.set id none)) w':=by
 have hlt:=bD hid;have hnb:∀b' off,E.ro b' off->b'≠b:=fun b' off hb e=>r.sepO id o b off hid hn hg (e▸hb)
 have hx:Ext E w E w':=⟨fun _ _ h=>h,fun b' off hb=>bS (hsame b' (hnb b' off hb)) off,fun _ _ h=>h,fun _ L h=>⟨L,h,bLx _,fun _=>rfl⟩⟩;have hold:∀id',id'≠id->Heap.at (h.set id none) id'=h.at id':=fun id' hne=>by rw[fK _ _ _ _ hlt,if_neg hne]
 have hnew:Heap.at (h.set id none) id=none:=by rw[fK _ _ _ _ hlt,if_pos rfl]
 have hne:∀id' o,Heap.at (h.set id none) id'=some o->id'≠id:=fun id' o e e'=>by subst e';rw[hnew] at e;cases e
 have hO:∀id' b',fG E (Heap.at (h.set id none)) id' b'->id'≠id/\fG E h.at id' b':=by
  intro id' b' ho;exact y47
 have hob:fG E h.at id b:= .inl ⟨_,hid,hn,hg⟩;have hneq:∀id' b',id'≠id->fG E h.at id' b'->b'≠b:=fun id' b' hne ho e=>hne (r.inj id' id b (e▸ho) hob)
 have hkp:Kp w w':=by
  obtain⟨b0,hg0,ho0⟩:=r.objsO id o hid hn;rw[hg] at hg0;cases hg0;exact Kp.turn hos hout hsame (fun off=>ho0.frozen off) hf
 refine⟨⟨fun id' c hc hm=>?_,fun id' c n sz k cs hc hk=>?_,fun i i' b' h1 h2=>r.inj i i' b' (hO _ _ h1).2 (hO _ _ h2).2,fun id' c b' off hc hm hg' hb=>?_,fun id' c n sz k cs b' c' m off hc hk hg' hl hb=>?_,fun b' off hb=>by rw[hsz];exact r.lt b' off hb⟩,
  ⟨fun b' _ hnn=>hsame b' (fun e=>hnn ⟨id,e▸hob⟩),hx,fun _ _ h=> .inl h,by rw[hsz];exact bLx _,fun b' ⟨i,ho⟩=> .inl ⟨i,(hO _ _ ho).2⟩,hkp⟩⟩
 ·have e:=hne _ _ hc;rw[hold id' e] at hc;obtain⟨b',hg',ho⟩:=r.objsO id' c hc hm;exact⟨b',hg',ho.move hx (hsame b' (hneq id' b' e (.inl ⟨c,hc,hm,hg'⟩)))⟩
 ·have e:=hne _ _ hc;rw[hold id' e] at hc;obtain⟨blk,cap,ht,h1,h2,h3⟩:=r.toks id' c n sz k cs hc hk;refine⟨blk,cap,ht,h1,h2,fun b' hb=>?_⟩;obtain⟨vs,hr,hl,hp⟩:=h3 b' hb;subst hb;exact⟨vs,hr.same (hsame b' (hneq id' b' e (.inr ⟨c,_,cap,n,hc,hk,ht⟩))),hl,hp.ext hx⟩
 ·have e:=hne _ _ hc;rw[hold id' e] at hc;exact r.sepO id' c b' off hc hm hg' hb
 ·have e:=hne _ _ hc;rw[hold id' e] at hc;exact r.sepT id' c n sz k cs b' c' m off hc hk hg' hl hb
def FinM (P:Program)(fn:Func)(n:Nat)(R:AOut->Heap->Prop)(x:AX)(T:List AV):Heap->List AD->Prop
 |h,[]=>Fin P fn n R x T h []
 |h,(.yield id,_,_)::D=>h.at id=some (.aux .dblk)/\FinM P fn n R x T (h.set id none) D
 |_,_=>False
theorem ACalls.of_runM {P:Program} {f:FuncId} {fn:Func} {c:Code} {args:List AV} {h:Heap} {R:AOut->Heap->Prop} (hf:P.funcs[f]?=some fn)(hb:fn.body=some c)
  (r:Run P none h.length [.code c] (args++List.replicate (fn.ntmps-args.length) (.tup [])) h [] (fun x T g D=>FinM P fn h.length R x T g D)):ACalls P f args h R:=by
 intro E w vs hrel hfresh hargs;refine callsIn_fen.1 (callsIn_of_wp_marks (F:=fen none) (n:=0) hf hb trivial ?_)
 have s:St E w {tmps:=List.toArray vs++Array.replicate (fn.ntmps-(List.toArray vs).size) undef,defers:=[]} (args++List.replicate (fn.ntmps-args.length) (.tup [])) h []:=by
  exact y35
 refine wpIn_mono (Q:=Post h.length _ E h w) (r E w _ s) ?_;rintro e a' w' ⟨E',T',h',D',x,hq,s',hfr,hx⟩
 have key:∀(D':List AD) (h':Heap) (E':Env) (w':World) (ds:List Deferred) (u:FrameMode),RepD E' w' D' ds->Rel E' (Heap.at h') w'->Fresh E' h'.length->RepL E' w' T' a'.tmps.toList->FrN h.length E h.at w E' (Heap.at h') w'->
   FinM P fn h.length R x T' h' D'->(match x with| .panic y=>∃v,u= .panicking [{v,recovered:=false}]/\Rep E' w' y v|_=>u= .returning)->
   LeavesInM (fen none) 0 P fn a'.tmps (fun e w''=>∃out h'' E'',R out h''/\Rel E'' (Heap.at h'') w''/\Fresh E'' h''.length/\RepO E'' w'' out e/\Fr E h.at w E'' (Heap.at h'') w'') ds u w':=by
  intro D'
  induction D' with
  |nil=>
   intro h' E' w' ds u hd hr1 hf1 ht hfr1 hq hu;simp only[RepD] at hd;subst hd;simp only[FinM] at hq
   have ret:(∃l y h2 m,aX P T' h' fn.results.toList=some l/\Settles (bR l) h' y h2/\h.length<=m/\m<=h2.length/\y.under m=true/\(h2.take m).all (AO.under m)=true/\R (.ret y) (h2.take m))->u= .returning->
     LeavesInM (fen none) 0 P fn a'.tmps (fun e w''=>∃out h'' E'',R out h''/\Rel E'' (Heap.at h'') w''/\Fresh E'' h''.length/\RepO E'' w'' out e/\Fr E h.at w E'' (Heap.at h'') w'') [] u w':=by
    rintro⟨l,y,h2,m,hl,hst,hm,hm2,hy,hh,hR⟩ rfl;obtain⟨v,e1,e2⟩:=iL (P:=P) a'.tmps hr1 ht hl;obtain⟨E2,r2,f2,x2,g2⟩:=hst E' w' v hr1 hf1 e2;exact y5y
   cases x with
   |normal=>exact ret hq.2 hu
   |ret=>exact ret hq.2 hu
   |exit id=>exact hq.elim
   |panic y0=>
    obtain⟨v,rfl,hv⟩:=hu;obtain⟨_,y,h2,m,hst,hm,hm2,hy,hh,hR⟩:=hq;obtain⟨E2,r2,f2,x2,g2⟩:=hst E' w' v hr1 hf1 hv;exact⟨.panic y,h2.take m,E2.cut m,hR,r2.cut m hh,Fresh.cut E2 hm2,⟨v,rfl,x2.cut hy⟩,(hfr1.trans (g2.toN _)).cut hfresh hm⟩
  |cons d D' ih=>
   intro h' E' w' ds u hd hr1 hf1 ht hfr1 hq hu;obtain⟨f0,c0,ar0⟩:=d
   cases f0 with
   |yield id=>
    obtain⟨b,rest,hg,rfl,hrest⟩:=hd;obtain⟨hat,hq⟩:=hq;obtain⟨b',hg',hblk⟩:=hr1.objsO id _ hat rfl;rw[hg] at hg';cases hg';obtain⟨d1,d2⟩:=hr1.drop (w':=w'.putObj b (.deferred none)) hat rfl hg (fun b' hb=>World.putObj_heap_other hb) World.putObj_size rfl rfl (fun off=>by simp[World.frozen?,World.putObj_heap_same (fI hblk)])
    have hne:u≠ .run:=by
     cases x with
     |panic y0=>obtain⟨v,rfl,_⟩:=hu;simp
     |_=>simp only at hu;rw[hu];simp
    refine⟨hne, .inl ⟨b,_,rfl,run_takeDeferred hblk,?_⟩⟩;refine ih _ E' _ rest u (hrest.ext d2.ext) d1 hf1.set (ht.ext d2.ext) (hfr1.trans (d2.toN _)) hq ?_
    cases x with
    |panic y0=>obtain⟨v,rfl,hv⟩:=hu;exact⟨v,rfl,hv.ext d2.ext⟩
    |_=>exact hu
   |_=>exact hq.elim
 cases x with
 |normal=>simp only[RepX] at hx;subst hx;exact key D' h' E' w' _ _ s'.defers s'.rel s'.fresh s'.tmps hfr hq rfl
 |ret=>simp only[RepX] at hx;subst hx;exact key D' h' E' w' _ _ s'.defers s'.rel s'.fresh s'.tmps hfr hq rfl
 |exit id=>
  simp only[RepX] at hx;subst hx;exfalso
  have:∀(D':List AD) (h':Heap),FinM P fn h.length R (.exit id) T' h' D'->False:=by
   intro D'
   induction D' with
   |nil=>intro h' hq;exact hq
   |cons d D' ih=>
    intro h' hq;obtain⟨f0,c0,ar0⟩:=d
    cases f0<;>first|exact hq.elim|exact ih _ hq.2
  exact this _ _ hq
 |panic v=>
  simp only[RepX] at hx;obtain⟨u,rfl,hv⟩:=hx;exact key D' h' E' w' _ _ s'.defers s'.rel s'.fresh s'.tmps hfr hq ⟨u,rfl,hv⟩
open Go
abbrev tv (b:Bool):AV:= .p (.prim (.bool b))
theorem aB0 {b want:Bool} (e:¬b=want):b=!want:=by cases b<;>cases want<;>first|rfl|exact absurd rfl e
theorem wE {T:List AV} {d:Nat} {x:AV} (h:tget T d=x):T.set d x=T:=by
 apply bNj;intro j;refine y1t ?_;split
 ·rename_i e;subst e;rw[tget_eq] at h;rcases bNi d T.length with l|l
  ·simp[l] at h⊢;exact h.symm
  ·simp[bNz l];omega
 ·rfl
def sH (P:Program)(all:Array Oper)(K:List Oper->List AV->Heap->Prop):List Oper->List AV->Heap->Prop
 |[],T,h=>K [] T h
 |o::l,T,h=>
  match o.guard with
  |none=>match aop P (aev T) h o.op with
   |some (x,h')=>sH P all K l (tput T o.dst x) h'
   |none=>K (o::l) T h
  |some (g,want)=>match (all[g]?).bind (·.dst) with
   |none=>sH P all K l (tput T o.dst (.tup [])) h
   |some d=>match tget T d with
    | .tup []=>sH P all K l (tput T o.dst (.tup [])) h
    | .p (.prim (.bool b))=>
     (b=want->match aop P (aev (T.set d (tv want))) h o.op with
      |some (x,h')=>sH P all K l (tput (T.set d (tv want)) o.dst x) h'
      |none=>K (o::l) (T.set d (tv want)) h)/\
     (b=!want->sH P all K l (tput (T.set d (tv (!want))) o.dst (.tup [])) h)
    |_=>K (o::l) T h
theorem aS9 (P:Program)(all:Array Oper)(K:List Oper->List AV->Heap->Prop)(T:List AV)(h:Heap):sH P all K [] T h=K [] T h:=by simp only[sH]
theorem aNk (P:Program)(all:Array Oper)(K:List Oper->List AV->Heap->Prop)(o:Oper)(l:List Oper)(T:List AV)(h:Heap):sH P all K (o::l) T h=
  (
  match o.guard with
  |none=>match aop P (aev T) h o.op with
   |some (x,h')=>sH P all K l (tput T o.dst x) h'
   |none=>K (o::l) T h
  |some (g,want)=>match (all[g]?).bind (·.dst) with
   |none=>sH P all K l (tput T o.dst (.tup [])) h
   |some d=>match tget T d with
    | .tup []=>sH P all K l (tput T o.dst (.tup [])) h
    | .p (.prim (.bool b))=>
     (b=want->match aop P (aev (T.set d (tv want))) h o.op with
      |some (x,h')=>sH P all K l (tput (T.set d (tv want)) o.dst x) h'
      |none=>K (o::l) (T.set d (tv want)) h)/\
     (b=!want->sH P all K l (tput (T.set d (tv (!want))) o.dst (.tup [])) h)
    |_=>K (o::l) T h):=by simp only[sH]
theorem jE {all:Array Oper} {T:List AV} {o:Oper} {g d:Nat} {want b:Bool} (hg:o.guard=some (g,want))(hd:(all[g]?).bind (·.dst)=some d)(hT:tget T d=tv b):awanted all T o=some (b==want):=by
 simp only[awanted,hg,hd,hT]
theorem eI {P:Program} {rd:Option Nat} {nb:Nat} {all:Array Oper} {k:List It} {D:List AD} {Q:AX->List AV->Heap->List AD->Prop} {K:List Oper->List AV->Heap->Prop} (J:∀l T h,K l T h->Run P rd nb (.ops all l::k) T h D Q):
  ∀(l:List Oper) (T:List AV) (h:Heap),sH P all K l T h->Run P rd nb (.ops all l::k) T h D Q
 |[],T,h,r=>J _ _ _ r
 |o::l,T,h,r=>by
  simp only[sH] at r;split at r
  ·rename_i hg;have hw:awanted all T o=some true:=by simp only[awanted,hg]
   split at r
   ·rename_i x h' ho;exact Run.op hw ho (eI J l _ _ r)
   ·exact J _ _ _ r
  ·rename_i g want hg;split at r
   ·rename_i hd;have hw:awanted all T o=some false:=by simp only[awanted,hg,hd]
    exact Run.off hw (eI J l _ _ r)
   ·rename_i d hd;split at r
    ·rename_i hT;have hw:awanted all T o=some false:=by simp only[awanted,hg,hd,hT]
     exact Run.off hw (eI J l _ _ r)
    ·rename_i b hT;have hw:=jE hg hd hT;have hs:=wE hT
     by_cases e:b=want
     ·subst e;have r1:=r.1 rfl;rw[show T.set d (tv b)=T from hs] at r1;split at r1
      ·rename_i x h' ho;exact Run.op (by rw[hw];simp) ho (eI J l _ _ r1)
      ·exact J _ _ _ r1
     ·have e':b=!want:=aB0 e;have r2:=r.2 e';rw[<-e',show T.set d (tv b)=T from hs] at r2;exact Run.off (by rw[hw];simp[e]) (eI J l _ _ r2)
    ·exact J _ _ _ r
theorem Weak.bool {a b:Bool} (h:a=b):Weak (tv a) (tv b):=by subst h;exact Weak.refl _
section
variable {P:Program} {rd:Option Nat} {nb:Nat} {k:List It} {T:List AV} {h:Heap} {D:List AD} {Q:AX->List AV->Heap->List AD->Prop}
theorem Run.regJ {id:Nat} {l:List Oper} (keep:List Nat)(slot:Nat)(b:Bool)
  (r:∀K:List Oper->List AV->Heap->Prop,(∀T',WeakL T' (setMany (keepT keep T) [(slot,tv b)])->K [] T' h)->sH P l.toArray K l T h)
  (next:Run P rd nb k (setMany (keepT keep T) [(slot,tv b)]) h D Q):Run P rd nb (.code (.region id l.toArray false)::k) T h D Q:=
 Run.region (eI (K:=fun l' T' h'=>Run P rd nb (.ops l.toArray l'::k) T' h' D Q) (fun _ _ _ h=>h) l T h (r _ fun _ hw=>Run.opsNil (Run.weak hw next)))
theorem Run.join {c:Code} (keep:List Nat)(slot:Nat)(b:Bool)(r:(∀T',WeakL T' (setMany (keepT keep T) [(slot,tv b)])->Run P rd nb k T' h D Q)->Run P rd nb (.code c::k) T h D Q)
  (next:Run P rd nb k (setMany (keepT keep T) [(slot,tv b)]) h D Q):Run P rd nb (.code c::k) T h D Q:=r fun _ hw=>Run.weak hw next
theorem Run.opsJ {all:Array Oper} {l:List Oper} (keep:List Nat)(slot:Nat)(b:Bool)
  (r:∀K:List Oper->List AV->Heap->Prop,(∀T',WeakL T' (setMany (keepT keep T) [(slot,tv b)])->K [] T' h)->sH P all K l T h)
  (next:Run P rd nb k (setMany (keepT keep T) [(slot,tv b)]) h D Q):Run P rd nb (.ops all l::k) T h D Q:=
 eI (K:=fun l' T' h'=>Run P rd nb (.ops all l'::k) T' h' D Q) (fun _ _ _ h=>h) l T h (r _ fun _ hw=>Run.opsNil (Run.weak hw next))
end
section
variable {P:Program} {ops:Array Oper} {rd:Option Nat} {nb:Nat} {k:List It} {D:List AD} {Q:AX->List AV->Heap->List AD->Prop}
def drG (P:Program)(ops:Array Oper)(lo:List Nat)(K:List Nat->List Heap->List AV->Heap->Prop):List Nat->List Heap->List AV->Heap->Prop
 |[],hist,T,h=>K [] hist T h
 |i::π,hist,T,h=>
  match ops[i]? with
  |none=>False
  |some o=>match o.guard with
   |none=>match aop P (aev T) h o.op with
    |some (x,h')=>if isE o.op then drG P ops lo K π (hist++[h]) (tput T o.dst x) h' else stab P T x o.op (hist.drop (lo.getD i 0))/\drG P ops lo K π hist (tput T o.dst x) h
    |none=>K (i::π) hist T h
   |some (g,want)=>match (ops[g]?).bind (·.dst) with
    |none=>drG P ops lo K π (if isE o.op then hist++[h] else hist) (tput T o.dst (.tup [])) h
    |some d=>match tget T d with
     | .tup []=>drG P ops lo K π (if isE o.op then hist++[h] else hist) (tput T o.dst (.tup [])) h
     | .p (.prim (.bool b))=>
      (b=want->match aop P (aev (T.set d (tv want))) h o.op with
       |some (x,h')=>if isE o.op then drG P ops lo K π (hist++[h]) (tput (T.set d (tv want)) o.dst x) h' else stab P (T.set d (tv want)) x o.op (hist.drop (lo.getD i 0))/\drG P ops lo K π hist (tput (T.set d (tv want)) o.dst x) h
       |none=>K (i::π) hist (T.set d (tv want)) h)/\
      (b=!want->drG P ops lo K π (if isE o.op then hist++[h] else hist) (tput (T.set d (tv (!want))) o.dst (.tup [])) h)
     |_=>K (i::π) hist T h
theorem aUr (P:Program)(ops:Array Oper)(lo:List Nat)(K:List Nat->List Heap->List AV->Heap->Prop)(hist:List Heap)(T:List AV)(h:Heap):drG P ops lo K [] hist T h=K [] hist T h:=by simp only[drG]
theorem aPl (P:Program)(ops:Array Oper)(lo:List Nat)(K:List Nat->List Heap->List AV->Heap->Prop)(i:Nat)(π:List Nat)(hist:List Heap)(T:List AV)(h:Heap):drG P ops lo K (i::π) hist T h=
  (
  match ops[i]? with
  |none=>False
  |some o=>match o.guard with
   |none=>match aop P (aev T) h o.op with
    |some (x,h')=>if isE o.op then drG P ops lo K π (hist++[h]) (tput T o.dst x) h' else stab P T x o.op (hist.drop (lo.getD i 0))/\drG P ops lo K π hist (tput T o.dst x) h
    |none=>K (i::π) hist T h
   |some (g,want)=>match (ops[g]?).bind (·.dst) with
    |none=>drG P ops lo K π (if isE o.op then hist++[h] else hist) (tput T o.dst (.tup [])) h
    |some d=>match tget T d with
     | .tup []=>drG P ops lo K π (if isE o.op then hist++[h] else hist) (tput T o.dst (.tup [])) h
     | .p (.prim (.bool b))=>
      (b=want->match aop P (aev (T.set d (tv want))) h o.op with
       |some (x,h')=>if isE o.op then drG P ops lo K π (hist++[h]) (tput (T.set d (tv want)) o.dst x) h' else stab P (T.set d (tv want)) x o.op (hist.drop (lo.getD i 0))/\drG P ops lo K π hist (tput (T.set d (tv want)) o.dst x) h
       |none=>K (i::π) hist (T.set d (tv want)) h)/\
      (b=!want->drG P ops lo K π (if isE o.op then hist++[h] else hist) (tput (T.set d (tv (!want))) o.dst (.tup [])) h)
     |_=>K (i::π) hist T h):=by simp only[drG]
theorem aTe {lo:List Nat} {Kont:List AV->Heap->Prop} {i:Nat} {π:List Nat} {hist:List Heap} {T:List AV} {h h':Heap} {o:Oper} {x:AV} (ho:ops[i]?=some o)(hw:awanted ops T o=some true)(hop:aop P (aev T) h o.op=some (x,h'))
  (d:if isE o.op then DR P ops lo Kont π (hist++[h]) (tput T o.dst x) h' else stab P T x o.op (hist.drop (lo.getD i 0))/\DR P ops lo Kont π hist (tput T o.dst x) h):DR P ops lo Kont (i::π) hist T h:=by
 split at d
 ·rename_i hE;exact⟨o,ho, .inr (.inr (.inl ⟨hw,hE,x,h',hop,d⟩))⟩
 ·rename_i hE;have hE':isE o.op=false:=by simpa using hE
  have:=gL hE' hop;subst this;exact⟨o,ho, .inr (.inl ⟨hw,hE',x,hop,d.1,d.2⟩)⟩
theorem xX {lo:List Nat} {Kont:List AV->Heap->Prop} {K:List Nat->List Heap->List AV->Heap->Prop} (J:∀π hist T h,K π hist T h->DR P ops lo Kont π hist T h):
  ∀(π:List Nat) (hist:List Heap) (T:List AV) (h:Heap),drG P ops lo K π hist T h->DR P ops lo Kont π hist T h
 |[],_,_,_,d=>J _ _ _ _ d
 |i::π,hist,T,h,d=>by
  have ih:=xX J π;simp only[drG] at d;split at d
  ·exact d.elim
  ·rename_i o ho;split at d
   ·rename_i hg;have hw:awanted ops T o=some true:=by simp only[awanted,hg]
    split at d
    ·rename_i x h' hop;refine aTe ho hw hop ?_;split at d
     ·rename_i hE;simp only[hE,if_true];exact ih _ _ _ d
     ·rename_i hE;rw[if_neg hE];exact⟨d.1,ih _ _ _ d.2⟩
    ·exact J _ _ _ _ d
   ·rename_i g want hg;split at d
    ·rename_i hd;have hw:awanted ops T o=some false:=by simp only[awanted,hg,hd]
     exact⟨o,ho, .inl ⟨hw,ih _ _ _ d⟩⟩
    ·rename_i dd hd;split at d
     ·rename_i hT;have hw:awanted ops T o=some false:=by simp only[awanted,hg,hd,hT]
      exact⟨o,ho, .inl ⟨hw,ih _ _ _ d⟩⟩
     ·rename_i b hT;have hw:=jE hg hd hT;have hs:=wE hT
      by_cases e:b=want
      ·subst e;have r1:=d.1 rfl;rw[show T.set dd (tv b)=T from hs] at r1;split at r1
       ·rename_i x h' hop;refine aTe ho (by rw[hw];simp) hop ?_;split at r1
        ·rename_i hE;simp only[hE,if_true];exact ih _ _ _ r1
        ·rename_i hE;rw[if_neg hE];exact⟨r1.1,ih _ _ _ r1.2⟩
       ·exact J _ _ _ _ r1
      ·have e':b=!want:=aB0 e;have r2:=d.2 e';rw[<-e',show T.set dd (tv b)=T from hs] at r2;exact⟨o,ho, .inl ⟨by rw[hw];simp[e],ih _ _ _ r2⟩⟩
     ·exact J _ _ _ _ d
theorem DR.goJ {lo:List Nat} {π:List Nat} {hist:List Heap} {T:List AV} {h:Heap} (keep:List Nat)(slot:Nat)(b:Bool)
  (r:∀K:List Nat->List Heap->List AV->Heap->Prop,(∀hist T',WeakL T' (setMany (keepT keep T) [(slot,tv b)])->K [] hist T' h)->drG P ops lo K π hist T h)
  (next:Run P rd nb k (setMany (keepT keep T) [(slot,tv b)]) h D Q):DR P ops lo (fun T h=>Run P rd nb k T h D Q) π hist T h:=
 xX (fun _ _ _ _ h=>h) π hist T h (r _ fun _ _ hw=>Run.weak hw next)
end
attribute [simp] aS9 aNk aUr aPl
open Go
inductive Nv:List It->List It->Prop
 |seq {x y:Code} {k k':List It} (h:Nv (.code x:: .code y::k) k'):Nv (.code (.seq x y)::k) k'
 |block {id:Nat} {c:Code} {k k':List It} (h:Nv (.code c:: .inBlock id::k) k'):Nv (.code (.block id c)::k) k'
 |skip {k k':List It} (h:Nv k k'):Nv (.code .skip::k) k'
 |inBlock {id:Nat} {k k':List It} (h:Nv k k'):Nv (.inBlock id::k) k'
 |opsNil {all:Array Oper} {k k':List It} (h:Nv k k'):Nv (.ops all []::k) k'
 |done {k:List It} :Nv k k
theorem nv {P:Program} {rd:Option Nat} {nb:Nat} {T:List AV} {h:Heap} {D:List AD} {Q:AX->List AV->Heap->List AD->Prop} {k k':List It} (r:Run P rd nb k' T h D Q)(n:Nv k k':=by repeat constructor):Run P rd nb k T h D Q:=by
 induction n with
 |seq _ ih=>exact Run.seq (ih r)
 |block _ ih=>exact Run.block (ih r)
 |skip _ ih=>exact Run.skip (ih r)
 |inBlock _ ih=>exact Run.inBlock (ih r)
 |opsNil _ ih=>exact Run.opsNil (ih r)
 |done=>exact r
inductive Nw:List It->List It->Prop
 |seq {x y:Code} {k:List It} :Nw (.code (.seq x y)::k) (.code x:: .code y::k)
 |block {id:Nat} {c:Code} {k:List It} :Nw (.code (.block id c)::k) (.code c:: .inBlock id::k)
 |skip {k:List It} :Nw (.code .skip::k) k
 |inBlock {id:Nat} {k:List It} :Nw (.inBlock id::k) k
 |opsNil {all:Array Oper} {k:List It} :Nw (.ops all []::k) k
theorem nw {P:Program} {rd:Option Nat} {nb:Nat} {T:List AV} {h:Heap} {D:List AD} {Q:AX->List AV->Heap->List AD->Prop} {k k':List It} (r:Run P rd nb k' T h D Q)(n:Nw k k':=by constructor):Run P rd nb k T h D Q:=by
 cases n with
 |seq=>exact Run.seq r
 |block=>exact Run.block r
 |skip=>exact Run.skip r
 |inBlock=>exact Run.inBlock r
 |opsNil=>exact Run.opsNil r
theorem ct {P:Program} {rd:Option Nat} {nb:Nat} {T:List AV} {h:Heap} {D:List AD} {Q:AX->List AV->Heap->List AD->Prop} {k:List It} {c:Operand} {x y:Code} (hc:aev T c= .p (.prim (.bool true)))(r:Run P rd nb (.code x::k) T h D Q):Run P rd nb (.code (.cond c x y)::k) T h D Q:=Run.cond hc (by simpa only[if_true] using r)
theorem cf {P:Program} {rd:Option Nat} {nb:Nat} {T:List AV} {h:Heap} {D:List AD} {Q:AX->List AV->Heap->List AD->Prop} {k:List It} {c:Operand} {x y:Code} (hc:aev T c= .p (.prim (.bool false)))(r:Run P rd nb (.code y::k) T h D Q):Run P rd nb (.code (.cond c x y)::k) T h D Q:=Run.cond hc (by simpa only[bMe,if_false] using r)
theorem rl {P:Program} {rd:Option Nat} {nb:Nat} {T:List AV} {h g:Heap} {D:List AD} {Q:AX->List AV->Heap->List AD->Prop} {k:List It} {all:Array Oper} {o:Oper} {rest:List Oper} {c:Call} {f:FuncId} {args:List AV} {v:AV} (ho:o.op= .call c)(hw:awanted all T o=some true)(hc:acallee T c=some (f,args))(he:aK P f=true)
  (hR:ACalls P f args h fun o' h'=>o'= .ret v/\h'=g) (r:Run P rd nb (.ops all rest::k) (tput T o.dst v) g D Q):Run P rd nb (.ops all (o::rest)::k) T h D Q:=by
 refine Run.call ho hw hc he hR ?_ ?_
 ·rintro v' h' ⟨hv,rfl⟩;simp only[AOut.ret.injEq] at hv;subst hv;exact r
 ·rintro v' h' ⟨hv,_⟩;cases hv
theorem wn:WeakL [] []:=WeakL.nil
theorem wc {x y:AV} {xs ys:List AV} (h:Weak x y)(hs:WeakL xs ys):WeakL (x::xs) (y::ys):=WeakL.cons h hs
theorem wj (x:AV):Weak x .junk:=Weak.junk x
theorem wr (x:AV):Weak x x:=Weak.refl x
theorem wz (sz:Nat):Weak (.p (.prim (.slice none 0 0))) (.p (.sl sz [])):=Weak.nil sz
theorem wo (tok sz:Nat)(es:List (List PV)):Weak (.own tok sz es) (.p (.sl sz es)):=Weak.own tok sz es
theorem wi {k:IntKind} {a b:Int} (h:a=b):Weak (.p (.prim (.int k a))) (.p (.prim (.int k b))):=Weak.int h
section
variable {G Z A0 A1 A2 A3 A4 A5 A6 A7 A8 A9 A10 A11 A12:Prop}
theorem zF1 {G A B:Prop} (a:A)(b:B)(h:A->Bx B->G:=by intro a b;exact Go.AI.Fin.ret' aA rfl a rfl aE rfl (Go.AI.Weak.refl _) aA b.o):G:=h a ⟨b⟩
theorem zF2 {G A B:Prop} (a:A)(b:B)(h:A->Bx B->G:=by intro a b;exact Go.AI.Fin.ret' aA rfl a rfl rfl rfl (Go.AI.Weak.refl _) rfl b.o):G:=h a ⟨b⟩
theorem zF3 {G A B:Prop} (a:A)(b:B)(h:A->Bx B->G:=by intro a b;exact Go.AI.Fin.ret' aA rfl a (bM1 _).symm rfl rfl (Go.AI.Weak.refl _) rfl b.o):G:=h a ⟨b⟩
theorem zF4 {G A B:Prop} (a:A)(b:B)(h:A->Bx B->G:=by intro a b;exact Go.AI.Fin.ret' aA rfl a (bM1 _).symm aE rfl (Go.AI.Weak.refl _) aA b.o):G:=h a ⟨b⟩
theorem zF5 {G A B:Prop} (a:A)(b:B)(h:A->Bx B->G:=by intro a b;exact Go.AI.Fin.ret' aA aA a rfl rfl rfl (Go.AI.Weak.refl _) rfl b.o):G:=h a ⟨b⟩
theorem zF6 {G A B:Prop} (a:A)(b:B)(h:A->Bx B->G:=by intro a b;exact Go.AI.Fin.ret' aA aA a rfl aE rfl (Go.AI.Weak.refl _) aA b.o):G:=h a ⟨b⟩
theorem zK (h:G:=by repeat' first|exact wn|apply wc|exact wj _|exact wr _|exact wz _|exact wo _ _ _|exact wi aB):G:=h
theorem zS (h:G:=by simp;repeat' first|exact wn|apply wc|exact wj _|exact wr _|exact wz _|exact wo _ _ _|exact wi aB):G:=h
theorem zA (g:Z)(h:Bx Z->G:=by intro g;(repeat (first|refine nw ?_|(refine Run.reg fun K J=>?_;simp;refine zi ?_)|refine ct rfl ?_|refine cf rfl ?_|refine Run.exit rfl ?_|refine Run.ret ?_));exact g.o):G:=h ⟨g⟩
theorem zj (g:Z)(h:Bx Z->G:=by intro g;(try (simp (disch:=omega) only[wrap_id]));refine J _ _ _ (nv ?_);exact g.o):G:=h ⟨g⟩
theorem zi (g:Z)(h:Bx Z->G:=by intro g;(try (simp (disch:=omega) only[wrap_id]));refine J _ _ _ ?_;exact g.o):G:=h ⟨g⟩
theorem zh (g:Z)(h:Bx Z->G:=by intro g;(try (simp (disch:=omega) only[wrap_id]));refine J _ _ _ _ ?_;exact g.o):G:=h ⟨g⟩
theorem zd (g:Z)(h:Bx Z->G:=by intro g;refine DR.go fun K J=>?_;simp;refine zh ?_;exact g.o):G:=h ⟨g⟩
theorem zd1 (a0:A0)(g:Z)(h:A0->Bx Z->G:=by intro a0 g;refine DR.go fun K J=>?_;simp[a0];refine zh ?_;exact g.o):G:=h a0 ⟨g⟩
theorem zd10 (a0:A0)(a1:A1)(a2:A2)(a3:A3)(a4:A4)(a5:A5)(a6:A6)(a7:A7)(a8:A8)(a9:A9)(g:Z)(h:A0->A1->A2->A3->A4->A5->A6->A7->A8->A9->Bx Z->G:=by intro a0 a1 a2 a3 a4 a5 a6 a7 a8 a9 g;refine DR.go fun K J=>?_;simp[a0,a1,a2,a3,a4,a5,a6,a7,a8,a9];refine zh ?_;exact g.o):G:=h a0 a1 a2 a3 a4 a5 a6 a7 a8 a9 ⟨g⟩
theorem zd2 (a0:A0)(a1:A1)(g:Z)(h:A0->A1->Bx Z->G:=by intro a0 a1 g;refine DR.go fun K J=>?_;simp[a0,a1];refine zh ?_;exact g.o):G:=h a0 a1 ⟨g⟩
theorem zd3 (a0:A0)(a1:A1)(a2:A2)(g:Z)(h:A0->A1->A2->Bx Z->G:=by intro a0 a1 a2 g;refine DR.go fun K J=>?_;simp[a0,a1,a2];refine zh ?_;exact g.o):G:=h a0 a1 a2 ⟨g⟩
theorem zd4 (a0:A0)(a1:A1)(a2:A2)(a3:A3)(g:Z)(h:A0->A1->A2->A3->Bx Z->G:=by intro a0 a1 a2 a3 g;refine DR.go fun K J=>?_;simp[a0,a1,a2,a3];refine zh ?_;exact g.o):G:=h a0 a1 a2 a3 ⟨g⟩
theorem zd5 (a0:A0)(a1:A1)(a2:A2)(a3:A3)(a4:A4)(g:Z)(h:A0->A1->A2->A3->A4->Bx Z->G:=by intro a0 a1 a2 a3 a4 g;refine DR.go fun K J=>?_;simp[a0,a1,a2,a3,a4];refine zh ?_;exact g.o):G:=h a0 a1 a2 a3 a4 ⟨g⟩
theorem zd6 (a0:A0)(a1:A1)(a2:A2)(a3:A3)(a4:A4)(a5:A5)(g:Z)(h:A0->A1->A2->A3->A4->A5->Bx Z->G:=by intro a0 a1 a2 a3 a4 a5 g;refine DR.go fun K J=>?_;simp[a0,a1,a2,a3,a4,a5];refine zh ?_;exact g.o):G:=h a0 a1 a2 a3 a4 a5 ⟨g⟩
theorem aXs (a0:A0)(g:Z)(h:A0->Bx Z->G:=by intro a0 g;refine DR.go fun K J=>?_;simp[a0,Ct.cells];refine zh ?_;exact g.o):G:=h a0 ⟨g⟩
theorem bE6 (a0:A0)(g:Z)(h:A0->Bx Z->G:=by intro a0 g;refine DR.go fun K J=>?_;simp[a0,Fu.cells];refine zh ?_;exact g.o):G:=h a0 ⟨g⟩
theorem bLg (a0:A0)(a1:A1)(a2:A2)(a3:A3)(g:Z)(h:A0->A1->A2->A3->Bx Z->G:=by intro a0 a1 a2 a3 g;refine DR.go fun K J=>?_;simp[a0,sl,a1,a2,a3];refine zh ?_;exact g.o):G:=h a0 a1 a2 a3 ⟨g⟩
theorem bLh (a0:A0)(a1:A1)(a2:A2)(g:Z)(h:A0->A1->A2->Bx Z->G:=by intro a0 a1 a2 g;refine DR.go fun K J=>?_;simp[r1,a0,a1,a2];refine zh ?_;exact g.o):G:=h a0 a1 a2 ⟨g⟩
theorem bLi (a0:A0)(g:Z)(h:A0->Bx Z->G:=by intro a0 g;refine DR.go fun K J=>?_;simp[a0,Fu.cells,Tr.cells,brPs_eq];refine zh ?_;exact g.o):G:=h a0 ⟨g⟩
theorem zdv3 (a0:A0)(a1:A1)(g:Z)(h:A0->A1->Bx Z->G:=by intro a0 a1 g;refine DR.go fun K J=>?_;simp[a0,a1,sl];refine zh ?_;exact g.o):G:=h a0 a1 ⟨g⟩
theorem zdv6 (g:Z)(h:Bx Z->G:=by intro g;refine DR.go fun K J=>?_;simp[vr];refine zh ?_;exact g.o):G:=h ⟨g⟩
theorem ze (g:Z)(h:Bx Z->G:=by intro g;refine Run.exit rfl ?_;exact g.o):G:=h ⟨g⟩
theorem zf (g:Z)(h:Bx Z->G:=by intro g;refine cf aA (nv ?_);exact g.o):G:=h ⟨g⟩
theorem zf1 (a0:A0)(g:Z)(h:A0->Bx Z->G:=by intro a0 g;refine cf (by simp[a0]) (nv ?_);exact g.o):G:=h a0 ⟨g⟩
theorem zn (g:Z)(h:Bx Z->G:=by intro g;refine nv ?_;exact g.o):G:=h ⟨g⟩
theorem zo (g:Z)(h:Bx Z->G:=by intro g;refine Run.ops fun K J=>?_;simp;refine zj ?_;exact g.o):G:=h ⟨g⟩
theorem zo1 (a0:A0)(g:Z)(h:A0->Bx Z->G:=by intro a0 g;refine Run.ops fun K J=>?_;simp[a0];refine zj ?_;exact g.o):G:=h a0 ⟨g⟩
theorem zo2 (a0:A0)(a1:A1)(g:Z)(h:A0->A1->Bx Z->G:=by intro a0 a1 g;refine Run.ops fun K J=>?_;simp[a0,a1];refine zj ?_;exact g.o):G:=h a0 a1 ⟨g⟩
theorem zo3 (a0:A0)(a1:A1)(a2:A2)(g:Z)(h:A0->A1->A2->Bx Z->G:=by intro a0 a1 a2 g;refine Run.ops fun K J=>?_;simp[a0,a1,a2];refine zj ?_;exact g.o):G:=h a0 a1 a2 ⟨g⟩
theorem zo4 (a0:A0)(a1:A1)(a2:A2)(a3:A3)(g:Z)(h:A0->A1->A2->A3->Bx Z->G:=by intro a0 a1 a2 a3 g;refine Run.ops fun K J=>?_;simp[a0,a1,a2,a3];refine zj ?_;exact g.o):G:=h a0 a1 a2 a3 ⟨g⟩
theorem zo5 (a0:A0)(a1:A1)(a2:A2)(a3:A3)(a4:A4)(g:Z)(h:A0->A1->A2->A3->A4->Bx Z->G:=by intro a0 a1 a2 a3 a4 g;refine Run.ops fun K J=>?_;simp[a0,a1,a2,a3,a4];refine zj ?_;exact g.o):G:=h a0 a1 a2 a3 a4 ⟨g⟩
theorem bLj (a0:A0)(g:Z)(h:A0->Bx Z->G:=by intro a0 g;refine Run.ops fun K J=>?_;simp[a0,sl];refine zj ?_;exact g.o):G:=h a0 ⟨g⟩
theorem bE8 (a0:A0)(a1:A1)(g:Z)(h:A0->A1->Bx Z->G:=by intro a0 a1 g;refine Run.ops fun K J=>?_;simp[a0,Br.cells,a1];refine zj ?_;exact g.o):G:=h a0 a1 ⟨g⟩
theorem bLk (a0:A0)(g:Z)(h:A0->Bx Z->G:=by intro a0 g;refine Run.ops fun K J=>?_;simp[a0,Fu.cells,Tr.cells,brPs_eq];refine zj ?_;exact g.o):G:=h a0 ⟨g⟩
theorem bLl (a0:A0)(a1:A1)(g:Z)(h:A0->A1->Bx Z->G:=by intro a0 a1 g;refine Run.ops fun K J=>?_;simp[a0,a1,patch];refine zj ?_;exact g.o):G:=h a0 a1 ⟨g⟩
theorem zov4 (a0:A0)(g:Z)(h:A0->Bx Z->G:=by intro a0 g;refine Run.ops fun K J=>?_;simp[a0,sl,Tm.bare];refine zj ?_;exact g.o):G:=h a0 ⟨g⟩
theorem zov5 (g:Z)(h:Bx Z->G:=by intro g;refine Run.ops fun K J=>?_;simp[vr,Tm.bare];refine zj ?_;exact g.o):G:=h ⟨g⟩
theorem zov6 (g:Z)(h:Bx Z->G:=by intro g;refine Run.ops fun K J=>?_;simp[vr];refine zj ?_;exact g.o):G:=h ⟨g⟩
theorem zov9 (a0:A0)(g:Z)(h:A0->Bx Z->G:=by intro a0 g;refine Run.ops fun K J=>?_;simp[a0,sl,usesL_len];refine zj ?_;exact g.o):G:=h a0 ⟨g⟩
theorem zp (g:Z)(h:Bx Z->G:=by intro g;refine NB.DR.go fun K J=>?_;simp;refine zh ?_;exact g.o):G:=h ⟨g⟩
theorem zp1 (a0:A0)(g:Z)(h:A0->Bx Z->G:=by intro a0 g;refine NB.DR.go fun K J=>?_;simp[a0];refine zh ?_;exact g.o):G:=h a0 ⟨g⟩
theorem zp3 (a0:A0)(a1:A1)(a2:A2)(g:Z)(h:A0->A1->A2->Bx Z->G:=by intro a0 a1 a2 g;refine NB.DR.go fun K J=>?_;simp[a0,a1,a2];refine zh ?_;exact g.o):G:=h a0 a1 a2 ⟨g⟩
theorem bLm (a0:A0)(a1:A1)(a2:A2)(g:Z)(h:A0->A1->A2->Bx Z->G:=by intro a0 a1 a2 g;refine NB.DR.go fun K J=>?_;simp[r1,a0,a1,a2];refine zh ?_;exact g.o):G:=h a0 a1 a2 ⟨g⟩
theorem zq (g:Z)(h:Bx Z->G:=by intro g;refine Run.reg fun K J=>?_;simp;refine zi ?_;exact g.o):G:=h ⟨g⟩
theorem zq1 (a0:A0)(g:Z)(h:A0->Bx Z->G:=by intro a0 g;refine Run.reg fun K J=>?_;simp[a0];refine zi ?_;exact g.o):G:=h a0 ⟨g⟩
theorem zq2 (a0:A0)(a1:A1)(g:Z)(h:A0->A1->Bx Z->G:=by intro a0 a1 g;refine Run.reg fun K J=>?_;simp[a0,a1];refine zi ?_;exact g.o):G:=h a0 a1 ⟨g⟩
theorem zq3 (a0:A0)(a1:A1)(a2:A2)(g:Z)(h:A0->A1->A2->Bx Z->G:=by intro a0 a1 a2 g;refine Run.reg fun K J=>?_;simp[a0,a1,a2];refine zi ?_;exact g.o):G:=h a0 a1 a2 ⟨g⟩
theorem zq5 (a0:A0)(a1:A1)(a2:A2)(a3:A3)(a4:A4)(g:Z)(h:A0->A1->A2->A3->A4->Bx Z->G:=by intro a0 a1 a2 a3 a4 g;refine Run.reg fun K J=>?_;simp[a0,a1,a2,a3,a4];refine zi ?_;exact g.o):G:=h a0 a1 a2 a3 a4 ⟨g⟩
theorem zr (g:Z)(h:Bx Z->G:=by intro g;refine Run.reg fun K J=>?_;simp;refine zj ?_;exact g.o):G:=h ⟨g⟩
theorem zr1 (a0:A0)(g:Z)(h:A0->Bx Z->G:=by intro a0 g;refine Run.reg fun K J=>?_;simp[a0];refine zj ?_;exact g.o):G:=h a0 ⟨g⟩
theorem zr2 (a0:A0)(a1:A1)(g:Z)(h:A0->A1->Bx Z->G:=by intro a0 a1 g;refine Run.reg fun K J=>?_;simp[a0,a1];refine zj ?_;exact g.o):G:=h a0 a1 ⟨g⟩
theorem zr3 (a0:A0)(a1:A1)(a2:A2)(g:Z)(h:A0->A1->A2->Bx Z->G:=by intro a0 a1 a2 g;refine Run.reg fun K J=>?_;simp[a0,a1,a2];refine zj ?_;exact g.o):G:=h a0 a1 a2 ⟨g⟩
theorem zr4 (a0:A0)(a1:A1)(a2:A2)(a3:A3)(g:Z)(h:A0->A1->A2->A3->Bx Z->G:=by intro a0 a1 a2 a3 g;refine Run.reg fun K J=>?_;simp[a0,a1,a2,a3];refine zj ?_;exact g.o):G:=h a0 a1 a2 a3 ⟨g⟩
theorem zr5 (a0:A0)(a1:A1)(a2:A2)(a3:A3)(a4:A4)(g:Z)(h:A0->A1->A2->A3->A4->Bx Z->G:=by intro a0 a1 a2 a3 a4 g;refine Run.reg fun K J=>?_;simp[a0,a1,a2,a3,a4];refine zj ?_;exact g.o):G:=h a0 a1 a2 a3 a4 ⟨g⟩
theorem zrv0 (a0:A0)(g:Z)(h:A0->Bx Z->G:=by intro a0 g;refine Run.reg fun K J=>?_;simp[a0,Lv.cells];refine zj ?_;exact g.o):G:=h a0 ⟨g⟩
theorem bAa (a0:A0)(g:Z)(h:A0->Bx Z->G:=by intro a0 g;refine Run.reg fun K J=>?_;simp[a0,sl];refine zj ?_;exact g.o):G:=h a0 ⟨g⟩
theorem aXu (a0:A0)(g:Z)(h:A0->Bx Z->G:=by intro a0 g;refine Run.reg fun K J=>?_;simp[a0,Ct.cells];refine zj ?_;exact g.o):G:=h a0 ⟨g⟩
theorem aT3 (a0:A0)(g:Z)(h:A0->Bx Z->G:=by intro a0 g;refine Run.reg fun K J=>?_;simp[a0,pcells_mk];refine zj ?_;exact g.o):G:=h a0 ⟨g⟩
theorem bEa (a0:A0)(a1:A1)(g:Z)(h:A0->A1->Bx Z->G:=by intro a0 a1 g;refine Run.reg fun K J=>?_;simp[a0,pcells_mk,a1];refine zj ?_;exact g.o):G:=h a0 a1 ⟨g⟩
theorem bLn (g:Z)(h:Bx Z->G:=by intro g;refine Run.reg fun K J=>?_;simp[st328,ar344];refine zj ?_;exact g.o):G:=h ⟨g⟩
theorem bLo (a0:A0)(g:Z)(h:A0->Bx Z->G:=by intro a0 g;refine Run.reg fun K J=>?_;simp[r1,a0];refine zj ?_;exact g.o):G:=h a0 ⟨g⟩
theorem zrv15 (a0:A0)(a1:A1)(g:Z)(h:A0->A1->Bx Z->G:=by intro a0 a1 g;refine Run.reg fun K J=>?_;simp[tmPs,a0,a1];refine zj ?_;exact g.o):G:=h a0 a1 ⟨g⟩
theorem bEb (a0:A0)(g:Z)(h:A0->Bx Z->G:=by intro a0 g;refine Run.reg fun K J=>?_;simp[a0,Br.cells,Tr.cells,brPs_eq];refine zj ?_;exact g.o):G:=h a0 ⟨g⟩
theorem aXv (a0:A0)(a1:A1)(g:Z)(h:A0->A1->Bx Z->G:=by intro a0 a1 g;refine Run.reg fun K J=>?_;simp[a0,Ct.cells,a1];refine zj ?_;exact g.o):G:=h a0 a1 ⟨g⟩
theorem bEc (a0:A0)(a1:A1)(g:Z)(h:A0->A1->Bx Z->G:=by intro a0 a1 g;refine Run.reg fun K J=>?_;simp[a0,Fu.cells,a1];refine zj ?_;exact g.o):G:=h a0 a1 ⟨g⟩
theorem zrv2 (a0:A0)(a1:A1)(a2:A2)(g:Z)(h:A0->A1->A2->Bx Z->G:=by intro a0 a1 a2 g;refine Run.reg fun K J=>?_;simp[sl,a0,a1,a2];refine zj ?_;exact g.o):G:=h a0 a1 a2 ⟨g⟩
theorem bLp (a0:A0)(a1:A1)(g:Z)(h:A0->A1->Bx Z->G:=by intro a0 a1 g;refine Run.reg fun K J=>?_;simp[a0,Fu.cells,Tr.cells,brPs_eq,a1];refine zj ?_;exact g.o):G:=h a0 a1 ⟨g⟩
theorem bLq (a0:A0)(a1:A1)(a2:A2)(a3:A3)(a4:A4)(g:Z)(h:A0->A1->A2->A3->A4->Bx Z->G:=by intro a0 a1 a2 a3 a4 g;refine Run.reg fun K J=>?_;simp[a0,a1,a2,enC,a3,a4,En.cells];refine zj ?_;exact g.o):G:=h a0 a1 a2 a3 a4 ⟨g⟩
theorem bLr (g:Z)(h:Bx Z->G:=by intro g;refine Run.reg fun K J=>?_;simp[enC];refine zj ?_;exact g.o):G:=h ⟨g⟩
theorem bLs (a0:A0)(a1:A1)(a2:A2)(a3:A3)(g:Z)(h:A0->A1->A2->A3->Bx Z->G:=by intro a0 a1 a2 a3 g;refine Run.reg fun K J=>?_;simp[a0,Fu.cells,a1,a2,a3];refine zj ?_;exact g.o):G:=h a0 a1 a2 a3 ⟨g⟩
theorem bLt (a0:A0)(g:Z)(h:A0->Bx Z->G:=by intro a0 g;refine Run.reg fun K J=>?_;simp[a0,Fu.cells];refine zj ?_;exact g.o):G:=h a0 ⟨g⟩
theorem zrv3 (a0:A0)(a1:A1)(g:Z)(h:A0->A1->Bx Z->G:=by intro a0 a1 g;refine Run.reg fun K J=>?_;simp[a0,a1,sl];refine zj ?_;exact g.o):G:=h a0 a1 ⟨g⟩
theorem zrv7 (g:Z)(h:Bx Z->G:=by intro g;refine Run.reg fun K J=>?_;simp[r1];refine zj ?_;exact g.o):G:=h ⟨g⟩
theorem zrv8 (a0:A0)(a1:A1)(g:Z)(h:A0->A1->Bx Z->G:=by intro a0 a1 g;refine Run.reg fun K J=>?_;simp[vr,a0,a1];refine zj ?_;exact g.o):G:=h a0 a1 ⟨g⟩
theorem zs (g:Z)(h:Bx Z->G:=by intro g;simp;exact g.o):G:=h ⟨g⟩
theorem zt (g:Z)(h:Bx Z->G:=by intro g;refine ct aA (nv ?_);exact g.o):G:=h ⟨g⟩
theorem zt1 (a0:A0)(g:Z)(h:A0->Bx Z->G:=by intro a0 g;refine ct (by simp[a0]) (nv ?_);exact g.o):G:=h a0 ⟨g⟩
theorem zx (g:Z)(h:Bx Z->G:=by intro g;refine Run.ret ?_;exact g.o):G:=h ⟨g⟩
theorem znf (g:Z)(h:Bx Z->G:=by intro g;refine nv ?_;refine zf ?_;exact g.o):G:=h ⟨g⟩
theorem aFh (a0:A0)(g:Z)(h:A0->Bx Z->G:=by intro a0 g;refine nv ?_;refine zf1 a0 ?_;exact g.o):G:=h a0 ⟨g⟩
theorem znq (g:Z)(h:Bx Z->G:=by intro g;refine nv ?_;refine zq ?_;exact g.o):G:=h ⟨g⟩
theorem znr (g:Z)(h:Bx Z->G:=by intro g;refine nv ?_;refine zr ?_;exact g.o):G:=h ⟨g⟩
theorem sD (a0:A0)(g:Z)(h:A0->Bx Z->G:=by intro a0 g;refine nv ?_;refine zr1 a0 ?_;exact g.o):G:=h a0 ⟨g⟩
theorem znt (g:Z)(h:Bx Z->G:=by intro g;refine nv ?_;refine zt ?_;exact g.o):G:=h ⟨g⟩
theorem znt1 (a0:A0)(g:Z)(h:A0->Bx Z->G:=by intro a0 g;refine nv ?_;refine zt1 a0 ?_;exact g.o):G:=h a0 ⟨g⟩
theorem znx (g:Z)(h:Bx Z->G:=by intro g;refine nv ?_;refine Run.ret ?_;exact g.o):G:=h ⟨g⟩
theorem zor (g:Z)(h:Bx Z->G:=by intro g;refine zo ?_;refine zr ?_;exact g.o):G:=h ⟨g⟩
theorem zot (g:Z)(h:Bx Z->G:=by intro g;refine zo ?_;refine zt ?_;exact g.o):G:=h ⟨g⟩
theorem zox (g:Z)(h:Bx Z->G:=by intro g;refine zo ?_;refine Run.ret ?_;exact g.o):G:=h ⟨g⟩
theorem zsn (g:Z)(h:Bx Z->G:=by intro g;simp;refine nv ?_;exact g.o):G:=h ⟨g⟩
theorem znf1r (a0:A0)(g:Z)(h:A0->Bx Z->G:=by intro a0 g;refine nv ?_;refine zf1 a0 ?_;refine zr ?_;exact g.o):G:=h a0 ⟨g⟩
theorem aIr (g:Z)(h:Bx Z->G:=by intro g;refine nv ?_;refine zf ?_;refine zr ?_;exact g.o):G:=h ⟨g⟩
theorem znr1f (a0:A0)(g:Z)(h:A0->Bx Z->G:=by intro a0 g;refine nv ?_;refine zr1 a0 ?_;refine zf ?_;exact g.o):G:=h a0 ⟨g⟩
theorem aDg (a0:A0)(g:Z)(h:A0->Bx Z->G:=by intro a0 g;refine nv ?_;refine zr1 a0 ?_;refine zt ?_;exact g.o):G:=h a0 ⟨g⟩
theorem aOv (a0:A0)(g:Z)(h:A0->Bx Z->G:=by intro a0 g;refine nv ?_;refine zr1 a0 ?_;refine Run.ret ?_;exact g.o):G:=h a0 ⟨g⟩
theorem znrr (g:Z)(h:Bx Z->G:=by intro g;refine nv ?_;refine zr ?_;refine zr ?_;exact g.o):G:=h ⟨g⟩
theorem wQ (a0:A0)(g:Z)(h:A0->Bx Z->G:=by intro a0 g;refine nv ?_;refine zr ?_;refine zr1 a0 ?_;exact g.o):G:=h a0 ⟨g⟩
theorem znrt (g:Z)(h:Bx Z->G:=by intro g;refine nv ?_;refine zr ?_;refine zt ?_;exact g.o):G:=h ⟨g⟩
theorem znrx (g:Z)(h:Bx Z->G:=by intro g;refine nv ?_;refine zr ?_;refine Run.ret ?_;exact g.o):G:=h ⟨g⟩
theorem lH (a0:A0)(g:Z)(h:A0->Bx Z->G:=by intro a0 g;refine nv ?_;refine zt1 a0 ?_;refine zr ?_;exact g.o):G:=h a0 ⟨g⟩
theorem iY (a0:A0)(a1:A1)(g:Z)(h:A0->A1->Bx Z->G:=by intro a0 a1 g;refine nv ?_;refine zt1 a0 ?_;refine zr1 a1 ?_;exact g.o):G:=h a0 a1 ⟨g⟩
theorem bE7 (g:Z)(h:Bx Z->G:=by intro g;refine nv ?_;refine zt ?_;refine zr ?_;exact g.o):G:=h ⟨g⟩
theorem aT2 (a0:A0)(g:Z)(h:A0->Bx Z->G:=by intro a0 g;refine zo1 a0 ?_;refine zf ?_;refine zr ?_;exact g.o):G:=h a0 ⟨g⟩
theorem zofr (g:Z)(h:Bx Z->G:=by intro g;refine zo ?_;refine zf ?_;refine zr ?_;exact g.o):G:=h ⟨g⟩
theorem zorx (g:Z)(h:Bx Z->G:=by intro g;refine zo ?_;refine zr ?_;refine Run.ret ?_;exact g.o):G:=h ⟨g⟩
theorem zotx (g:Z)(h:Bx Z->G:=by intro g;refine zo ?_;refine zt ?_;refine Run.ret ?_;exact g.o):G:=h ⟨g⟩
theorem cK (g:Z)(h:Bx Z->G:=by intro g;simp;refine nv ?_;refine zr ?_;exact g.o):G:=h ⟨g⟩
theorem aAk (a0:A0)(g:Z)(h:A0->Bx Z->G:=by intro a0 g;simp;refine nv ?_;refine zr1 a0 ?_;exact g.o):G:=h a0 ⟨g⟩
theorem aFi (a0:A0)(g:Z)(h:A0->Bx Z->G:=by intro a0 g;refine nv ?_;refine zf1 a0 ?_;refine zr ?_;refine Run.ret ?_;exact g.o):G:=h a0 ⟨g⟩
theorem znfen (g:Z)(h:Bx Z->G:=by intro g;refine nv ?_;refine zf ?_;refine Run.exit rfl ?_;refine nv ?_;exact g.o):G:=h ⟨g⟩
theorem znr1tr (a0:A0)(g:Z)(h:A0->Bx Z->G:=by intro a0 g;refine nv ?_;refine zr1 a0 ?_;refine zt ?_;refine zr ?_;exact g.o):G:=h a0 ⟨g⟩
theorem aAi (g:Z)(h:Bx Z->G:=by intro g;refine nv ?_;refine zr ?_;refine zf ?_;refine zr ?_;exact g.o):G:=h ⟨g⟩
theorem sE (g:Z)(h:Bx Z->G:=by intro g;refine nv ?_;refine zr ?_;refine zr ?_;refine zr ?_;exact g.o):G:=h ⟨g⟩
theorem aT0 (g:Z)(h:Bx Z->G:=by intro g;refine nv ?_;refine zr ?_;refine zr ?_;refine Run.ret ?_;exact g.o):G:=h ⟨g⟩
theorem aT1 (g:Z)(h:Bx Z->G:=by intro g;refine nv ?_;refine zr ?_;refine zt ?_;refine zr ?_;exact g.o):G:=h ⟨g⟩
theorem aDi (a0:A0)(a1:A1)(g:Z)(h:A0->A1->Bx Z->G:=by intro a0 a1 g;refine nv ?_;refine zt1 a0 ?_;refine zr1 a1 ?_;refine zr ?_;exact g.o):G:=h a0 a1 ⟨g⟩
theorem nV (a0:A0)(a1:A1)(a2:A2)(a3:A3)(g:Z)(h:A0->A1->A2->A3->Bx Z->G:=by intro a0 a1 a2 a3 g;refine nv ?_;refine zt1 a0 ?_;refine zr3 a1 a2 a3 ?_;refine zr ?_;exact g.o):G:=h a0 a1 a2 a3 ⟨g⟩
theorem dV (a0:A0)(g:Z)(h:A0->Bx Z->G:=by intro a0 g;refine nv ?_;refine zt1 a0 ?_;refine zr ?_;refine Run.ret ?_;exact g.o):G:=h a0 ⟨g⟩
theorem aDj (g:Z)(h:Bx Z->G:=by intro g;refine nv ?_;refine zt ?_;refine zr ?_;refine Run.ret ?_;exact g.o):G:=h ⟨g⟩
theorem aOw (a0:A0)(g:Z)(h:A0->Bx Z->G:=by intro a0 g;refine zo1 a0 ?_;refine zt ?_;refine zr ?_;refine Run.ret ?_;exact g.o):G:=h a0 ⟨g⟩
theorem zorfr (g:Z)(h:Bx Z->G:=by intro g;refine zo ?_;refine zr ?_;refine zf ?_;refine zr ?_;exact g.o):G:=h ⟨g⟩
theorem zsnrx (g:Z)(h:Bx Z->G:=by intro g;simp;refine nv ?_;refine zr ?_;refine Run.ret ?_;exact g.o):G:=h ⟨g⟩
theorem oR (g:Z)(h:Bx Z->G:=by intro g;refine nv ?_;refine zf ?_;refine Run.exit rfl ?_;refine nv ?_;refine zr ?_;exact g.o):G:=h ⟨g⟩
theorem znr1fen (a0:A0)(g:Z)(h:A0->Bx Z->G:=by intro a0 g;refine nv ?_;refine zr1 a0 ?_;refine zf ?_;refine Run.exit rfl ?_;refine nv ?_;exact g.o):G:=h a0 ⟨g⟩
theorem nU (a0:A0)(g:Z)(h:A0->Bx Z->G:=by intro a0 g;refine nv ?_;refine zr1 a0 ?_;refine zt ?_;refine zr ?_;refine Run.ret ?_;exact g.o):G:=h a0 ⟨g⟩
theorem wP (a0:A0)(a1:A1)(g:Z)(h:A0->A1->Bx Z->G:=by intro a0 a1 g;refine nv ?_;refine zr2 a0 a1 ?_;refine zt ?_;refine zr ?_;refine Run.ret ?_;exact g.o):G:=h a0 a1 ⟨g⟩
theorem aDh (a0:A0)(a1:A1)(a2:A2)(g:Z)(h:A0->A1->A2->Bx Z->G:=by intro a0 a1 a2 g;refine nv ?_;refine zr3 a0 a1 a2 ?_;refine zt ?_;refine zr ?_;refine Run.ret ?_;exact g.o):G:=h a0 a1 a2 ⟨g⟩
theorem znrfrt (g:Z)(h:Bx Z->G:=by intro g;refine nv ?_;refine zr ?_;refine zf ?_;refine zr ?_;refine zt ?_;exact g.o):G:=h ⟨g⟩
theorem aDk (a0:A0)(g:Z)(h:A0->Bx Z->G:=by intro a0 g;refine zo ?_;refine zr1 a0 ?_;refine zt ?_;refine zr ?_;refine Run.ret ?_;exact g.o):G:=h a0 ⟨g⟩
theorem sF (g:Z)(h:Bx Z->G:=by intro g;refine zo ?_;refine zr ?_;refine zt ?_;refine zr ?_;refine Run.ret ?_;exact g.o):G:=h ⟨g⟩
theorem znfenrx (g:Z)(h:Bx Z->G:=by intro g;refine nv ?_;refine zf ?_;refine Run.exit rfl ?_;refine nv ?_;refine zr ?_;refine Run.ret ?_;exact g.o):G:=h ⟨g⟩
theorem wR (a0:A0)(g:Z)(h:A0->Bx Z->G:=by intro a0 g;refine nv ?_;refine zr ?_;refine zr ?_;refine zt1 a0 ?_;refine zr ?_;refine Run.ret ?_;exact g.o):G:=h a0 ⟨g⟩
theorem aAj (a0:A0)(a1:A1)(g:Z)(h:A0->A1->Bx Z->G:=by intro a0 a1 g;refine nv ?_;refine zt1 a0 ?_;refine zr1 a1 ?_;refine zt ?_;refine zr ?_;refine Run.ret ?_;exact g.o):G:=h a0 a1 ⟨g⟩
theorem aOx (g:Z)(h:Bx Z->G:=by intro g;simp;refine nv ?_;refine zr ?_;refine zf ?_;refine Run.exit rfl ?_;refine nv ?_;exact g.o):G:=h ⟨g⟩
theorem aAg (a0:A0)(g:Z)(h:A0->Bx Z->G:=by intro a0 g;refine nv ?_;refine zr1 a0 ?_;refine zf ?_;refine Run.exit rfl ?_;refine nv ?_;refine zr ?_;refine Run.ret ?_;exact g.o):G:=h a0 ⟨g⟩
theorem aAh (a0:A0)(a1:A1)(g:Z)(h:A0->A1->Bx Z->G:=by intro a0 a1 g;refine nv ?_;refine zr2 a0 a1 ?_;refine zf ?_;refine Run.exit rfl ?_;refine nv ?_;refine zr ?_;refine Run.ret ?_;exact g.o):G:=h a0 a1 ⟨g⟩
theorem znrfrfrt (g:Z)(h:Bx Z->G:=by intro g;refine nv ?_;refine zr ?_;refine zf ?_;refine zr ?_;refine zf ?_;refine zr ?_;refine zt ?_;exact g.o):G:=h ⟨g⟩
theorem cY (a0:A0)(a1:A1)(a2:A2)(a3:A3)(g:Z)(h:A0->A1->A2->A3->Bx Z->G:=by intro a0 a1 a2 a3 g;refine nv ?_;refine zr1 a0 ?_;refine zf ?_;refine zr1 a1 ?_;refine zf ?_;refine zr1 a2 ?_;refine zf ?_;refine zr1 a3 ?_;refine zf ?_;exact g.o):G:=h a0 a1 a2 a3 ⟨g⟩
theorem znr1fr1fr1frx (a0:A0)(a1:A1)(a2:A2)(g:Z)(h:A0->A1->A2->Bx Z->G:=by intro a0 a1 a2 g;refine nv ?_;refine zr1 a0 ?_;refine zf ?_;refine zr1 a1 ?_;refine zf ?_;refine zr1 a2 ?_;refine zf ?_;refine zr ?_;refine Run.ret ?_;exact g.o):G:=h a0 a1 a2 ⟨g⟩
theorem lG (g:Z)(h:Bx Z->G:=by intro g;refine nv ?_;refine zr ?_;refine zf ?_;refine zr ?_;refine zf ?_;refine zr ?_;refine zf ?_;refine zr ?_;refine zt ?_;refine zr ?_;exact g.o):G:=h ⟨g⟩
end
theorem zB {P:Program} {rd:Option Nat} {nb:Nat} {T:List AV} {h g:Heap} {D:List AD} {Q:AX->List AV->Heap->List AD->Prop} {k:List It} {all:Array Oper} {o:Oper} {rest:List Oper} {c:Call} {f:FuncId} {args:List AV} {α:Type} {V:α->AV} {R:α->Prop}
 (hR:ACalls P f args h fun o' h'=>(∃b,o'= .ret (V b)/\R b)/\h'=g) (r:∀b,R b->Run P rd nb (.ops all rest::k) (tput T o.dst (V b)) g D Q) (ho:o.op= .call c:=by rfl) (hw:awanted all T o=some true:=by first|rfl|simp) (hc:acallee T c=some (f,args):=by simp) (he:aK P f=true:=by rfl):Run P rd nb (.ops all (o::rest)::k) T h D Q:=by
 refine Run.call ho hw hc he hR ?_ ?_
 ·rintro v' h' ⟨⟨b,hv,hb⟩,rfl⟩;simp only[AOut.ret.injEq] at hv;subst hv;exact r b hb
 ·rintro v' h' ⟨⟨_,hv,_⟩,_⟩;cases hv
theorem zL {P:Program} {rd:Option Nat} {nb:Nat} {T:List AV} {h g:Heap} {D:List AD} {Q:AX->List AV->Heap->List AD->Prop} {k:List It} {all:Array Oper} {o:Oper} {rest:List Oper} {c:Call} {f:FuncId} {args:List AV} {v:AV} (hR:ACalls P f args h fun o' h'=>o'= .ret v/\h'=g)(r:Run P rd nb (.ops all rest::k) (tput T o.dst v) g D Q)
 (ho:o.op= .call c:=by rfl) (hw:awanted all T o=some true:=by first|rfl|simp) (hc:acallee T c=some (f,args):=by simp) (he:aK P f=true:=by rfl):Run P rd nb (.ops all (o::rest)::k) T h D Q:=rl ho hw hc he hR r
theorem zE {G Z A B:Prop} (a:A)(b:B)(g:Z)(h:A->B->Bx Z->G:=by intro a b g;refine ACalls.of_run a rfl ?_;simp only[b,bM2,bM3];exact g.o):G:=h a b ⟨g⟩
theorem zER {G Z A B:Prop} (a:A)(b:B)(g:Z)(h:A->B->Bx Z->G:=by intro a b g;refine ACalls.of_run a rfl ?_;simp only[b,bM2,bM3];refine znr ?_;exact g.o):G:=h a b ⟨g⟩
theorem dE {G Z A B:Prop} (a:A)(b:B)(g:Z)(h:A->B->Bx Z->G:=by intro a b g;refine ACalls.of_run a rfl ?_;simp only[b,bM2,bM3];refine znr ?_;refine zr ?_;exact g.o):G:=h a b ⟨g⟩
end Go.AI
