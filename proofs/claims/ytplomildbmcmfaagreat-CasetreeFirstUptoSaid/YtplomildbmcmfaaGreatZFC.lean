import Derived.Test.YtplomildbmcmfaaGreatZA0
import Derived.Orders
import Derived.Test.YtplomildbmcmfaaGreatZFB
namespace Go.AI
open Go
def awanted (all:Array Oper)(T:List AV)(o:Oper):Option Bool:=
 match o.guard with
 |none=>some true
 |some (j,want)=>match (all[j]?).bind (·.dst) with
  |some d=>match tget T d with
   | .p (.prim (.bool b))=>some (b==want)
   | .tup []=>some false
   |_=>none
  |none=>some false
theorem awanted_sound {E w a T h D} {all:Array Oper} {o:Oper} {b:Bool} (s:St E w a T h D)(ha:awanted all T o=some b):
  Region.wanted o (yielded all a.tmps)=b:=by
 unfold awanted at ha;unfold Region.wanted;split at ha
 ·rename_i hg;cases ha;simp[hg]
 ·rename_i j want hg;simp only[hg];unfold yielded;split at ha
  ·rename_i d hd;simp only[hd,Option.bind_some];have hl:=s.tmps.length;have hr:=s.tmps.get d;rw[<-tget_eq] at hr
   have hdl:tget T d≠ .junk->d<T.length:=by
    intro hne;rcases bNi d T.length with l|l
    ·exact l
    ·exact absurd (by rw[tget_eq];simp[bNz l]) hne
   split at ha
   ·rename_i b' hT;have h2:d<a.tmps.size:=by rw[<-bOl,hl];exact hdl (by rw[hT];simp)
    simp only[hT,Rep,RepP] at hr
    have:a.tmps[d]?=some (.bool b'):=by
     have:=hr.1;simp[h2] at this;simp[h2,this]
    simp only[this];simp only[bM0] at ha;subst ha
    cases b'<;>cases want<;>rfl
   ·rename_i hT;have h2:d<a.tmps.size:=by rw[<-bOl,hl];exact hdl (by rw[hT];simp)
    simp only[hT,Rep,RepL] at hr;obtain⟨vs,hv,rfl⟩:=hr
    have:a.tmps[d]?=some (.tuple #[]):=by
     simp[h2] at hv;simp[h2,hv]
    simp only[this]
    cases ha;rfl
   ·cases ha
  ·rename_i hd;cases ha;simp only[hd]
   rfl
section
variable {P:Program} {rd:Option Nat} {nb:Nat} {k:List It} {T:List AV} {h:Heap} {D:List AD} {Q:AX->List AV->Heap->List AD->Prop} {all:Array Oper} {o:Oper} {rest:List Oper}
theorem Run.op {x:AV} {h':Heap} (hw:awanted all T o=some true)(ho:aop P (aev T) h o.op=some (x,h'))(r:Run P rd nb (.ops all rest::k) (tput T o.dst x) h' D Q):
  Run P rd nb (.ops all (o::rest)::k) T h D Q:=by
 intro E w a s;obtain⟨E',w',n,v,hrun,hn,hr,hf,hx,hfr⟩:=aop_sound ho s;have s':St E' w' (a.put o.dst v) (tput T o.dst x) h' D:=(s.move hfr hr hf).put hx o.dst;have:=r E' w' _ s';have hk:=K_mono (P:=P) (rd:=rd) (Post.of_fr (Q:=Q) hfr) (.ops all rest::k) _ _ _ this;show wpListIn (fen rd) 0 P all (K P rd (Post nb Q E h w) k) (o::rest) a w;refine yk ?_;refine⟨fun _ _=>trivial,?_⟩;rw[Oper.semAt_eq _ _ _ (fun c hc=>by rw[hc] at ho;simp[aop] at ho),hrun];rcases hn with rfl|⟨rfl,rfl⟩
 ·exact hk
 ·exact hk
theorem Run.off (hw:awanted all T o=some false)(r:Run P rd nb (.ops all rest::k) (tput T o.dst (.tup [])) h D Q):Run P rd nb (.ops all (o::rest)::k) T h D Q:=by
 intro E w a s;have s':St E w (a.put o.dst undef) (tput T o.dst (.tup [])) h D:=s.put (by simp only[Rep,RepL];exact⟨[],rfl,rfl⟩) o.dst;show wpListIn (fen rd) 0 P all (K P rd (Post nb Q E h w) k) (o::rest) a w;simp only[wpListIn];rw[awanted_sound s hw];exact⟨fun _ _=>trivial,r E w _ s'⟩
theorem Run.cond {c:Operand} {x y:Code} {b:Bool} (hc:aev T c= .p (.prim (.bool b)))(r:Run P rd nb (.code (if b then x else y)::k) T h D Q):
  Run P rd nb (.code (.cond c x y)::k) T h D Q:=by
 intro E w a s;have:=aev_rep s c;rw[hc] at this;simp only[Rep,RepP] at this;exact wpIn_cond this.1 (r E w a s)
inductive AOut where
 |ret (v:AV)
 |panic (v:AV)
def RepO (E:Env)(w:World):AOut->Ending->Prop
 | .ret x,e=>∃v,e= .returned v/\Rep E w x v
 | .panic x,e=>∃v,e= .panicked [{v,recovered:=false}]/\Rep E w x v
def ACalls (P:Program)(f:FuncId)(args:List AV)(h:Heap)(R:AOut->Heap->Prop):Prop:=
 ∀E w vs,Rel E h.at w->Fresh E h.length->RepL E w args vs->
  Calls P f (List.toArray vs) w fun e w'=>∃out h' E',R out h'/\Rel E' (Heap.at h') w'/\Fresh E' h'.length/\RepO E' w' out e/\Fr E h.at w E' (Heap.at h') w'
theorem ACalls.mono {f args R R'} (c:ACalls P f args h R)(hr:∀out h',R out h'->R' out h'):ACalls P f args h R':=
 fun E w vs h1 h2 h3=>(c E w vs h1 h2 h3).mono fun _ _ ⟨out,h',E',hR,rest⟩=>⟨out,h',E',hr _ _ hR,rest⟩
def acallee (T:List AV)(c:Call):Option (FuncId×List AV):=
 match c.callee with
 | .value f=>match aev T f with
  | .p (.prim (.func (.func i) _ _))=>some (i,c.args.toList.map (aev T))
  | .fn (.func i) first cap=>some (i,first++c.args.toList.map (aev T)++cap)
  |_=>none
 |_=>none
def aK (P:Program)(f:FuncId):Bool:=
 match P.funcs[f]? with
 |some fn=>fn.body.isSome&& !(fn.name== "runtime.NumGoroutine")
 |none=>false
theorem acallee_sound {E w a} {c:Call} {f:FuncId} {args:List AV} {o:Oper} (s:St E w a T h D)(hc:acallee T c=some (f,args))(he:aK P f=true)(ho:o.op= .call c):
  ∃vs,(execOp a.eval o).run P w= .ok (.enter f (List.toArray vs)) w/\RepL E w args vs:=by
 have henter:∀vs:Array Value,(callFunc f vs).run P w= .ok (.enter f vs) w:=by
  intro vs;unfold aK at he
  cases e:P.funcs[f]? with
  |none=>simp[e] at he
  |some fn=>
   simp only[e,bM8,bN0,beq_eq_false_iff_ne,ne_eq] at he;have hb:fn.body≠none:=by intro hb;simp[hb] at he
   simp[callFunc,e,he.2,hb]
 unfold acallee at hc;split at hc
 ·rename_i fo hcal;have hf:=aev_rep s fo;have hargs:=fW s c.args.toList;split at hc
  ·rename_i i x y hev;simp only[bM0,bMf] at hc;obtain⟨rfl,rfl⟩:=hc;rw[hev] at hf;simp only[Rep,RepP,isPrim] at hf;obtain⟨hv,hp⟩:=hf;simp at hp;obtain⟨rfl,rfl⟩:=hp;refine⟨c.args.toList.map a.eval,?_,hargs⟩;simp[execOp,ho,resolve,hcal,hv,Deferred.ofValue,invoke,henter];exact y5z
  ·rename_i i first cap hev;simp only[bM0,bMf] at hc;obtain⟨rfl,rfl⟩:=hc;rw[hev] at hf;simp only[Rep] at hf;obtain⟨vs,us,hv,r1,r2⟩:=hf;refine⟨vs++c.args.toList.map a.eval++us,?_,(r1.append hargs).append r2⟩;simp[execOp,ho,resolve,hcal,hv,Deferred.ofValue,invoke,henter]
  ·cases hc
 ·cases hc
theorem Run.call {c:Call} {f:FuncId} {args:List AV} {R:AOut->Heap->Prop} (ho:o.op= .call c)(hw:awanted all T o=some true)(hc:acallee T c=some (f,args))(he:aK P f=true)
  (hR:ACalls P f args h R) (hret:∀v h',R (.ret v) h'->Run P rd nb (.ops all rest::k) (tput T o.dst v) h' D Q) (hpan:∀v h',R (.panic v) h'->Q (.panic v) T h' D):
  Run P rd nb (.ops all (o::rest)::k) T h D Q:=by
 intro E w a s;obtain⟨vs,hrun,hvs⟩:=acallee_sound (P:=P) s hc he ho;show wpListIn (fen rd) 0 P all (K P rd (Post nb Q E h w) k) (o::rest) a w;refine yk ?_;refine⟨fun _ _=>trivial,?_⟩;rw[Oper.semAt_eq _ _ _ (fun c hc=>by rw[hc] at ho;cases ho),hrun];refine⟨fun hd=>(by cases hd),callsIn_fen.2 (Calls.mono (hR E w vs s.rel s.fresh hvs) ?_)⟩;rintro e w' ⟨out,h',E',hr,hrel,hf,hout,hfr⟩;have s':=s.move hfr hrel hf
 cases out with
 |ret x=>
  exact y4y
 |panic x=>
  exact y4z
end
def aX (P:Program)(T:List AV)(h:Heap):List ResultVar->Option (List AV)
 |[]=>some []
 | .tmp t::rs=>(aX P T h rs).map fun l=>tget T t::l
 | .cell a t::rs=>match aAt P t (tget T a) h,aX P T h rs with
  |some x,some l=>some (x::l)
  |_,_=>none
def bR:List AV->AV
 |[x]=>x
 |l=> .tup l
open Go
def Settles (x:AV)(h:Heap)(y:AV)(h':Heap):Prop:=
 ∀E w v,Rel E h.at w->Fresh E h.length->Rep E w x v->∃E',Rel E' (Heap.at h') w/\Fresh E' h'.length/\Rep E' w y v/\Fr E h.at w E' (Heap.at h') w
def Weak (x y:AV):Prop:=∀E w v,Rep E w x v->Rep E w y v
def WeakL (xs ys:List AV):Prop:=∀E w vs,RepL E w xs vs->RepL E w ys vs
theorem Weak.refl (x:AV):Weak x x:=fun _ _ _ h=>h
theorem WeakL.refl (x:List AV):WeakL x x:=fun _ _ _ h=>h
theorem Weak.junk (x:AV):Weak x .junk:=fun _ _ _ _=>by simp only[Rep]
theorem Weak.nil (sz:Nat):Weak (.p (.prim (.slice none 0 0))) (.p (.sl sz [])):=fun E w v h=>by
 simp only[Rep,RepP] at h⊢;obtain⟨rfl,_⟩:=h;exact⟨none,0,rfl,bLx _, .inl trivial⟩
theorem Weak.own (tok sz:Nat)(es:List (List PV)):Weak (.own tok sz es) (.p (.sl sz es)):=fun E w v h=>by
 simp only[Rep,RepP] at h⊢;obtain⟨L,_,_,blk,cap,rfl,hc,h,_⟩:=h;exact y7r
theorem Weak.agg {xs ys:List AV} (h:WeakL xs ys):Weak (.agg xs) (.agg ys):=fun E w v r=>by
 simp only[Rep] at r⊢;obtain⟨vs,e,r⟩:=r;exact⟨vs,e,h E w vs r⟩
theorem Weak.tup {xs ys:List AV} (h:WeakL xs ys):Weak (.tup xs) (.tup ys):=fun E w v r=>by
 simp only[Rep] at r⊢;obtain⟨vs,e,r⟩:=r;exact⟨vs,e,h E w vs r⟩
theorem WeakL.nil:WeakL [] []:=WeakL.refl _
theorem WeakL.cons {x y:AV} {xs ys:List AV} (h:Weak x y)(hs:WeakL xs ys):WeakL (x::xs) (y::ys):=fun E w vs r=>by
 simp only[RepL] at r⊢;obtain⟨v,us,e,r1,r2⟩:=r;exact⟨v,us,e,h E w v r1,hs E w us r2⟩
theorem Settles.refl (x:AV)(h:Heap):Settles x h x h:=fun E _ _ r hf hx=>⟨E,r,hf,hx,Fr.refl _ _ _⟩
theorem Settles.weak {x y:AV} (k:Weak x y)(h:Heap):Settles x h y h:=fun E w v r hf hx=>⟨E,r,hf,k E w v hx,Fr.refl _ _ _⟩
def Fin (P:Program)(fn:Func)(n:Nat)(R:AOut->Heap->Prop):AX->List AV->Heap->List AD->Prop
 | .exit _,_,_,_=>False
 | .panic v,_,h,D=>D=[]/\∃y h' m,Settles v h y h'/\n<=m/\m<=h'.length/\y.under m=true/\(h'.take m).all (AO.under m)=true/\R (.panic y) (h'.take m)
 |_,T,h,D=>D=[]/\∃l y h' m,aX P T h fn.results.toList=some l/\Settles (bR l) h y h'/\n<=m/\m<=h'.length/\y.under m=true/\(h'.take m).all (AO.under m)=true/\R (.ret y) (h'.take m)
theorem FrN.cut {E:Env} {h h':Heap} {w E' w'} (f:FrN h.length E h.at w E' (Heap.at h') w')(hf:Fresh E h.length) {m:Nat} (hm:h.length<=m):
  Fr E h.at w (E'.cut m) (Heap.at (h'.take m)) w' where
 same:=f.same
 ext :=⟨f.ro,f.cells,fun id b e=>by
     have l0:id<h.length:=by
      rcases bNi id h.length with l|l
      ·exact l
      ·rw[(hf id l).1] at e;cases e
     have l:id<m:=aB;simp only[Env.cut,l,if_true];exact f.g id b l0 e,fun id L e=>by
     have l0:id<h.length:=by
      rcases bNi id h.length with l|l
      ·exact l
      ·rw[(hf id l).2] at e;cases e
     have l:id<m:=aB;simp only[Env.cut,l,if_true];exact f.t id L l0 e⟩
 roNew:=f.roNew
 size:=f.size
 kp:=f.kp
 inG:=fun b ⟨id,ho⟩=>f.inG b ⟨id,by
  have hat:∀o,Heap.at (h'.take m) id=some o->id<m/\h'.at id=some o:=by
   intro o e;rw[aAu] at e;exact y6b
  rcases ho with ⟨c,h1,h3,h2⟩|⟨k,sz,c,j,h1,h2⟩
  ·obtain⟨l,h1⟩:=hat _ h1;simp only[Env.cut,l,if_true] at h2;exact .inl ⟨c,h1,h3,h2⟩
  ·obtain⟨l,h1⟩:=hat _ h1;simp only[Env.cut,l,if_true] at h2;exact .inr ⟨k,sz,c,j,h1,h2⟩⟩
theorem Fresh.cut (E:Env) {m:Nat} {h:Heap} (hm:m<=h.length):Fresh (E.cut m) (h.take m).length:=by
 intro id hid;have:¬id<m:=by simp only[bMn] at hid;omega
 simp[Env.cut,this]
theorem iK {P:Program} {E w h} (tmps:Array Value) {T:List AV} (r:Rel E (Heap.at h) w)(ht:RepL E w T tmps.toList):
  ∀(rs:List ResultVar) (l:List AV),aX P T h rs=some l->
   ∃vs:List Value,(rs.mapM (m:=Sem) fun| .tmp t=>pure (tmps.getD t undef)| .cell a t=>do loadVar t (<-asAddr (tmps.getD a undef))).run P w= .ok vs w/\RepL E w l vs
 |[],l,hl=>by simp only[aX,bM0] at hl;subst hl;exact⟨[],by simp,by simp[RepL]⟩
 | .tmp t::rs,l,hl=>by
  simp only[aX,bMb] at hl;obtain⟨l',h1,rfl⟩:=hl;obtain⟨vs,e1,e2⟩:=iK tmps r ht rs l' h1;refine⟨tmps.getD t undef::vs,by simp only[List.mapM_cons,Sem.run_bind,Sem.run_pure,Result.andThen_ok,e1],?_⟩;simp only[RepL];exact⟨_,_,rfl,by have:=ht.get t;rw[<-tget_eq] at this;simpa using this,e2⟩
 | .cell a t::rs,l,hl=>by
  simp only[aX] at hl;split at hl
  ·rename_i x l' hx hl';simp only[bM0] at hl;subst hl;obtain⟨vs,e1,e2⟩:=iK tmps r ht rs l' hl';have hg:=ht.get a;rw[<-tget_eq] at hg;obtain⟨ad,u,hv,hrun,hu⟩:=pM (P:=P) r hg hx;have hv':tmps.getD a undef= .pointer (some ad):=by simpa using hv
   refine⟨u::vs,?_,by simp only[RepL];exact⟨_,_,rfl,hu,e2⟩⟩;have ha:(asAddr (tmps.getD a undef)).run P w= .ok ad w:=by rw[hv'];rfl
   simp only[List.mapM_cons,Sem.run_bind,ha,Sem.run_pure,Result.andThen_ok,hrun,e1]
  ·cases hl
theorem iL {P:Program} {E w h} {fn:Func} (tmps:Array Value) {T:List AV} (r:Rel E (Heap.at h) w)(ht:RepL E w T tmps.toList) {l:List AV} (hl:aX P T h fn.results.toList=some l):
  ∃v,(results fn tmps).run P w= .ok v w/\Rep E w (bR l) v:=by
 obtain⟨vs,e1,e2⟩:=iK (P:=P) tmps r ht _ l hl
 have e3:(fn.results.mapM (m:=Sem) fun| .tmp t=>pure (tmps.getD t undef)| .cell a t=>do loadVar t (<-asAddr (tmps.getD a undef))).run P w= .ok (List.toArray vs) w:=by
  rw[Array.mapM_eq_mapM_toList];simp only[Sem.run_map,e1,Result.andThen_ok]
 have e5:(results fn tmps).run P w= .ok (if h:(List.toArray vs).size=1 then(List.toArray vs)[0] else .tuple (List.toArray vs)) w:=by
  unfold results;rw[Sem.run_bind]
  erw [e3]
  rfl
 have hlen:=e2.length;refine⟨_,e5,?_⟩;unfold bR;split
 ·rename_i x;simp only[RepL] at e2;obtain⟨v,us,rfl,r1,rfl⟩:=e2;simpa using r1
 ·rename_i hne
  have:¬(List.toArray vs).size=1:=by
   intro h1;simp only[List.size_toArray] at h1;rw[hlen] at h1
   cases l with
   |nil=>simp at h1
   |cons a l=>cases l with
    |nil=>exact hne a rfl
    |cons b l=>simp at h1
  simp only[this,dif_neg,not_false_eq_true,Rep];exact⟨vs,rfl,e2⟩
theorem RepL.replicate {E w} (n:Nat):RepL E w (List.replicate n (.tup [])) (List.replicate n undef):=by
 induction n with
 |zero=>simp[RepL]
 |succ n ih=>simp only[bN3,RepL];exact⟨_,_,rfl,by simp only[Rep,RepL];exact⟨[],rfl,rfl⟩,ih⟩
theorem ACalls.of_run {P:Program} {f:FuncId} {fn:Func} {c:Code} {args:List AV} {h:Heap} {R:AOut->Heap->Prop} (hf:P.funcs[f]?=some fn)(hb:fn.body=some c)
  (r:Run P none h.length [.code c] (args++List.replicate (fn.ntmps-args.length) (.tup [])) h [] (Fin P fn h.length R)):ACalls P f args h R:=by
 intro E w vs hrel hfresh hargs;refine calls_of_wp hf hb ?_
 have s:St E w {tmps:=List.toArray vs++Array.replicate (fn.ntmps-(List.toArray vs).size) undef,defers:=[]} (args++List.replicate (fn.ntmps-args.length) (.tup [])) h []:=by
  exact y35
 refine wp_mono (wN.1 (r E w _ s)) ?_;rintro e a' w' ⟨E',T',h',D',x,hq,s',hfr,hx⟩
 have ret:(D'=[]/\∃l y h2 m,aX P T' h' fn.results.toList=some l/\Settles (bR l) h' y h2/\h.length<=m/\m<=h2.length/\y.under m=true/\(h2.take m).all (AO.under m)=true/\R (.ret y) (h2.take m))->
   a'.defers=[]/\∃v,(results fn a'.tmps).run P w'= .ok v w'/\∃out h'' E'',R out h''/\Rel E'' (Heap.at h'') w'/\Fresh E'' h''.length/\RepO E'' w' out (.returned v)/\Fr E h.at w E'' (Heap.at h'') w':=by
  rintro⟨rfl,l,y,h2,m,hl,hst,hm,hm2,hy,hh,hR⟩;have hd:=s'.defers;simp only[RepD] at hd;refine⟨hd,?_⟩;obtain⟨v,e1,e2⟩:=iL (P:=P) a'.tmps s'.rel s'.tmps hl;obtain⟨E2,r2,f2,x2,g2⟩:=hst E' w' v s'.rel s'.fresh e2;exact⟨v,e1, .ret y,h2.take m,E2.cut m,hR,r2.cut m hh,Fresh.cut E2 hm2,⟨v,rfl,x2.cut hy⟩,(hfr.trans (g2.toN _)).cut hfresh hm⟩
 cases x with
 |normal=>simp only[RepX] at hx;subst hx;exact ret hq
 |ret=>simp only[RepX] at hx;subst hx;exact ret hq
 |exit id=>exact hq.elim
 |panic x=>
  simp only[RepX] at hx;obtain⟨v,rfl,hv⟩:=hx;obtain⟨rfl,y,h2,m,hst,hm,hm2,hy,hh,hR⟩:=hq;have hd:=s'.defers;simp only[RepD] at hd;obtain⟨E2,r2,f2,x2,g2⟩:=hst E' w' v s'.rel s'.fresh hv;exact⟨hd, .panic y,h2.take m,E2.cut m,hR,r2.cut m hh,Fresh.cut E2 hm2,⟨v,rfl,x2.cut hy⟩,(hfr.trans (g2.toN _)).cut hfresh hm⟩
open Go
def bY (P:Program)(all:Array Oper)(K:List Oper->List AV->Heap->Prop):List Oper->List AV->Heap->Prop
 |[],T,h=>K [] T h
 |o::l,T,h=>
  match awanted all T o with
  |some true=>match aop P (aev T) h o.op with
   |some (x,h')=>bY P all K l (tput T o.dst x) h'
   |none=>K (o::l) T h
  |some false=>bY P all K l (tput T o.dst (.tup [])) h
  |none=>K (o::l) T h
theorem jT {P:Program} {rd:Option Nat} {nb:Nat} {all:Array Oper} {k:List It} {D:List AD} {Q:AX->List AV->Heap->List AD->Prop} :
  ∀(l:List Oper) (T:List AV) (h:Heap),bY P all (fun l T h=>Run P rd nb (.ops all l::k) T h D Q) l T h->Run P rd nb (.ops all l::k) T h D Q
 |[],T,h,r=>r
 |o::l,T,h,r=>by
  simp only[bY] at r;split at r
  ·rename_i hw;split at r
   ·rename_i x h' ho;exact Run.op hw ho (jT l _ _ r)
   ·exact r
  ·rename_i hw;exact Run.off hw (jT l _ _ r)
  ·exact r
theorem Run.ops {P:Program} {rd:Option Nat} {nb:Nat} {all:Array Oper} {k:List It} {D:List AD} {Q:AX->List AV->Heap->List AD->Prop} {l:List Oper} {T:List AV} {h:Heap}
  (r:∀K:List Oper->List AV->Heap->Prop,(∀l T h,Run P rd nb (.ops all l::k) T h D Q->K l T h)->bY P all K l T h):Run P rd nb (.ops all l::k) T h D Q:=
 jT l T h (r _ fun _ _ _ h=>h)
theorem Run.reg {P:Program} {rd:Option Nat} {nb:Nat} {id:Nat} {l:List Oper} {k:List It} {D:List AD} {Q:AX->List AV->Heap->List AD->Prop} {T:List AV} {h:Heap}
  (r:∀K:List Oper->List AV->Heap->Prop,(∀l' T h,Run P rd nb (.ops l.toArray l'::k) T h D Q->K l' T h)->bY P l.toArray K l T h):Run P rd nb (.code (.region id l.toArray false)::k) T h D Q:=
 Run.region (Run.ops r)
theorem Run.condB {P:Program} {rd:Option Nat} {nb:Nat} {c:Operand} {x y:Code} {k:List It} {D:List AD} {Q:AX->List AV->Heap->List AD->Prop} {T:List AV} {h:Heap} {b:Bool} (hc:aev T c= .p (.prim (.bool b)))
  (ht:b=true->Run P rd nb (.code x::k) T h D Q) (hf:b=false->Run P rd nb (.code y::k) T h D Q):Run P rd nb (.code (.cond c x y)::k) T h D Q:=
 Run.cond hc (by cases b<;>simp_all)
theorem Run.weak {P:Program} {rd:Option Nat} {nb:Nat} {k:List It} {D:List AD} {Q:AX->List AV->Heap->List AD->Prop} {T T':List AV} {h:Heap} (hw:WeakL T T')(r:Run P rd nb k T' h D Q):Run P rd nb k T h D Q:=
 fun E w a s=>r E w a ⟨s.rel,s.fresh,hw E w _ s.tmps,s.defers⟩
def setMany (T:List AV):List (Nat×AV)->List AV
 |[]=>T
 |(i,x)::l=>setMany (T.set i x) l
def keepT (keep:List Nat)(T:List AV):List AV:=go 0 T
where
 go (i:Nat):List AV->List AV
 |[]=>[]
 |x::l=>(if keep.contains i then x else .junk)::go (i+1) l
theorem Run.loopS {P:Program} {rd:Option Nat} {nb:Nat} {c:Code} {k:List It} {D:List AD} {Q:AX->List AV->Heap->List AD->Prop} {T:List AV} {h:Heap} {ι:Type} (keep:List Nat)(pre:ι->Prop)(μ:ι->Nat)(f:ι->List (Nat×AV))(g:ι->Heap)
  (i0:ι) (hp:pre i0) (hT:WeakL T (setMany (keepT keep T) (f i0))) (hh:g i0=h)
  (round:∀i,pre i->(∀j T' h',pre j->μ j<μ i->WeakL T' (setMany (keepT keep T) (f j))->h'=g j->Run P rd nb (.code (.loop c)::k) T' h' D Q)->
   Run P rd nb (.code c:: .code (.loop c)::k) (setMany (keepT keep T) (f i)) (g i) D Q):Run P rd nb (.code (.loop c)::k) T h D Q:=by
 subst hh;refine Run.weak hT ?_
 have:∀n i,μ i=n->pre i->Run P rd nb (.code (.loop c)::k) (setMany (keepT keep T) (f i)) (g i) D Q:=by
  intro n
  induction n using Nat.strongRecOn with
  |_ n ih=>
   intro i hn hi;exact Run.loop (round i hi fun j T' h' hj hlt hw he=>by subst he;exact Run.weak hw (ih (μ j) (hn▸hlt) j rfl hj))
 exact this _ i0 rfl hp
open Go
def isE:Op->Bool
 | .move _| .assign _| .pick .. | .build .. | .buildSlice .. | .load .. | .nilCheck _| .binOp .. | .unOp .. | .convert .. | .makeInterface .. | .makeFunc .. | .slice .. | .fieldAddr .. | .field .. | .indexAddr ..
 | .index .. | .extract .. =>false
 | .call ⟨.builtin .len,_,_⟩| .call ⟨.builtin .max,_,_⟩| .call ⟨.builtin .min,_,_⟩=>false
 |_=>true
theorem gL {P:Program} {ρ:Operand->AV} {h h':Heap} {op:Op} {x:AV} (he:isE op=false)(ha:aop P ρ h op=some (x,h')):h'=h:=by
 cases op<;>simp only[isE] at he<;>try (cases he;done)
 all_goals simp only[aop] at ha
 case call c=>
  obtain⟨callee,args,types⟩:=c
  cases callee with
  |value f=>simp at he
  |invoke r m=>simp at he
  |builtin b=>
   replace ha:abuiltin P b types (args.toList.map ρ) h=some (x,h'):=ha
   cases b<;>simp at he
   all_goals
    unfold abuiltin at ha
    split at ha<;>first
     |(cases ha;done)
     |(simp only[bM0,bMf] at ha;exact ha.2.symm)
     |(simp only[bMb,bMf] at ha;obtain⟨_,_,_,e⟩:=ha;exact e.symm)
     |simp_all
 case slice t y lo hi mx=>
  cases mx with
  |none=>simp only[bMb,bMf] at ha;obtain⟨_,_,_,e⟩:=ha;exact e.symm
  |some _=>simp only[bMb,bMf] at ha;obtain⟨_,_,_,e⟩:=ha;exact e.symm
 all_goals first
  |(simp only[bM0,bMf] at ha;exact ha.2.symm)
  |(simp only[bMb,bMf] at ha;obtain⟨_,_,_,e⟩:=ha;exact e.symm)
  | (split at ha<;>first
    |(cases ha;done)
    |(simp only[bM0,bMf] at ha;exact ha.2.symm)
    |(simp only[bMb,bMf] at ha;obtain⟨_,_,_,e⟩:=ha;exact e.symm))
theorem aop_congr {P:Program} {ρ ρ':Operand->AV} {h:Heap} (op:Op)(hs:∀x∈op.operands,ρ x=ρ' x):aop P ρ h op=aop P ρ' h op:=by
 have pairs:∀ps:Array (Nat×Operand),(∀x∈ps.map (·.2),ρ x=ρ' x)->(ps.toList.map fun p=>(p.1,ρ p.2))=(ps.toList.map fun p=>(p.1,ρ' p.2)):=fun ps hp=>
  List.map_congr_left fun p hm=>by
   rw[hp p.2 (Array.mem_map.2 ⟨p,by simpa using hm,rfl⟩)]
 have lists:∀ps:Array Operand,(∀x∈ps,ρ x=ρ' x)->ps.toList.map ρ=ps.toList.map ρ':=fun ps hp=>List.map_congr_left fun p hm=>hp p (by simpa using hm)
 cases op<;>simp only[Op.operands] at hs<;>simp only[aop]
 case build t ps=>rw[pairs ps fun x hx=>hs x (by simpa using hx)]
 case buildSlice t n ps=>rw[pairs ps fun x hx=>hs x (by simpa using hx)]
 case makeFunc fn first captured=>
  rw[lists first fun x hx=>hs x (by simp[hx]),lists captured fun x hx=>hs x (by simp[hx])]
 case call c=>
  obtain⟨callee,args,types⟩:=c
  cases callee with
  |value f=>rfl
  |invoke r m=>rfl
  |builtin b=>
   simp only;rw[lists args fun x hx=>hs x (by simp[Call.operands,hx])]
 case slice t x lo hi mx=>cases lo<;>cases hi<;>cases mx<;>simp_all
 case typeAssert x xT asserted ok=>cases ok<;>simp_all
 all_goals (first|rfl|(simp_all;done))
theorem lL {T T':List AV} (c:Call)(hs:∀x∈c.operands,aev T x=aev T' x):acallee T c=acallee T' c:=by
 have hargs:c.args.toList.map (aev T)=c.args.toList.map (aev T'):=List.map_congr_left fun p hm=>hs p (by simp[Call.operands];exact .inr (by simpa using hm))
 unfold acallee
 cases hc:c.callee with
 |value f=>have hf:aev T f=aev T' f:=hs f (by simp[Call.operands,hc]);simp only[hf,hargs]
 |invoke r m=>rfl
 |builtin b=>rfl
theorem lM {T:List AV} {dst:Option Tmp} {x:AV} {y:Operand} (h:∀d,dst=some d->y≠ .tmp d):aev (tput T dst x) y=aev T y:=by
 cases dst with
 |none=>rfl
 |some d=>
  cases y with
  |tmp t=>
   have hne:d≠t:=fun e=>h d rfl (e▸rfl)
   simp[aev,tput,tget_eq,bMl hne]
  |_=>rfl
theorem aA5 {T:List AV} {x y:Option Tmp} (v u:AV)(h:∀d,x=some d->y≠some d):tput (tput T x v) y u=tput (tput T y u) x v:=by
 cases x with
 |none=>rfl
 |some d=>
  cases y with
  |none=>rfl
  |some e=>
   have hne:d≠e:=fun he=>h d rfl (he▸rfl)
   simp only[tput];rw[List.set_comm _ _ hne]
theorem dF {all:Array Oper} {T:List AV} {o:Oper} {dst:Option Tmp} {x:AV} (h:∀d,dst=some d->d∉o.looksAt all):awanted all (tput T dst x) o=awanted all T o:=by
 cases dst with
 |none=>rfl
 |some d=>
  unfold awanted
  cases hg:o.guard with
  |none=>rfl
  |some gw=>
   obtain⟨g,want⟩:=gw;simp only
   cases ht:(all[g]?).bind (·.dst) with
   |none=>rfl
   |some t=>
    have hne:d≠t:=fun e=>h d rfl (by subst e;simp[Oper.looksAt,hg,ht])
    simp only[tput,tget_eq,List.getD,bMl hne]
theorem oX {P:Program} {all:Array Oper} {T:List AV} {h:Heap} {o:Oper} {dst:Option Tmp} {x:AV} (hd:∀d,dst=some d->d∉o.looksAt all):
  aop P (aev (tput T dst x)) h o.op=aop P (aev T) h o.op:=
 aop_congr o.op fun y hy=>lM fun d e hyd=>hd d e (by
  subst hyd;exact bNl _ (List.mem_filterMap.2 ⟨.tmp d,by simpa using hy,rfl⟩))
theorem cL {all:Array Oper} {T:List AV} {o:Oper} {c:Call} {dst:Option Tmp} {x:AV} (ho:o.op= .call c)(hd:∀d,dst=some d->d∉o.looksAt all):
  acallee (tput T dst x) c=acallee T c:=
 lL c fun y hy=>lM fun d e hyd=>hd d e (by
  subst hyd;exact bNl _ (List.mem_filterMap.2 ⟨.tmp d,by rw[ho];simpa [Op.operands] using hy,rfl⟩))
def stab (P:Program)(T:List AV)(x:AV)(op:Op):List Heap->Prop
 |[]=>True
 |g::gs=>aop P (aev T) g op=some (x,g)/\stab P T x op gs
theorem stab_iff {P:Program} {T:List AV} {x:AV} {op:Op} :∀ {l:List Heap},stab P T x op l↔∀g∈l,aop P (aev T) g op=some (x,g)
 |[]=>by simp[stab]
 |g::gs=>by simp[stab,stab_iff (l:=gs)]
def Does (P:Program)(o:Oper)(T:List AV)(h:Heap)(R:AV->Heap->Prop):Prop:=
 ((∀c,o.op≠ .defer c)/\∀T':List AV,(∀y∈o.op.operands,aev T' y=aev T y)->∀(E:Env) (w:World) (a:Act) (D:List AD),St E w a T' h D->
  ∃x h',R x h'/\∃E' w' v,(execOp a.eval o).run P w= .ok (.value v) w'/\Rel E' (Heap.at h') w'/\Fresh E' h'.length/\Rep E' w' x v/\Fr E (Heap.at h) w E' (Heap.at h') w')\/
 ∃c f args,o.op= .call c/\acallee T c=some (f,args)/\aK P f=true/\ACalls P f args h (fun o' g=>∃v,o'= .ret v/\R v g)
def Reads (P:Program)(o:Oper)(T:List AV)(h:Heap)(x:AV):Prop:=
 (∀c,o.op≠ .defer c)/\∀T':List AV,(∀y∈o.op.operands,aev T' y=aev T y)->∀(E:Env) (w:World) (a:Act) (D:List AD),St E w a T' h D->
  ∃E' w' v,(execOp a.eval o).run P w= .ok (.value v) w'/\Rel E' (Heap.at h) w'/\Fresh E' h.length/\Rep E' w' x v/\Fr E (Heap.at h) w E' (Heap.at h) w'
theorem Reads.tput {P:Program} {o:Oper} {all:Array Oper} {T:List AV} {h:Heap} {x y:AV} {dst:Option Tmp} (hd:∀d,dst=some d->d∉o.looksAt all):Reads P o (tput T dst y) h x↔Reads P o T h x:=by
 have e:∀z∈o.op.operands,aev (Go.AI.tput T dst y) z=aev T z:=fun z hz=>lM fun d e hyd=>hd d e (by
  subst hyd;exact bNl _ (List.mem_filterMap.2 ⟨.tmp d,by simpa using hz,rfl⟩))
 exact⟨fun h=>⟨h.1,fun T' hT'=>h.2 T' fun z hz=>by rw[hT' z hz,e z hz]⟩,fun h=>⟨h.1,fun T' hT'=>h.2 T' fun z hz=>by rw[hT' z hz,e z hz]⟩⟩
section
variable (P:Program) (ops:Array Oper) (lo:List Nat) (Kont:List AV->Heap->Prop)
def drStep (i:Nat)(next:List Heap->List AV->Heap->Prop)(hist:List Heap)(T:List AV)(h:Heap):Prop:=
 ∃o,ops[i]?=some o/\
  ((awanted ops T o=some false/\next (if isE o.op then hist++[h] else hist) (tput T o.dst (.tup [])) h)\/
   (awanted ops T o=some true/\isE o.op=false/\∃x,aop P (aev T) h o.op=some (x,h)/\stab P T x o.op (hist.drop (lo.getD i 0))/\next hist (tput T o.dst x) h)\/
   (awanted ops T o=some true/\isE o.op=true/\∃x h',aop P (aev T) h o.op=some (x,h')/\next (hist++[h]) (tput T o.dst x) h')\/
   (awanted ops T o=some true/\isE o.op=true/\∃c f args h',o.op= .call c/\acallee T c=some (f,args)/\aK P f=true/\
     ∃v,ACalls P f args h (fun o' g=>o'= .ret v/\g=h')/\next (hist++[h]) (tput T o.dst v) h')\/
   (awanted ops T o=some true/\isE o.op=true/\∃R:AV->Heap->Prop,(∃x h',R x h')/\Does P o T h R/\∀x h',R x h'->next (hist++[h]) (tput T o.dst x) h')\/
   (awanted ops T o=some true/\isE o.op=false/\hist.length<lo.getD i 0/\∃x,Reads P o T h x/\next hist (tput T o.dst x) h))
def DR:List Nat->List Heap->List AV->Heap->Prop
 |[],_,T,h=>Kont T h
 |i::π,hist,T,h=>drStep P ops lo i (DR π) hist T h
end
section
variable {P:Program} {ops:Array Oper} {lo:List Nat} {Kont:List AV->Heap->Prop}
theorem drStep_mono {i:Nat} {n n':List Heap->List AV->Heap->Prop} {hist:List Heap} {T:List AV} {h:Heap} (hn:∀hist' T' h',(∃t,hist'=hist++t/\t.length=if((ops[i]?).map fun o=>isE o.op)=some true then 1 else 0)->n hist' T' h'->n' hist' T' h')
  (d:drStep P ops lo i n hist T h):drStep P ops lo i n' hist T h:=by
 obtain⟨o,ho,hd⟩:=d;refine⟨o,ho,?_⟩;simp only[ho,bN2,bM0] at hn;rcases hd with ⟨h1,h2⟩|⟨h1,h2,x,h3,h4,h5⟩|⟨h1,h2,x,h',h3,h4⟩|⟨h1,h2,c,f,args,h',h3,h4,h5,h6⟩|⟨h1,h2,R,hne,h3,h4⟩|⟨h1,h2,h3,x,h4,h5⟩
 ·refine .inl ⟨h1,hn _ _ _ ?_ h2⟩;exact y81
 ·exact y80
 ·exact y7t
 ·exact y5t
 ·exact .inr (.inr (.inr (.inr (.inl ⟨h1,h2,R,hne,h3,fun x h' hr=>hn _ _ _ ⟨[h],rfl,by simp[h2]⟩ (h4 x h' hr)⟩))))
 ·exact .inr (.inr (.inr (.inr (.inr ⟨h1,h2,h3,x,h4,hn _ _ _ ⟨[],by simp,by simp[h2]⟩ h5⟩))))
theorem dr_swap {i j:Nat} {oi oj:Oper} (hi:ops[i]?=some oi)(hj:ops[j]?=some oj)(hap:oi.apart ops oj=true)(hE:isE oi.op=false) {next:List Heap->List AV->Heap->Prop} {hist:List Heap} {T:List AV} {h:Heap}
  (hrank:isE oj.op=true->lo.getD i 0<=hist.length)
  (d:drStep P ops lo j (drStep P ops lo i next) hist T h):drStep P ops lo i (drStep P ops lo j next) hist T h:=by
 obtain⟨a1,a2,a3⟩:=Oper.apart_spec hap;obtain⟨oj',hj',hd⟩:=d;rw[hj] at hj';cases hj'
 --what i does behind j,told of the slots ahead of j
 have inner:∀(hist':List Heap) (y:AV) (h':Heap),(isE oj.op=false->h'=h/\hist'=hist)->(isE oj.op=true->hist'=hist++[h])->drStep P ops lo i next hist' (tput T oj.dst y) h'->
   ∃x,((awanted ops T oi=some false/\x= .tup [])\/(awanted ops T oi=some true/\aop P (aev T) h oi.op=some (x,h)/\stab P T x oi.op (hist.drop (lo.getD i 0)))\/(awanted ops T oi=some true/\isE oj.op=false/\hist.length<lo.getD i 0/\Reads P oi T h x))/\next hist' (tput (tput T oi.dst x) oj.dst y) h':=by
  intro hist' y h' e1 e2 di;obtain⟨o,ho,hd⟩:=di;rw[hi] at ho;cases ho;have hw:awanted ops (tput T oj.dst y) oi=awanted ops T oi:=dF a3;have hop:∀g,aop P (aev (tput T oj.dst y)) g oi.op=aop P (aev T) g oi.op:=fun g=>oX a3
  have hcm:∀x,tput (tput T oj.dst y) oi.dst x=tput (tput T oi.dst x) oj.dst y:=fun x=>aA5 _ _ fun d e e'=>a2 d e' e
  rw[hw] at hd;simp only[hE,bMe,false_and,and_false,false_or,if_false,hop,hcm,Reads.tput a3] at hd;rcases hd with ⟨h1,h2⟩|⟨h1,_,x,h3,h4,h5⟩|⟨h1,_,h3,x,h4,h5⟩
  ·exact⟨.tup [], .inl ⟨h1,rfl⟩,h2⟩
  ·refine⟨x, .inr (.inl ⟨h1,?_⟩),h5⟩;rw[stab_iff] at h4;simp only[hop] at h4
   cases hEj:isE oj.op with
   |false=>
    obtain⟨rfl,rfl⟩:=e1 hEj;exact⟨h3,stab_iff.2 h4⟩
   |true=>
    exact y4v
  ·cases hEj:isE oj.op with
   |false=>
    obtain⟨rfl,rfl⟩:=e1 hEj;exact⟨x, .inr (.inr ⟨h1,rfl,h3,h4⟩),h5⟩
   |true=>
    have e:=e2 hEj;subst e;have hl:=hrank hEj;rw[bM5] at h3;omega
 --j ahead of which i has been done
 have outer:∀x,awanted ops (tput T oi.dst x) oj=awanted ops T oj/\(∀g,aop P (aev (tput T oi.dst x)) g oj.op=aop P (aev T) g oj.op)/\(∀c,oj.op= .call c->acallee (tput T oi.dst x) c=acallee T c)/\(∀y l,stab P (tput T oi.dst x) y oj.op l↔stab P T y oj.op l):=by
  intro x;have hop:∀g,aop P (aev (tput T oi.dst x)) g oj.op=aop P (aev T) g oj.op:=fun g=>oX a1
  exact⟨dF a1,hop,fun c hc=>cL hc a1,fun y l=>by rw[stab_iff,stab_iff];simp only[hop]⟩
 have close:∀x,((awanted ops T oi=some false/\x= .tup [])\/(awanted ops T oi=some true/\aop P (aev T) h oi.op=some (x,h)/\stab P T x oi.op (hist.drop (lo.getD i 0)))\/(awanted ops T oi=some true/\isE oj.op=false/\hist.length<lo.getD i 0/\Reads P oi T h x))->
   drStep P ops lo j next hist (tput T oi.dst x) h->drStep P ops lo i (drStep P ops lo j next) hist T h:=by
  intro x hx hdj;refine⟨oi,hi,?_⟩;rcases hx with ⟨h1,rfl⟩|⟨h1,h2,h3⟩|⟨h1,_,h2,h3⟩
  ·exact .inl ⟨h1,by simpa [hE] using hdj⟩
  ·exact .inr (.inl ⟨h1,hE,x,h2,h3,hdj⟩)
  ·exact .inr (.inr (.inr (.inr (.inr ⟨h1,hE,h2,x,h3,hdj⟩))))
 rcases hd with ⟨h1,h2⟩|⟨h1,h2,y,h3,h4,h5⟩|⟨h1,h2,y,h',h3,h4⟩|⟨h1,h2,c,f,args,h',h3,h4,h5,h6⟩|⟨h1,h2,R,hne,h3,h4⟩|⟨h1,h2,h3,y,h4,h5⟩
 ·obtain⟨x,hx,hn⟩:=inner _ _ _ (fun e=>⟨rfl,by simp[e]⟩) (fun e=>by simp[e]) h2;obtain⟨o1,o2,o3,o4⟩:=outer x;exact close x hx ⟨oj,hj, .inl ⟨by rw[o1];exact h1,hn⟩⟩
 ·obtain⟨x,hx,hn⟩:=inner hist y h (fun _=>⟨rfl,rfl⟩) (fun e=>by rw[h2] at e;cases e) h5;obtain⟨o1,o2,o3,o4⟩:=outer x;exact close x hx ⟨oj,hj, .inr (.inl ⟨by rw[o1];exact h1,h2,y,by rw[o2];exact h3,(o4 y _).2 h4,hn⟩)⟩
 ·obtain⟨x,hx,hn⟩:=inner (hist++[h]) y h' (fun e=>by rw[h2] at e;cases e) (fun _=>rfl) h4;obtain⟨o1,o2,o3,o4⟩:=outer x;exact y6x
 ·obtain⟨v,h7,h8⟩:=h6;obtain⟨x,hx,hn⟩:=inner (hist++[h]) v h' (fun e=>by rw[h2] at e;cases e) (fun _=>rfl) h8;obtain⟨o1,o2,o3,o4⟩:=outer x;exact y5v
 ·obtain⟨y0,g0,hr0⟩:=hne;obtain⟨x,hx,_⟩:=inner (hist++[h]) y0 g0 (fun e=>by rw[h2] at e;cases e) (fun _=>rfl) (h4 y0 g0 hr0);obtain⟨o1,o2,o3,o4⟩:=outer x;refine close x hx ⟨oj,hj, .inr (.inr (.inr (.inr (.inl ⟨by rw[o1];exact h1,h2,R,⟨y0,g0,hr0⟩,?_,fun y h' hr=>?_⟩))))⟩
  ·rcases h3 with ⟨hnd,h3⟩|⟨c,f,args,h5,h6,h7,h8⟩
   ·refine .inl ⟨hnd,fun T' hT'=>h3 T' fun z hz=>?_⟩;rw[hT' z hz]
    exact lM fun d e hyd=>a1 d e (by
     subst hyd;exact bNl _ (List.mem_filterMap.2 ⟨.tmp d,by simpa using hz,rfl⟩))
   ·exact .inr ⟨c,f,args,h5,by rw[o3 c h5];exact h6,h7,h8⟩
  ·obtain⟨x',hx',hn⟩:=inner (hist++[h]) y h' (fun e=>by rw[h2] at e;cases e) (fun _=>rfl) (h4 y h' hr)
   have:x'=x:=by
    rcases hx with ⟨q1,q2⟩|⟨q1,q2,_⟩|⟨_,q5,_⟩
    ·rcases hx' with ⟨q3,q4⟩|⟨q3,q4,_⟩|⟨_,q6,_⟩
     ·rw[q2,q4]
     ·rw[q1] at q3;cases q3
     ·rw[h2] at q6;cases q6
    ·rcases hx' with ⟨q3,q4⟩|⟨q3,q4,_⟩|⟨_,q6,_⟩
     ·rw[q1] at q3;cases q3
     ·rw[q2] at q4;simp only[bM0,bMf] at q4;exact q4.1.symm
     ·rw[h2] at q6;cases q6
    ·rw[h2] at q5;cases q5
   subst this;exact hn
 ·obtain⟨x,hx,hn⟩:=inner hist y h (fun _=>⟨rfl,rfl⟩) (fun e=>by rw[h2] at e;cases e) h5;obtain⟨o1,o2,o3,o4⟩:=outer x;exact close x hx ⟨oj,hj, .inr (.inr (.inr (.inr (.inr ⟨by rw[o1];exact h1,h2,h3,y,(Reads.tput a1).2 h4,hn⟩))))⟩
def Ranked (ops:Array Oper)(rk:List Nat):List Nat->Nat->Prop
 |[],_=>True
 |i::π,n=>if((ops[i]?).map fun o=>isE o.op)=some true then rk.getD i 0=n/\Ranked ops rk π (n+1) else Ranked ops rk π n
def Loose (ops:Array Oper)(lo rk:List Nat)(j i:Nat):Prop:=
 ∃oi oj,ops[i]?=some oi/\ops[j]?=some oj/\oi.apart ops oj=true/\isE oi.op=false/\(isE oj.op=true->lo.getD i 0<=rk.getD j 0)
theorem dr_front {rk:List Nat} {i:Nat} :∀(π1 π2:List Nat)(hist:List Heap)(T:List AV)(h:Heap),(∀j∈π1,Loose ops lo rk j i)->Ranked ops rk (π1++i::π2) hist.length->DR P ops lo Kont (π1++i::π2) hist T h->DR P ops lo Kont (i::(π1++π2)) hist T h
 |[],π2,hist,T,h,_,_,d=>d
 |j::π1,π2,hist,T,h,hl,hr,d=>by
  obtain⟨oi,oj,hi,hj,hap,hE,hlo⟩:=hl j aA;simp only[bLz,Ranked,hj,bN2,bM0] at hr;simp only[bLz,DR] at d⊢
  have d1:drStep P ops lo j (DR P ops lo Kont (i::(π1++π2))) hist T h:=by
   refine drStep_mono ?_ d;rintro hist' T' h' ⟨t,rfl,ht⟩ dd;refine dr_front π1 π2 _ _ _ (fun k hk=>hl k (by simp[hk])) ?_ dd;simp only[hj,bN2,bM0] at ht
   cases hEj:isE oj.op with
   |true=>simp only[hEj,if_true] at hr ht;rw[bM5,ht];exact hr.2
   |false=>simp only[hEj,bMe,if_false] at hr ht;rw[bM5,ht];exact hr
  exact y7a
end
open Go
structure Plan (ops:Array Oper) (lo rk:List Nat) (pr:Nat->Nat->Bool) (fin:Option Nat) (listed:Array Bool) (π:List Nat) (n:Nat):Prop where
 size:listed.size=ops.size
 mem:∀i∈π,i<ops.size/\listed.getD i true=false
 all:∀i,i<ops.size->listed.getD i true=false->i∈π\/∃e,fin=some e/\e<ops.size/\listed.getD e true=false/\(i=e\/pr e i=true)
 finU:∀e,fin=some e->e<ops.size/\listed.getD e true=false
 nodup:π.Nodup
 closed:∀i j,i<ops.size->listed.getD i true=true->pr j i=true->listed.getD j true=true
 edge:∀i j,i<ops.size->pr j i=true->∃o e,ops[i]?=some o/\e∈o.after/\Region.binds .any e=true/\(e.on=j\/pr j e.on=true)/\e.on<ops.size
 pair:π.Pairwise fun j i=>pr j i=true\/Loose ops lo rk j i
 last:∀e,fin=some e->e∉π/\∀j∈π,pr j e=true\/∃oe oj,ops[e]?=some oe/\ops[j]?=some oj/\oj.apart ops oe=true/\isE oj.op=false
 ready:∀π1 i π2,(π++fin.toList)=π1++i::π2->∀o,ops[i]?=some o->∀e∈o.after,Region.binds .any e=true->listed.getD e.on false=true\/e.on∈π1
 rank:Ranked ops rk π n
theorem Ranked.remove {ops:Array Oper} {rk:List Nat} {i:Nat} (hE:((ops[i]?).map fun o=>isE o.op)≠some true):∀(π1 π2:List Nat)(n:Nat),Ranked ops rk (π1++i::π2) n->Ranked ops rk (π1++π2) n
 |[],π2,n,h=>by simpa only[bM4,Ranked,hE,if_false] using h
 |j::π1,π2,n,h=>by
  simp only[bLz,Ranked] at h⊢;split
  ·rename_i hj;simp only[hj,if_true] at h;exact⟨h.1,Ranked.remove hE π1 π2 _ h.2⟩
  ·rename_i hj;simp only[hj,if_false] at h;exact Ranked.remove hE π1 π2 _ h
theorem split_insert (i k:Nat):∀(A B σ1 σ2:List Nat),A++B=σ1++k::σ2->∃τ1 τ2,A++i::B=τ1++k::τ2/\∀x∈τ1,x=i\/x∈σ1
 |[],B,σ1,σ2,hB=>by
  simp only[bM4] at hB
  exact⟨i::σ1,σ2,by simp[hB],fun x hx=>by
   rcases bMh.1 hx with h|h
   ·exact .inl h
   ·exact .inr h⟩
 |a::A,B,[],σ2,hB=>by
  simp only[bLz,bM4,bMz] at hB;obtain⟨rfl,hB⟩:=hB;exact⟨[],A++i::B,by simp,by simp⟩
 |a::A,B,s::σ1,σ2,hB=>by
  simp only[bLz,bMz] at hB;obtain⟨rfl,hB⟩:=hB;obtain⟨τ1,τ2,h1,h2⟩:=split_insert i k A B σ1 σ2 hB
  exact⟨a::τ1,τ2,by simp[h1],fun x hx=>by
   rcases bMh.1 hx with h|h
   ·exact .inr (by simp[h])
   ·rcases h2 x h with h|h
    ·exact .inl h
    ·exact .inr (by simp[h])⟩
theorem listed_true_of_false {l:Array Bool} {i:Nat} (h:l.getD i false=true):l.getD i true=true:=by
 exact y6u
theorem getD_set {l:Array Bool} {i j:Nat} (hi:i<l.size):(l.setIfInBounds i true).getD j true=if j=i then true else l.getD j true:=by
 exact y38
theorem getD_setF {l:Array Bool} {i j:Nat} (hi:i<l.size):(l.setIfInBounds i true).getD j false=if j=i then true else l.getD j false:=by
 exact y38
section
variable {P:Program} {ops:Array Oper} {lo rk:List Nat} {pr:Nat->Nat->Bool} {fin:Option Nat} {listed:Array Bool} {π:List Nat} {n:Nat}
theorem Plan.below (p:Plan ops lo rk pr fin listed π n) {i:Nat} (hi:i∈Region.ready .any ops listed) {j:Nat} (hp:pr j i=true):listed.getD j true=true:=by
 exact y3r
theorem Plan.step (p:Plan ops lo rk pr fin listed π n) {i:Nat} (hi:i∈Region.ready .any ops listed) {π1 π2:List Nat} (hπ:π=π1++i::π2) {m:Nat} (hr:Ranked ops rk (π1++π2) m):
  Plan ops lo rk pr fin (listed.setIfInBounds i true) (π1++π2) m:=by
 exact y22
variable {D:List AD} {Q:AX->List AV->Heap->List AD->Prop}
theorem drStep_wp {rd:Option Nat} {i:Nat} {next:List Heap->List AV->Heap->Prop} {hist:List Heap} {T:List AV} {h:Heap} {E:Env} {w:World} {a:Act} {Qw:Exit->Act->World->Prop} {Kw:Act->World->Prop}
  (d:drStep P ops lo i next hist T h) (s:St E w a T h D)
  (hk:∀hist' T' h' E' w' a',(∃t,hist'=hist++t/\t.length=if((ops[i]?).map fun o=>isE o.op)=some true then 1 else 0)->next hist' T' h'->St E' w' a' T' h' D->Fr E h.at w E' (Heap.at h') w'->Kw a' w'):
  wpOpIn (fen rd) 0 P ops Qw i Kw a w:=by
 obtain⟨o,ho,hd⟩:=d;simp only[ho,bN2,bM0] at hk;unfold wpOpIn;simp only[ho]
 have ops1:∀ {x h'},awanted ops T o=some true->aop P (aev T) h o.op=some (x,h')->(∀E' w' a',St E' w' a' (tput T o.dst x) h' D->Fr E h.at w E' (Heap.at h') w'->Kw a' w')->
   (if Region.wanted o (yielded ops a.tmps)=true then o.wpIn (fen rd) 0 P a w Kw Qw else(∀f,o.about P w a.eval=some f->(fen rd).fn f)/\Kw (a.put o.dst undef) w):=by
  intro x h' hw hop J;exact y3n
 rcases hd with ⟨h1,h2⟩|⟨h1,h2,x,h3,h4,h5⟩|⟨h1,h2,x,h',h3,h4⟩|⟨h1,h2,c,f,args,h',h3,h4,h5,v,h6,h7⟩|⟨h1,h2,R,hne,h3,h4⟩|⟨h1,h2,h3,x,⟨hnd,h4⟩,h5⟩
 ·refine y1r ?_;refine⟨fun _ _=>trivial,?_⟩;refine hk _ _ _ E w _ ?_ h2 (s.put (by simp only[Rep,RepL];exact⟨[],rfl,rfl⟩) o.dst) (Fr.refl _ _ _);exact y81
 ·exact y7d
 ·exact y7h
 ·exact y2z
 ·refine yr ?_;rcases h3 with ⟨hnd,h3⟩|⟨c,f,args,h5,h6,h7,h8⟩
  ·obtain⟨x,h',hr,E',w',v,hrun,hrel,hf,hx,hfr⟩:=h3 T (fun _ _=>rfl) E w a D s;refine⟨fun _ _=>trivial,?_⟩;rw[Oper.semAt_eq _ _ _ hnd,hrun];exact hk _ _ _ E' w' _ ⟨[h],rfl,by simp[h2]⟩ (h4 x h' hr) ((s.move hfr hrel hf).put hx o.dst) hfr
  ·obtain⟨vs,hrun,hvs⟩:=acallee_sound (P:=P) s h6 h7 h5;refine⟨fun _ _=>trivial,?_⟩;rw[Oper.semAt_eq _ _ _ (fun c hc=>by rw[hc] at h5;cases h5),hrun];refine⟨fun hd=>(by cases hd),callsIn_fen.2 (Calls.mono (h8 E w vs s.rel s.fresh hvs) ?_)⟩;rintro e w' ⟨out,h'',E',⟨v,rfl,hr⟩,hrel,hf,hout,hfr⟩;simp only[RepO] at hout;obtain⟨u,rfl,hx⟩:=hout;exact hk _ _ _ E' w' _ ⟨[h],rfl,by simp[h2]⟩ (h4 v h'' hr) ((s.move hfr hrel hf).put hx o.dst) hfr
 ·refine yr ?_;obtain⟨E',w',v,hrun,hrel,hf,hx,hfr⟩:=h4 T (fun _ _=>rfl) E w a D s;refine⟨fun _ _=>trivial,?_⟩;rw[Oper.semAt_eq _ _ _ hnd,hrun];exact y7g
def Agree (ops:Array Oper)(T T':List AV):Prop:=∀s,ops.all (fun o=>o.dst !=some s)=true->tget T' s=tget T s
def aT4 (ops:Array Oper)(T T':List AV):Prop:=T'.length=T.length/\Agree ops T T'
def PanStep (P:Program)(ops:Array Oper)(Q:AX->List AV->Heap->List AD->Prop)(D:List AD)(e:Nat)(T:List AV)(h:Heap):Prop:=
 ∃o c f args v h',ops[e]?=some o/\awanted ops T o=some true/\o.op= .call c/\acallee T c=some (f,args)/\aK P f=true/\ACalls P f args h (fun o' g=>o'= .panic v/\g=h')/\∀T',Agree ops T T'->Q (.panic v) T' h' D
def aT7 (P:Program)(ops:Array Oper)(Q:AX->List AV->Heap->List AD->Prop)(D:List AD)(e:Nat)(T:List AV)(h:Heap):Prop:=
 ∃o c f args,ops[e]?=some o/\awanted ops T o=some true/\o.op= .call c/\acallee T c=some (f,args)/\aK P f=true/\ACalls P f args h (fun o' g=>∃v,o'= .panic v/\∀T',aT4 ops T T'->Q (.panic v) T' g D)
theorem PanStep.gen {P:Program} {ops:Array Oper} {Q:AX->List AV->Heap->List AD->Prop} {D:List AD} {e:Nat} {T:List AV} {h:Heap} (p:PanStep P ops Q D e T h):aT7 P ops Q D e T h:=by
 obtain⟨o,c,f,args,v,h',h1,h2,h3,h4,h5,h6,h7⟩:=p;refine⟨o,c,f,args,h1,h2,h3,h4,h5,h6.mono ?_⟩;rintro o' g ⟨rfl,rfl⟩;exact⟨v,rfl,fun T' hT=>h7 T' hT.2⟩
theorem panStep_back {e j:Nat} {oe oj:Oper} (he:ops[e]?=some oe)(hj:ops[j]?=some oj)(hap:oj.apart ops oe=true) {T:List AV} {h:Heap} {y:AV} (ps:aT7 P ops Q D e (tput T oj.dst y) h):aT7 P ops Q D e T h:=by
 obtain⟨a1,a2,a3⟩:=Oper.apart_spec hap;obtain⟨o,c,f,args,h1,h2,h3,h4,h5,h6⟩:=ps;rw[he] at h1;cases h1;refine⟨oe,c,f,args,he,by rwa [dF a1] at h2,h3,by rwa [cL h3 a1] at h4,h5,h6.mono ?_⟩;rintro o' g ⟨v,e1,h7⟩;refine⟨v,e1,fun T' hT=>h7 T' ⟨by rw[hT.1];cases oj.dst<;>simp[tput],fun s hs=>?_⟩⟩;rw[hT.2 s hs]
 have hne:oj.dst≠some s:=by
  exact y7o
 cases hd:oj.dst with
 |none=>rfl
 |some d=>
  exact y6o
theorem pan_front {e:Nat} {Kont:List AV->Heap->Prop} (J:∀T h,Kont T h->aT7 P ops Q D e T h):∀(π:List Nat)(hist:List Heap)(T:List AV)(h:Heap),
  (∀j∈π,∃oe oj,ops[e]?=some oe/\ops[j]?=some oj/\oj.apart ops oe=true/\isE oj.op=false)->DR P ops lo Kont π hist T h->aT7 P ops Q D e T h
 |[],_,T,h,_,d=>J T h d
 |j::π,hist,T,h,hl,d=>by
  obtain⟨oe,oj,he,hj,hap,hE⟩:=hl j aA;obtain⟨o,ho,hd⟩:=d;rw[hj] at ho;cases ho;simp only[hE,bMe,false_and,and_false,false_or,if_false] at hd;rcases hd with ⟨_,h2⟩|⟨_,_,x,_,_,h5⟩|⟨_,_,_,x,_,h5⟩
  ·exact panStep_back he hj hap (pan_front J π _ _ _ (fun k hk=>hl k (by simp[hk])) h2)
  ·exact panStep_back he hj hap (pan_front J π _ _ _ (fun k hk=>hl k (by simp[hk])) h5)
  ·exact panStep_back he hj hap (pan_front J π _ _ _ (fun k hk=>hl k (by simp[hk])) h5)
theorem wpAny_post {F:Fence} {n:Nat} {Q1 Q2:Exit->Act->World->Prop} (hq:∀e a w,Q1 e a w->Q2 e a w):∀(fuel:Nat)(listed:Array Bool)(a:Act)(w:World),wpAnyIn F n P .any ops Q1 fuel listed a w->wpAnyIn F n P .any ops Q2 fuel listed a w
 |0,listed,a,w,r=>⟨r.1,hq _ _ _ r.2⟩
 |fuel+1,listed,a,w,r=>by
  refine⟨fun h=>hq _ _ _ (r.1 h),fun i hi=>?_⟩;have:=r.2 i hi;unfold wpOpIn at this⊢;split
  ·rename_i hn;simp only[hn] at this;exact wpAny_post hq fuel _ _ _ this
  ·rename_i o ho;simp only[ho] at this;split
   ·rename_i hw;simp only[hw,if_true] at this;exact jP (wpAny_post hq fuel _) hq this
   ·rename_i hw;simp only[hw] at this;exact⟨this.1,wpAny_post hq fuel _ _ _ this.2⟩
theorem dr_sound {rd:Option Nat} {nb:Nat} {k:List It} {Kont:List AV->Heap->Prop} (J:fin=none->∀T h,Kont T h->Run P rd nb k T h D Q)(hP:∀e,fin=some e->∀T h,Kont T h->aT7 P ops Q D e T h):
  ∀(fuel:Nat) (π:List Nat) (listed:Array Bool) (hist:List Heap) (T:List AV) (h:Heap),Plan ops lo rk pr fin listed π hist.length->DR P ops lo Kont π hist T h->
   (fin=none->fuel=π.length)->(∀e,fin=some e->π.length<fuel)->∀E w a,St E w a T h D->wpAnyIn (fen rd) 0 P .any ops (K P rd (Post nb Q E h w) k) fuel listed a w:=by
 intro fuel
 induction fuel with
 |zero=>
  intro π listed hist T h p d hf0 hf1 E w a s
  cases hfin:fin with
  |some e=>exact absurd (hf1 e hfin) aB
  |none=>
   exact y3q
 |succ fuel ih=>
  intro π listed hist T h p d hf0 hf1 E w a s;refine⟨fun hnil=>?_,fun i hi=>?_⟩
  ·--the first of the order is ready
   exact y2m
  ·obtain⟨h0,o,ho,hall⟩:=mem_ready.1 hi;have hlt:=(bN9.1 ho).1
   have hin:i∈π\/fin=some i:=by
    exact y5e
   rcases hin with hin|hfin
   ·obtain⟨π1,π2,hπ⟩:=bNt hin
    have hloose:∀j∈π1,Loose ops lo rk j i:=by
     intro j hj;exact y4w
    have hrk:=p.rank;rw[hπ] at hrk d;have d':=dr_front π1 π2 hist T h hloose hrk d;simp only[DR] at d';refine drStep_wp d' s ?_;rintro hist' T' h' E' w' a' ⟨t,rfl,ht⟩ dn s' hfr
    have hr':Ranked ops rk (π1++π2) (hist++t).length:=by
     rw[bM5,ht]
     by_cases hE:((ops[i]?).map fun o=>isE o.op)=some true
     ·exact y46
     ·exact y4t
    exact y3o
   ·--the one that panics
    have hl:=(p.last i hfin).2
    have ps:=pan_front (hP i hfin) π hist T h (fun j hj=>by
     rcases hl j hj with hp|hp
     ·have:=p.below hi hp;rw[(p.mem j hj).2] at this;cases this
     ·exact hp) d
    obtain⟨o',c,f,args,e1,e2,e3,e4,e5,e6⟩:=ps;unfold wpOpIn;simp only[e1];rw[awanted_sound s e2];simp only[if_true];obtain⟨vs,hrun,hvs⟩:=acallee_sound (P:=P) s e4 e5 e3;refine⟨fun _ _=>trivial,?_⟩;rw[Oper.semAt_eq _ _ _ (fun c hc=>by rw[hc] at e3;cases e3),hrun];refine⟨fun hd=>(by cases hd),callsIn_fen.2 (Calls.mono (e6 E w vs s.rel s.fresh hvs) ?_)⟩;rintro e w' ⟨out,h'',E',⟨v,rfl,e7⟩,hrel,hf,hout,hfr⟩;simp only[RepO] at hout;obtain⟨u,rfl,hx⟩:=hout;show K P rd (Post nb Q E h w) k (.panic _) a w';rw[K_panic];exact⟨E',T,h'',D, .panic v,e7 T ⟨rfl,fun _ _=>rfl⟩,s.move hfr hrel hf,hfr.toN _,u,rfl,hx⟩
end
def prB (tbl:List Nat)(n j i:Nat):Bool:=decide (j<n)&& (tbl.getD i 0).testBit j
def looseB (ops:Array Oper)(lo rk:List Nat)(j i:Nat):Bool:=
 match ops[i]?,ops[j]? with
 |some oi,some oj=>oi.apart ops oj&& !isE oi.op&& (!isE oj.op||decide (lo.getD i 0<=rk.getD j 0))
 |_,_=>false
def pairB (ops:Array Oper)(lo rk:List Nat)(pr:Nat->Nat->Bool):List Nat->Bool
 |[]=>true
 |j::π=>(π.all fun i=>j !=i&& (pr j i||looseB ops lo rk j i))&& pairB ops lo rk pr π
def readyB (ops:Array Oper)(done:List Nat):List Nat->Bool
 |[]=>true
 |i::π=>(match ops[i]? with
  |some o=>o.after.all fun e=>!Region.binds .any e||done.contains e.on
  |none=>true)&& readyB ops (i::done) π
def rankB (ops:Array Oper)(rk:List Nat):List Nat->Nat->Bool
 |[],_=>true
 |i::π,n=>match ops[i]? with
  |some o=>if isE o.op then rk.getD i 0==n&& rankB ops rk π (n+1) else rankB ops rk π n
  |none=>rankB ops rk π n
def edgeB (ops:Array Oper)(pr:Nat->Nat->Bool)(i:Nat):Bool:=
 (List.range ops.size).all fun j=>!pr j i||match ops[i]? with
  |some o=>o.after.any fun e=>Region.binds .any e&& (e.on==j||pr j e.on)&& decide (e.on<ops.size)
  |none=>false
def lastB (ops:Array Oper)(pr:Nat->Nat->Bool)(π:List Nat):Option Nat->Bool
 |none=>true
 |some e=>decide (e<ops.size)&& !π.contains e&& π.all fun j=>pr j e||match ops[e]?,ops[j]? with
  |some oe,some oj=>oj.apart ops oe&& !isE oj.op
  |_,_=>false
def okDraw (ops:Array Oper)(lo rk tbl:List Nat)(fin:Option Nat)(π:List Nat):Bool:=
 (π.all fun i=>decide (i<ops.size))&&
 ((List.range ops.size).all fun i=>π.contains i||match fin with
  |some e=>i==e||prB tbl ops.size e i
  |none=>false)&&
 ((List.range ops.size).all fun i=>edgeB ops (prB tbl ops.size) i)&&
 pairB ops lo rk (prB tbl ops.size) π&& lastB ops (prB tbl ops.size) π fin&& readyB ops [] (π++fin.toList)&& rankB ops rk π 0
theorem looseB_sound {ops:Array Oper} {lo rk:List Nat} {j i:Nat} (h:looseB ops lo rk j i=true):Loose ops lo rk j i:=by
 exact y4b
theorem pairB_sound {ops:Array Oper} {lo rk:List Nat} {pr:Nat->Nat->Bool} :∀ {π:List Nat},pairB ops lo rk pr π=true->π.Nodup/\π.Pairwise fun j i=>pr j i=true\/Loose ops lo rk j i
 |[],_=>⟨List.nodup_nil,List.Pairwise.nil⟩
 |j::π,h=>by
  simp only[pairB,bM8,bMg,bne_iff_ne,ne_eq,bNe] at h;obtain⟨h1,h2⟩:=pairB_sound h.2;exact⟨bNd.2 ⟨fun hm=>(h.1 j hm).1 rfl,h1⟩,List.Pairwise.cons (fun i hi=>(h.1 i hi).2.imp id looseB_sound) h2⟩
theorem readyB_sound {ops:Array Oper} :∀ {σ done:List Nat},readyB ops done σ=true->∀π1 i π2,σ=π1++i::π2->∀o,ops[i]?=some o->∀e∈o.after,Region.binds .any e=true->e.on∈done\/e.on∈π1
 |[],_,_,π1,i,π2,hs,_,_,_,_,_=>by simp at hs
 |x::σ,done,h,π1,i,π2,hs,o,ho,e,he,hb=>by
  simp only[readyB,bM8] at h
  cases π1 with
  |nil=>
   simp only[bM4,bMz] at hs;obtain⟨rfl,rfl⟩:=hs;have h1:=h.1;simp only[ho] at h1;have:=bOe.1 h1 e he;simp[hb] at this;exact .inl this
  |cons y π1=>
   simp only[bLz,bMz] at hs;obtain⟨rfl,hs⟩:=hs;rcases readyB_sound h.2 π1 i π2 hs o ho e he hb with h'|h'
   ·rcases bMh.1 h' with h'|h'
    ·exact .inr (by simp[h'])
    ·exact .inl h'
   ·exact .inr (by simp[h'])
theorem rankB_sound {ops:Array Oper} {rk:List Nat} :∀ {π:List Nat} {n:Nat},rankB ops rk π n=true->Ranked ops rk π n
 |[],_,_=>trivial
 |i::π,n,h=>by
  simp only[rankB] at h;simp only[Ranked];split at h
  ·rename_i o ho;simp only[ho,bN2,bM0];split at h
   ·rename_i hE;simp only[bM8,beq_iff_eq] at h;simp only[hE,if_true];exact⟨h.1,rankB_sound h.2⟩
   ·rename_i hE;rw[if_neg hE];exact rankB_sound h
  ·rename_i ho;simp only[ho,Option.map_none];exact rankB_sound h
theorem okDraw_sound {ops:Array Oper} {lo rk tbl:List Nat} {fin:Option Nat} {π:List Nat} (h:okDraw ops lo rk tbl fin π=true):
  Plan ops lo rk (prB tbl ops.size) fin (Array.replicate ops.size false) π 0:=by
 exact y23
section
variable {P:Program} {rd:Option Nat} {nb:Nat} {ops:Array Oper} {D:List AD} {Q:AX->List AV->Heap->List AD->Prop} {k:List It} {T:List AV} {h:Heap}
theorem draw_len {ops:Array Oper} {lo rk tbl:List Nat} {π:List Nat} (p:Plan ops lo rk (prB tbl ops.size) none (Array.replicate ops.size false) π 0):ops.size=π.length:=by
 exact y39
theorem aJi {ops:Array Oper} {lo rk tbl:List Nat} {π:List Nat} {e:Nat} (p:Plan ops lo rk (prB tbl ops.size) (some e) (Array.replicate ops.size false) π 0):π.length<ops.size:=by
 have h2:(e::π).length<=(List.range ops.size).length:=by
  apply bOu (bNd.2 ⟨(p.last e rfl).1,p.nodup⟩);intro i hi;rcases bMh.1 hi with rfl|hi
  ·exact bN6.2 (p.finU _ rfl).1
  ·exact bN6.2 (p.mem i hi).1
 simp at h2;omega
theorem St.drew {E w a} (s:St E w a T h D):St E {w with drawn:=w.drawn+1} a T h D/\Fr E h.at w E h.at {w with drawn:=w.drawn+1} :=by
 exact y6k
theorem Run.draw {id:Nat} (lo rk tbl π:List Nat)(hm:P.follows .mixedOrders=true)(hok:okDraw ops lo rk tbl none π=true)(d:DR P ops lo (fun T h=>Run P rd nb k T h D Q) π [] T h):Run P rd nb (.code (.region id ops true)::k) T h D Q:=by
 intro E w a s;exact y3f
theorem aJh {lo:List Nat} {K1 K2:List AV->Heap->Prop} (J:∀T h,K1 T h->K2 T h):∀(π:List Nat)(hist:List Heap)(T:List AV)(h:Heap),DR P ops lo K1 π hist T h->DR P ops lo K2 π hist T h
 |[],_,T,h,d=>J T h d
 |_i::π,_hist,_T,_h,d=>drStep_mono (fun hist' T' h' _ d=>aJh J π hist' T' h' d) d
theorem Run.drawPanicG {id:Nat} (lo rk tbl π:List Nat)(e:Nat)(hm:P.follows .mixedOrders=true)(hok:okDraw ops lo rk tbl (some e) π=true)(d:DR P ops lo (aT7 P ops Q D e) π [] T h):Run P rd nb (.code (.region id ops true)::k) T h D Q:=by
 intro E w a s;refine wpIn_region_any hm ?_;obtain⟨s',hfr⟩:=s.drew;have p:=okDraw_sound hok;have:=dr_sound (P:=P) (rd:=rd) (nb:=nb) (k:=k) (Q:=Q) (D:=D) (fun he=>by cases he) (fun e' he T h r=>by cases he;exact r) ops.size π _ [] T h p d (fun he=>by cases he) (fun e' he=>by cases he;exact aJi p) E _ a s';exact wpAny_post (K_mono (P:=P) (rd:=rd) (Post.of_fr (Q:=Q) hfr) k) ops.size _ _ _ this
theorem Run.drawPanic {id:Nat} (lo rk tbl π:List Nat)(e:Nat)(hm:P.follows .mixedOrders=true)(hok:okDraw ops lo rk tbl (some e) π=true)(d:DR P ops lo (PanStep P ops Q D e) π [] T h):Run P rd nb (.code (.region id ops true)::k) T h D Q:=Run.drawPanicG lo rk tbl π e hm hok (aJh (fun _ _ p=>p.gen) π [] T h d)
def drOps (P:Program)(ops:Array Oper)(lo:List Nat)(K:List Nat->List Heap->List AV->Heap->Prop):List Nat->List Heap->List AV->Heap->Prop
 |[],hist,T,h=>K [] hist T h
 |i::π,hist,T,h=>
  match ops[i]? with
  |none=>False
  |some o=>match awanted ops T o with
   |some false=>drOps P ops lo K π (if isE o.op then hist++[h] else hist) (tput T o.dst (.tup [])) h
   |some true=>match aop P (aev T) h o.op with
    |some (x,h')=>if isE o.op then drOps P ops lo K π (hist++[h]) (tput T o.dst x) h' else stab P T x o.op (hist.drop (lo.getD i 0))/\drOps P ops lo K π hist (tput T o.dst x) h
    |none=>K (i::π) hist T h
   |none=>K (i::π) hist T h
theorem drOps_sound {lo:List Nat} {Kont:List AV->Heap->Prop} :∀(π:List Nat)(hist:List Heap)(T:List AV)(h:Heap),drOps P ops lo (DR P ops lo Kont) π hist T h->DR P ops lo Kont π hist T h
 |[],_,_,_,d=>d
 |i::π,hist,T,h,d=>by
  simp only[drOps] at d;split at d
  ·exact d.elim
  ·rename_i o ho;split at d
   ·rename_i hw;exact⟨o,ho, .inl ⟨hw,drOps_sound π _ _ _ d⟩⟩
   ·rename_i hw;split at d
    ·rename_i x h' hop;split at d
     ·rename_i hE;exact⟨o,ho, .inr (.inr (.inl ⟨hw,hE,x,h',hop,drOps_sound π _ _ _ d⟩))⟩
     ·rename_i hE;have hE':isE o.op=false:=by simpa using hE
      have:=gL hE' hop;subst this;exact⟨o,ho, .inr (.inl ⟨hw,hE',x,hop,d.1,drOps_sound π _ _ _ d.2⟩)⟩
    ·exact d
   ·exact d
theorem DR.go {lo:List Nat} {Kont:List AV->Heap->Prop} {π:List Nat} {hist:List Heap} (r:∀K:List Nat->List Heap->List AV->Heap->Prop,(∀π hist T h,DR P ops lo Kont π hist T h->K π hist T h)->drOps P ops lo K π hist T h):DR P ops lo Kont π hist T h:=
 drOps_sound π hist T h (r _ fun _ _ _ _ h=>h)
theorem DR.call {lo:List Nat} {Kont:List AV->Heap->Prop} {π:List Nat} {hist:List Heap} {i:Nat} {o:Oper} {c:Call} {f:FuncId} {args:List AV} {v:AV} {h':Heap} (hi:ops[i]?=some o)(ho:o.op= .call c)(hw:awanted ops T o=some true)
  (hc:acallee T c=some (f,args)) (he:aK P f=true) (hR:ACalls P f args h (fun o' g=>o'= .ret v/\g=h')) (d:DR P ops lo Kont π (hist++[h]) (tput T o.dst v) h'):DR P ops lo Kont (i::π) hist T h:=by
 refine⟨o,hi, .inr (.inr (.inr (.inl ⟨hw,?_,c,f,args,h',ho,hc,he,v,hR,d⟩)))⟩;rw[ho];obtain⟨callee,a,t⟩:=c
 cases callee with
 |value x=>rfl
 |invoke r m=>simp[acallee] at hc
 |builtin b=>simp[acallee] at hc
end
end Go.AI
