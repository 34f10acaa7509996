import Derived.Test.YtplomildbmcmfaaGreatZA0
import Derived.Calls
import Derived.Laws.World
import Derived.Tactics
import Derived.TacticsIn
import Derived.OrdersIn
import Derived.Laws.AppendOwn
import Derived.Laws.CopyRow
import Derived.MapKept
namespace Go.AI
open Go
inductive PV where
 |prim (v:Value)
 |sl (sz:Nat) (es:List (List PV))
 |ro (cs:List PV)
 |ifc (t:TypeId) (v:PV)
 deriving Inhabited
inductive AV where
 |p (x:PV)
 |agg (cs:List AV)
 |tup (vs:List AV)
 |ptr (id off:Nat)
 |sm (id off len cap sz:Nat)
 |own (tok sz:Nat) (es:List (List PV))
 |fn (f:Fn) (first captured:List AV)
 |ifc (t:TypeId) (v:AV)
 |mp (id:Nat)
 |vec (id n:Nat)
 |junk
 deriving Inhabited
inductive Aux where
 |loop (l:Nat) (st:LoopState) (pend:Option Code) (T:List AV) (ps:Array Tmp) (assign body:Code)
 |dblk
 |map (kvs:List (Value×Value))
inductive AO where
 |cells (cs:List AV)
 |tok (n sz:Nat)
 |aux (x:Aux)
 |vec (sz:Nat) (es:List (List PV))
 deriving Inhabited
def AO.named:AO->Bool
 | .tok _ _=>false
 | .vec _ _=>false
 |_=>true
def AO.tk:AO->Option (Nat×Nat×Nat×List AV)
 | .tok n sz=>some (n,sz,n,[])
 | .vec sz es=>some (es.length,sz,0,es.flatten.map .p)
 |_=>none
theorem AO.tk_named {o:AO} {x:Nat×Nat×Nat×List AV} (h:o.tk=some x):o.named=false:=by
 cases o<;>first|rfl|(simp[AO.tk] at h)
abbrev Heap:=List (Option AO)
def Heap.at (h:Heap)(id:Nat):Option AO:=(h[id]?).getD none
structure Loc where
 blk:Option Nat
 cap:Nat
 cur:Nat
structure Env where
 ro:Nat->Nat->Prop
 g:Nat->Option Nat
 t:Nat->Option Loc
def isPrim:Value->Bool
 | .bool _| .int _ _| .float _ _| .complex _ _ _| .string _| .pointer none| .slice none 0 0| .map none| .chan none| .nilFunc| .nilIface=>true
 | .func _ a b=>a.size==0&& b.size==0
 |_=>false
mutual
def RepP (E:Env)(w:World):PV->Value->Prop
 | .prim p,v=>v=p/\isPrim p=true
 | .sl sz es,v=>∃a cap,v= .slice a es.length cap/\es.length<=cap/\(es=[]\/∃b off,a=some ⟨b,off,none⟩/\RepEs E w b sz off es)
 | .ro cs,v=>∃b off,v= .pointer (some ⟨b,off,none⟩)/\RepAt E w b off cs
 | .ifc t x,v=>∃u,v= .iface t u/\RepP E w x u
def RepAt (E:Env)(w:World)(b:Nat):Nat->List PV->Prop
 |_,[]=>True
 |off,x::xs=>∃v,E.ro b off/\w.cell? ⟨b,off,none⟩=some v/\RepP E w x v/\RepAt E w b (off+1) xs
def RepEs (E:Env)(w:World)(b sz:Nat):Nat->List (List PV)->Prop
 |_,[]=>True
 |off,e::es=>e.length=sz/\RepAt E w b off e/\RepEs E w b sz (off+sz) es
end
mutual
def Rep (E:Env)(w:World):AV->Value->Prop
 | .p x,v=>RepP E w x v
 | .agg cs,v=>∃vs,v= .agg (List.toArray vs)/\RepL E w cs vs
 | .tup cs,v=>∃vs,v= .tuple (List.toArray vs)/\RepL E w cs vs
 | .ptr id off,v=>∃b,E.g id=some b/\v= .pointer (some ⟨b,off,none⟩)
 | .sm id off len cap _,v=>∃b,E.g id=some b/\v= .slice (some ⟨b,off,none⟩) len cap
 | .own tok sz es,v=>∃L,E.t tok=some L/\es.length<=L.cur/\∃blk cap,v= .slice (Option.map (fun b=>⟨b,0,none⟩) blk) es.length cap/\es.length<=cap/\
   (es=[]\/∃b,blk=some b/\RepEs E w b sz 0 es)/\(L.cur=es.length->L.blk=blk/\L.cap=cap)
 | .fn f xs ys,v=>∃vs us,v= .func f (List.toArray vs) (List.toArray us)/\RepL E w xs vs/\RepL E w ys us
 | .ifc t x,v=>∃u,v= .iface t u/\Rep E w x u
 | .mp id,v=>∃b,E.g id=some b/\v= .map (some b)
 | .vec id n,v=>∃L,E.t id=some L/\n<=L.cur/\∃a cap,v= .slice a n cap/\(L.cur=n->a=Option.map (fun b=>⟨b,0,none⟩) L.blk/\cap=L.cap)
 | .junk,_=>True
def RepL (E:Env)(w:World):List AV->List Value->Prop
 |[],vs=>vs=[]
 |x::xs,vs=>∃v us,vs=v::us/\Rep E w x v/\RepL E w xs us
end
structure Ext (E:Env) (w:World) (E':Env) (w':World):Prop where
 ro:∀b off,E.ro b off->E'.ro b off
 cells:∀b off,E.ro b off->w'.cell? ⟨b,off,none⟩=w.cell? ⟨b,off,none⟩
 g:∀id b,E.g id=some b->E'.g id=some b
 t:∀id L,E.t id=some L->∃L',E'.t id=some L'/\L.cur<=L'.cur/\(L'.cur=L.cur->L'=L)
theorem Ext.refl (E:Env)(w:World):Ext E w E w:=⟨fun _ _ h=>h,fun _ _ _=>rfl,fun _ _ h=>h,fun _ L h=>⟨L,h,bLx _,fun _=>rfl⟩⟩
theorem Ext.trans {E w E' w' E'' w''} (h:Ext E w E' w')(k:Ext E' w' E'' w''):Ext E w E'' w'' where
 ro:=fun b o e=>k.ro b o (h.ro b o e)
 cells:=fun b o e=>(k.cells b o (h.ro b o e)).trans (h.cells b o e)
 g:=fun id p e=>k.g id p (h.g id p e)
 t:=fun id L e=>by
  obtain⟨L',e',h1,h2⟩:=h.t id L e;obtain⟨L'',e'',k1,k2⟩:=k.t id L' e';refine⟨L'',e'',bNs h1 k1,fun hc=>?_⟩;have e1:L''.cur=L'.cur:=aB;have e2:L'.cur=L.cur:=aB;rw[k2 e1,h2 e2]
mutual
theorem RepP.ext {E w E' w'} (h:Ext E w E' w'):∀ {x:PV} {v:Value},RepP E w x v->RepP E' w' x v
 | .prim _,_,r=>by simpa only[RepP] using r
 | .sl sz es,v,r=>by
  simp only[RepP] at r⊢;obtain⟨a,cap,e,hc,r⟩:=r;refine⟨a,cap,e,hc,r.imp id ?_⟩;rintro⟨b,off,ea,r⟩;exact⟨b,off,ea,RepEs.ext h r⟩
 | .ro cs,v,r=>by
  simp only[RepP] at r⊢;obtain⟨b,off,e,r⟩:=r;exact⟨b,off,e,RepAt.ext h r⟩
 | .ifc t x,v,r=>by
  simp only[RepP] at r⊢;obtain⟨u,e,r⟩:=r;exact⟨u,e,RepP.ext h r⟩
theorem RepAt.ext {E w E' w'} (h:Ext E w E' w') {b:Nat} :∀ {xs:List PV} {off:Nat},RepAt E w b off xs->RepAt E' w' b off xs
 |[],_,_=>by simp only[RepAt]
 |x::xs,off,r=>by
  simp only[RepAt] at r⊢;obtain⟨v,ho,e,r1,r2⟩:=r;exact⟨v,h.ro _ _ ho,by rw[h.cells b off ho];exact e,RepP.ext h r1,RepAt.ext h r2⟩
theorem RepEs.ext {E w E' w'} (h:Ext E w E' w') {b sz:Nat} :∀ {es:List (List PV)} {off:Nat},RepEs E w b sz off es->RepEs E' w' b sz off es
 |[],_,_=>by simp only[RepEs]
 |e::es,off,r=>by
  simp only[RepEs] at r⊢;exact⟨r.1,RepAt.ext h r.2.1,RepEs.ext h r.2.2⟩
end
mutual
theorem Rep.ext {E w E' w'} (h:Ext E w E' w'):∀ {x:AV} {v:Value},Rep E w x v->Rep E' w' x v
 | .p x,_,r=>by simp only[Rep] at r⊢;exact r.ext h
 | .agg cs,v,r=>by
  simp only[Rep] at r⊢;obtain⟨vs,e,r⟩:=r;exact⟨vs,e,RepL.ext h r⟩
 | .tup cs,v,r=>by
  simp only[Rep] at r⊢;obtain⟨vs,e,r⟩:=r;exact⟨vs,e,RepL.ext h r⟩
 | .ptr id off,v,r=>by
  simp only[Rep] at r⊢;obtain⟨b,e,r⟩:=r;exact⟨b,h.g _ _ e,r⟩
 | .sm id off len cap _,v,r=>by
  simp only[Rep] at r⊢;obtain⟨b,e,r⟩:=r;exact⟨b,h.g _ _ e,r⟩
 | .own tok sz es,v,r=>by
  simp only[Rep] at r⊢;obtain⟨L,e,hn,blk,cap,ev,hcp,hc,hl⟩:=r;obtain⟨L',e',h1,h2⟩:=h.t _ _ e;refine⟨L',e',by omega,blk,cap,ev,hcp,hc.imp id ?_,fun hcur=>?_⟩
  ·rintro⟨b,eb,r⟩;exact⟨b,eb,r.ext h⟩
  ·have hle:L'.cur=L.cur:=aB;rw[h2 hle];exact hl aB
 | .fn f xs ys,v,r=>by
  simp only[Rep] at r⊢;obtain⟨vs,us,e,r1,r2⟩:=r;exact⟨vs,us,e,RepL.ext h r1,RepL.ext h r2⟩
 | .ifc t x,v,r=>by
  simp only[Rep] at r⊢;obtain⟨u,e,r⟩:=r;exact⟨u,e,Rep.ext h r⟩
 | .mp id,v,r=>by
  simp only[Rep] at r⊢;obtain⟨b,e,r⟩:=r;exact⟨b,h.g _ _ e,r⟩
 | .vec id n,v,r=>by
  simp only[Rep] at r⊢;obtain⟨L,e,hn,a,cap,ev,hl⟩:=r;obtain⟨L',e',h1,h2⟩:=h.t _ _ e;refine⟨L',e',by omega,a,cap,ev,fun hcur=>?_⟩;have hle:L'.cur=L.cur:=aB;rw[h2 hle];exact hl aB
 | .junk,v,r=>by simp only[Rep]
theorem RepL.ext {E w E' w'} (h:Ext E w E' w'):∀ {xs:List AV} {vs:List Value},RepL E w xs vs->RepL E' w' xs vs
 |[],_,r=>by simpa only[RepL] using r
 |x::xs,vs,r=>by
  simp only[RepL] at r⊢;obtain⟨v,us,e,r1,r2⟩:=r;exact⟨v,us,e,Rep.ext h r1,RepL.ext h r2⟩
end
def Row (w:World)(b:Nat)(vs:List Value):Prop:=∃T,w.heap[b]?=some (.cells (List.toArray vs) T (0,0))
def aTz (E:Env)(w:World)(b:Nat):Aux->Prop
 | .loop l st pend T ps as bd=>b=l/\∃r:Loop,w.heap[b]?=some (.loop r)/\r.state=st/\r.pending=pend/\r.params=ps/\r.assign=as/\r.body=bd/\RepL E w T r.tmps.toList
 | .dblk=>w.heap[b]?=some (.deferred (some []))
 | .map kvs=>∃es c,w.heap[b]?=some (.map es c)/\es.toList.map (fun e=>(e.key,e.val))=kvs/\MapKept.Stamped es c
def ObjAt (E:Env)(w:World)(b:Nat):AO->Prop
 | .cells cs=>∃vs,Row w b vs/\RepL E w cs vs
 | .aux x=>aTz E w b x
 | .tok _ _=>False
 | .vec _ _=>False
theorem fI {w:World} {b:Nat} {o:Obj} (h:w.heap[b]?=some o):b<w.heap.size:=(bN9.1 h).1
theorem ObjAt.lt {E w b o} (h:ObjAt E w b o):b<w.heap.size:=by
 cases o with
 |cells cs=>obtain⟨vs,⟨T,h⟩,_⟩:=h;exact fI h
 |tok _ _=>exact h.elim
 |vec _ _=>exact h.elim
 |aux x=>cases x with
  |loop=>obtain⟨_,r,h,_⟩:=h;exact fI h
  |dblk=>exact fI h
  |map=>obtain⟨_,_,h,_⟩:=h;exact fI h
theorem ObjAt.move {E w E' w' b o} (h:ObjAt E w b o)(hx:Ext E w E' w')(he:w'.heap[b]?=w.heap[b]?):ObjAt E' w' b o:=by
 cases o with
 |cells cs=>obtain⟨vs,⟨T,h⟩,hr⟩:=h;exact⟨vs,⟨T,he.trans h⟩,hr.ext hx⟩
 |tok _ _=>exact h.elim
 |vec _ _=>exact h.elim
 |aux x=>cases x with
  |loop=>obtain⟨e,r,h,h1,h2,h3,h4,h5,h6⟩:=h;exact⟨e,r,he.trans h,h1,h2,h3,h4,h5,h6.ext hx⟩
  |dblk=>exact he.trans h
  |map=>obtain⟨es,c,h,h2⟩:=h;exact⟨es,c,he.trans h,h2⟩
def fG (E:Env)(h:Nat->Option AO)(id b:Nat):Prop:=
 (∃o,h id=some o/\o.named=true/\E.g id=some b)\/(∃o x c m,h id=some o/\o.tk=some x/\E.t id=some ⟨some b,c,m⟩)
def InG (E:Env)(h:Nat->Option AO)(b:Nat):Prop:=∃id,fG E h id b
structure Rel (E:Env) (h:Nat->Option AO) (w:World):Prop where
 objsO:∀id o,h id=some o->o.named=true->∃b,E.g id=some b/\ObjAt E w b o
 toks:∀id o n sz m cs,h id=some o->o.tk=some (n,sz,m,cs)->∃blk cap,E.t id=some ⟨blk,cap,n⟩/\n<=cap/\(blk=none->cap=0)/\
  ∀b,blk=some b->∃vs,Row w b vs/\vs.length=cap*sz/\RepL E w cs (vs.take cs.length)
 inj:∀id id' b,fG E h id b->fG E h id' b->id=id'
 sepO:∀id o b off,h id=some o->o.named=true->E.g id=some b->¬E.ro b off
 sepT:∀id o n sz m cs b c k off,h id=some o->o.tk=some (n,sz,m,cs)->E.t id=some ⟨some b,c,k⟩->m*sz<=off->¬E.ro b off
 lt:∀b off,E.ro b off->b<w.heap.size
theorem Rel.objs {E h w} (r:Rel E h w)(id:Nat)(cs:List AV)(hc:h id=some (.cells cs)):∃b vs,E.g id=some b/\Row w b vs/\RepL E w cs vs:=by
 obtain⟨b,hg,vs,h1,h2⟩:=r.objsO id _ hc rfl;exact⟨b,vs,hg,h1,h2⟩
theorem Rel.sep {E h w} (r:Rel E h w)(id:Nat)(cs:List AV)(b off:Nat)(hc:h id=some (.cells cs))(hg:E.g id=some b):¬E.ro b off:=r.sepO id _ b off hc rfl hg
def Kp (w w':World):Prop:=w'.os=w.os/\w'.output=w.output
theorem Kp.refl (w:World):Kp w w:=⟨rfl,rfl⟩
theorem Kp.trans {a b c:World} (h:Kp a b)(k:Kp b c):Kp a c:=⟨k.1.trans h.1,k.2.trans h.2⟩
structure Fr (E:Env) (h:Nat->Option AO) (w:World) (E':Env) (h':Nat->Option AO) (w':World):Prop where
 same:∀b,b<w.heap.size->¬InG E h b->w'.heap[b]?=w.heap[b]?
 ext:Ext E w E' w'
 roNew:∀b off,E'.ro b off->E.ro b off\/InG E h b\/w.heap.size<=b
 size:w.heap.size<=w'.heap.size
 inG:∀b,InG E' h' b->InG E h b\/w.heap.size<=b
 kp:Kp w w'
theorem Fr.refl (E:Env)(h:Nat->Option AO)(w:World):Fr E h w E h w:=
 ⟨fun _ _ _=>rfl,Ext.refl _ _,fun _ _ h=> .inl h,bLx _,fun _ h=> .inl h,Kp.refl w⟩
theorem Fr.trans {E h w E' h' w' E'' h'' w''} (a:Fr E h w E' h' w')(b:Fr E' h' w' E'' h'' w''):Fr E h w E'' h'' w'' where
 same:=fun x hx hn=>by
  rw[b.same x (Nat.lt_of_lt_of_le hx a.size) (fun hg=>(a.inG x hg).elim hn (fun h=>by omega)),a.same x hx hn]
 ext:=a.ext.trans b.ext
 roNew:=fun x off hx=>by
  rcases b.roNew x off hx with h|h|h
  ·exact a.roNew x off h
  ·rcases a.inG x h with h|h
   ·exact .inr (.inl h)
   ·exact .inr (.inr h)
  ·exact .inr (.inr (bNs a.size h))
 size:=bNs a.size b.size
 inG:=fun x hx=>by
  rcases b.inG x hx with h|h
  ·exact a.inG x h
  ·exact .inr (bNs a.size h)
 kp:=a.kp.trans b.kp
structure FrN (n:Nat) (E:Env) (h:Nat->Option AO) (w:World) (E':Env) (h':Nat->Option AO) (w':World):Prop where
 same:∀b,b<w.heap.size->¬InG E h b->w'.heap[b]?=w.heap[b]?
 ro:∀b off,E.ro b off->E'.ro b off
 cells:∀b off,E.ro b off->w'.cell? ⟨b,off,none⟩=w.cell? ⟨b,off,none⟩
 g:∀id b,id<n->E.g id=some b->E'.g id=some b
 t:∀id L,id<n->E.t id=some L->∃L',E'.t id=some L'/\L.cur<=L'.cur/\(L'.cur=L.cur->L'=L)
 roNew:∀b off,E'.ro b off->E.ro b off\/InG E h b\/w.heap.size<=b
 size:w.heap.size<=w'.heap.size
 inG:∀b,InG E' h' b->InG E h b\/w.heap.size<=b
 kp:Kp w w'
theorem Fr.toN {E h w E' h' w'} (f:Fr E h w E' h' w')(n:Nat):FrN n E h w E' h' w':=
 ⟨f.same,f.ext.ro,f.ext.cells,fun id b _=>f.ext.g id b,fun id L _=>f.ext.t id L,f.roNew,f.size,f.inG,f.kp⟩
theorem FrN.trans {n:Nat} {E h w E' h' w' E'' h'' w''} (a:FrN n E h w E' h' w')(b:FrN n E' h' w' E'' h'' w''):FrN n E h w E'' h'' w'' where
 same:=fun x hx hn=>by
  rw[b.same x (Nat.lt_of_lt_of_le hx a.size) (fun hg=>(a.inG x hg).elim hn (fun h=>by omega)),a.same x hx hn]
 ro:=fun x o e=>b.ro x o (a.ro x o e)
 cells:=fun x o e=>(b.cells x o (a.ro x o e)).trans (a.cells x o e)
 g:=fun id x l e=>b.g id x l (a.g id x l e)
 t:=fun id L l e=>by
  obtain⟨L',e',h1,h2⟩:=a.t id L l e;obtain⟨L'',e'',k1,k2⟩:=b.t id L' l e';refine⟨L'',e'',bNs h1 k1,fun hc=>?_⟩;have e1:L''.cur=L'.cur:=aB;have e2:L'.cur=L.cur:=aB;rw[k2 e1,h2 e2]
 roNew:=fun x off hx=>by
  rcases b.roNew x off hx with h|h|h
  ·exact a.roNew x off h
  ·rcases a.inG x h with h|h
   ·exact .inr (.inl h)
   ·exact .inr (.inr h)
  ·exact .inr (.inr (bNs a.size h))
 size:=bNs a.size b.size
 inG:=fun x hx=>by
  rcases b.inG x hx with h|h
  ·exact a.inG x h
  ·exact .inr (bNs a.size h)
 kp:=a.kp.trans b.kp
theorem Row.lt {w b vs} (r:Row w b vs):b<w.heap.size:=by
 obtain⟨T,h⟩:=r;rcases bNi b w.heap.size with h'|h'
 ·exact h'
 ·rw[Array.getElem?_eq_none h'] at h;cases h
theorem Row.cell {w b vs} (r:Row w b vs)(off:Nat):w.cell? ⟨b,off,none⟩=vs[off]?:=by
 obtain⟨T,h⟩:=r;simp[World.cell?,h]
theorem Row.frozen {w b vs} (r:Row w b vs)(off:Nat):w.frozen? ⟨b,off,none⟩=false:=by
 obtain⟨T,h⟩:=r;simp[World.frozen?,h]
theorem Row.same {w w' b vs} (r:Row w b vs)(h:w'.heap[b]?=w.heap[b]?):Row w' b vs:=by
 obtain⟨T,e⟩:=r;exact⟨T,h.trans e⟩
theorem bS {w w':World} {b:Nat} (h:w'.heap[b]?=w.heap[b]?)(off:Nat):w'.cell? ⟨b,off,none⟩=w.cell? ⟨b,off,none⟩:=by
 simp only[World.cell?,h]
open Go
theorem lU {id:Nat} :∀ {k k':List Item},exitTo id k=some k'->k'.length<k.length
 |[],_,h=>by simp[exitTo] at h
 |x::k,k',h=>by
  have ih:=@lU id k k'
  cases x<;>simp only[exitTo] at h<;>first
   |(have:=ih h;simp only[bM2];omega)
   |skip
  split at h
  ·simp only[bM0] at h;subst h;simp
  ·have:=ih h;simp only[bM2];omega
theorem kO {c:Code} :∀ {b:Code} {l:Nat},findLabel b l≠some (.loop c):=by
 intro b l h
 cases b<;>simp only[findLabel] at h<;>first|(cases h;done)|skip
 ·split at h
  ·cases h
  ·exact(kO h)
 ·split at h<;>cases h
theorem yJ {l:Nat} {c:Code} :∀ {k k':List Item} (pre:List Item),gotoIn l k=some k'->Item.code (.loop c)::(pre++k)≠k'
 |[],_,_,h=>by simp[gotoIn] at h
 |x::k,k',pre,h=>by
  have ih:=@yJ l c k k' (pre++[x])
  cases x<;>simp only[gotoIn] at h<;>first
   |(have:=ih h;simpa using this)
   |skip
  split at h
  ·rename_i rest hr;simp only[bM0] at h;subst h;intro e;simp only[bMz,Item.code.injEq] at e;exact kO (e.1▸hr)
  ·have:=ih h;simpa using this
abbrev fen (rd:Option Nat):Fence:= {fn:=fun _=>True,depth:=none,alive:=false,round:=rd}
theorem tI (P:Program)(rd:Option Nat)(m:Machine):m.fenced P (fen rd):=by
 intro g _;refine⟨fun h=>?_,Or.inl trivial,fun _ _=>trivial,fun _ h=>?_⟩
 ·simp at h
 ·simp at h
theorem rL {P:Program} {rd:Option Nat} {m m':Machine} :StepsIn (Machine.fenced P (fen rd)) P m m'↔Steps P m m':=
 ⟨StepsIn.steps,fun h=>(StepsIn.of_steps h).mono fun m _=>tI P rd m⟩
theorem aS8 (rd:Option Nat)(n:Nat):(fen rd).room n:=fun _ h=>by simp at h
theorem pS {P:Program} {rd:Option Nat} {m m':Machine} {e:Ending} :ComesIn (Machine.fenced P (fen rd)) P m m' e↔Comes P m m' e:=by
 cases e with
 |returned v=>exact rL
 |panicked chain=>exact rL
 |outgrown=>exact Iff.rfl
theorem callsIn_fen {rd:Option Nat} {n:Nat} {P:Program} {f:FuncId} {args:Array Value} {w:World} {R:Ending->World->Prop} :CallsIn (fen rd) n P f args w R↔Calls P f args w R:=
 ⟨fun h cs=>let ⟨e,w',fr,r,s,x⟩:=h.2 cs (aS8 _ _);⟨e,w',fr,r,pS.1 s,x⟩,
  fun h=>⟨trivial,fun cs _=>let ⟨e,w',fr,r,s,x⟩:=h cs;⟨e,w',fr,r,pS.2 s,x⟩⟩⟩
theorem wN {n:Nat} {P:Program} {c:Code} {Q:Exit->Act->World->Prop} {a:Act} {w:World} :c.wpIn (fen none) n P Q a w↔c.wp P Q a w:=wpIn_wide
theorem cC {I:Machine->Prop} {P:Program} {m m₁ m₂:Machine} (h:step P m= .next m₁)(hne:m≠m₂)(hs:StepsIn I P m m₂):StepsIn I P m₁ m₂:=by
 cases hs with
 |refl=>exact absurd rfl hne
 |head hI h1 h2=>rw[h] at h1;cases h1;exact h2
theorem fH {b b':Frame} {a a':Act} {k k':List Item} {cs cs':List Frame} {w w':World} (h:lone (b.atR a k) cs w=lone (b'.atR a' k') cs' w'):k=k':=by
 simp only[lone,Machine.mk.injEq,Frame.atR] at h;have:=h.2.1;simp at this;exact this.1.2.2.1
theorem tW {b b':Frame} {a a':Act} {k k':List Item} {cs cs':List Frame} {w w':World} {m:FrameMode} (h:lone (b.atR a k) cs w=lone {b'.atR a' k' with mode:=m} cs' w'):m= .run:=by
 simp only[lone,Machine.mk.injEq,Frame.atR] at h;have:=h.2.1;simp at this;exact(by simp_all)
theorem oW {rd:Option Nat} {n:Nat} {P:Program} {Q:Exit->Act->World->Prop} {a:Act} {w:World} {c:Code} (hQ:∀a w,¬Q .outgrown a w)
  (h:c.wpIn (fen rd) n P (Exit.then ((Code.loop c).wpIn (fen rd) n P Q) Q) a w):(Code.loop c).wpIn (fen rd) n P Q a w:=by
 intro b k cs hro hb hr;obtain⟨e,a₁,w₁,hq,harr⟩:=h b (.inLoop c::k) cs hro hb hr;have one:∀ {m m':Machine},step P m= .next m'->StepsIn (Machine.fenced P (fen rd)) P m m':=fun h=> .one (tI P rd _) h
 cases e with
 |normal=>
  obtain⟨e₂,a₂,w₂,hq₂,harr₂⟩:=hq b k cs hro hb hr;refine⟨e₂,a₂,w₂,hq₂, .of_steps (StepsIn.trans (one stepR_loop) (StepsIn.trans harr (one stepR_inLoop))) ?_⟩;have hs:=stepR_loop (P:=P) (b:=b) (a:=a₁) (k:=k) (cs:=cs) (w:=w₁) (c:=c)
  cases e₂ with
  |normal=>exact cC hs (fun e=>by have:=congrArg List.length (fH e);simp at this) harr₂
  | exit id=>exact⟨fun k' hk=>cC hs (fun e=>by have:=congrArg List.length (fH e);have:=lU hk;simp at*;omega) (harr₂.1 k' hk),
    fun hi hk=>let ⟨k₁,h1,h2⟩:=harr₂.2 hi hk;⟨k₁,h1,cC hs (fun e=>by have:=fH e;simp at this) h2⟩⟩
  | goto l=>exact⟨fun k' hk=>cC hs (fun e=>yJ [] hk (fH e)) (harr₂.1 k' hk),
    fun hi hk=>let ⟨k₁,h1,h2⟩:=harr₂.2 hi hk;⟨k₁,h1,cC hs (fun e=>by have:=fH e;simp at this) h2⟩⟩
  | ret=>exact⟨fun hi=>let ⟨todo,hst⟩:=harr₂.1 hi;⟨todo,cC hs (fun e=>by have:=tW e;cases this) hst⟩,
    fun hi=>let ⟨k₁,h2⟩:=harr₂.2 hi;⟨k₁,cC hs (fun e=>by have:=fH e;simp at this) h2⟩⟩
  |panic ch=>obtain⟨todo,hst⟩:=harr₂;exact⟨todo,cC hs (fun e=>by have:=tW e;cases this) hst⟩
  |outgrown=>exact absurd hq₂ (hQ _ _)
 |exit id=>exact⟨_,a₁,w₁,hq, .of_steps (one stepR_loop) (.pass (x:= .inLoop c) rfl (fun _ _=> .inl aA) harr)⟩
 |goto l=>exact⟨_,a₁,w₁,hq, .of_steps (one stepR_loop) (.pass (x:= .inLoop c) rfl (fun _ _=> .inl aA) harr)⟩
 |ret=>exact⟨_,a₁,w₁,hq, .of_steps (one stepR_loop) (.pass (x:= .inLoop c) rfl (fun _ _=> .inl aA) harr)⟩
 |panic ch=>exact⟨_,a₁,w₁,hq, .of_steps (one stepR_loop) (.pass (x:= .inLoop c) rfl (fun _ _=> .inl aA) harr)⟩
 |outgrown=>exact absurd hq (hQ _ _)
inductive It where
 |code (c:Code)
 |ops (all:Array Oper) (l:List Oper)
 |inBlock (id:Nat)
def K (P:Program)(rd:Option Nat)(Q:Exit->Act->World->Prop):List It->Exit->Act->World->Prop
 |[]=>Q
 | .code c::k=>Exit.then (c.wpIn (fen rd) 0 P (K P rd Q k)) (K P rd Q k)
 | .ops all l::k=>Exit.then (wpListIn (fen rd) 0 P all (K P rd Q k) l) (K P rd Q k)
 | .inBlock id::k=>Exit.inBlock id (K P rd Q k)
theorem jY {P:Program} {rd:Option Nat} {Q:Exit->Act->World->Prop} (hQ:∀a w,¬Q .outgrown a w):∀(k:List It) a w,¬K P rd Q k .outgrown a w
 |[],a,w=>hQ a w
 | .code _::k,a,w=>jY hQ k a w
 | .ops _ _::k,a,w=>jY hQ k a w
 | .inBlock _::k,a,w=>jY hQ k a w
theorem jP {F:Fence} {n:Nat} {P:Program} {o:Oper} {a:Act} {w:World} {K K':Act->World->Prop} {Q Q':Exit->Act->World->Prop} (h:∀a w,K a w->K' a w)(hq:∀e a w,Q e a w->Q' e a w)
  (hh:o.wpIn F n P a w K Q):o.wpIn F n P a w K' Q':=by
 unfold Oper.wpIn at*;refine⟨hh.1,?_⟩;have hh:=hh.2;have lo:LetsOut Q->LetsOut Q':=fun⟨x,y,z⟩=>⟨x,y,hq _ _ _ z⟩
 generalize (o.semAt F.round a.eval).run P w=r at*
 cases r with
 |ok x w'=>
  cases x<;>simp only[Oper.uponIn] at hh⊢<;>
   first
    |exact h _ _ hh
    |exact⟨hh.1,CallsIn.mono hh.2 (fun e w'' he=>by cases e<;>first|exact h _ _ he|exact hq _ _ _ he|exact lo he)⟩
    |exact⟨hh.1,RowsIn.mono hh.2 (fun _ _ he=>h _ _ he)⟩
    |exact⟨hh.1,RoundIn.mono hh.2 (fun e w'' he=>by cases e<;>first|exact h _ _ he|exact hq _ _ _ he|exact lo he)⟩
 |halt x w'=>cases x<;>simp only[Oper.uponIn] at hh⊢<;>exact hq _ _ _ hh
theorem iT {F:Fence} {n:Nat} {P:Program} {all:Array Oper} {Q Q':Exit->Act->World->Prop} (h:∀e a w,Q e a w->Q' e a w):
  ∀(l:List Oper) a w,wpListIn F n P all Q l a w->wpListIn F n P all Q' l a w
 |[],a,w,hh=>h _ _ _ hh
 |o::l,a,w,hh=>by
  simp only[wpListIn] at hh⊢;split
  ·rename_i hw;simp only[hw,if_true] at hh;exact jP (iT h l) h hh
  ·rename_i hw;simp only[hw] at hh;exact⟨hh.1,iT h l _ _ hh.2⟩
theorem aA3 {n n':Act->World->Prop} {Q Q':Exit->Act->World->Prop} (h:∀a w,n a w->n' a w)(hq:∀e a w,Q e a w->Q' e a w):
  ∀e a w,Exit.then n Q e a w->Exit.then n' Q' e a w:=by
 intro e a w hh
 cases e<;>first|exact h _ _ hh|exact hq _ _ _ hh
theorem K_mono {P:Program} {rd:Option Nat} {Q Q':Exit->Act->World->Prop} (h:∀e a w,Q e a w->Q' e a w):∀(k:List It) e a w,K P rd Q k e a w->K P rd Q' k e a w
 |[],e,a,w,hh=>h _ _ _ hh
 | .code c::k,e,a,w,hh=>aA3 (fun _ _ hh=>wpIn_mono hh (K_mono h k)) (K_mono h k) _ _ _ hh
 | .ops all l::k,e,a,w,hh=>aA3 (fun _ _ hh=>iT (K_mono h k) l _ _ hh) (K_mono h k) _ _ _ hh
 | .inBlock id::k,e,a,w,hh=>by
  have ih:=K_mono (P:=P) (rd:=rd) h k;simp only[K] at hh⊢
  cases e with
  |exit id'=>
   simp only[Exit.inBlock] at hh⊢;split at hh<;>simp_all
  |_=>exact ih _ _ _ hh
abbrev AD:=Fn×List AV×List AV
def RepD (E:Env)(w:World):List AD->List Deferred->Prop
 |[],ds=>ds=[]
 |(.yield id,_,_)::xs,ds=>∃b rest,E.g id=some b/\ds= {target:= .collected b,args:=#[]} ::rest/\RepD E w xs rest
 |(f,cap,args)::xs,ds=>∃vc va rest,ds= {target:= .fn f (List.toArray vc),args:=List.toArray va} ::rest/\RepL E w cap vc/\RepL E w args va/\RepD E w xs rest
theorem RepD.ext {E w E' w'} (h:Ext E w E' w'):∀ {xs:List AD} {ds:List Deferred},RepD E w xs ds->RepD E' w' xs ds
 |[],_,r=>r
 |(f,_,_)::_,_,r=>by
  cases f with
  |yield id=>
   obtain⟨b,rest,hg,e,r3⟩:=r;exact⟨b,rest,h.g _ _ hg,e,RepD.ext h r3⟩
  |_=>
   obtain⟨vc,va,rest,e,r1,r2,r3⟩:=r;exact⟨vc,va,rest,e,r1.ext h,r2.ext h,RepD.ext h r3⟩
def Fresh (E:Env)(n:Nat):Prop:=∀id,n<=id->E.g id=none/\E.t id=none
structure St (E:Env) (w:World) (a:Act) (T:List AV) (h:Heap) (D:List AD):Prop where
 rel:Rel E h.at w
 fresh:Fresh E h.length
 tmps:RepL E w T a.tmps.toList
 defers:RepD E w D a.defers
inductive AX where
 |normal
 |ret
 |panic (v:AV)
 |exit (id:Nat)
def RepX (E:Env)(w:World):AX->Exit->Prop
 | .normal,e=>e= .normal
 | .ret,e=>e= .ret
 | .panic x,e=>∃v,e= .panic [{v,recovered:=false}]/\Rep E w x v
 | .exit id,e=>e= .exit id
theorem RepX.not_outgrown {E w x} :¬RepX E w x .outgrown:=by
 cases x<;>simp[RepX]
def Post (nb:Nat)(Q:AX->List AV->Heap->List AD->Prop)(E:Env)(h:Heap)(w:World):Exit->Act->World->Prop:=
 fun e a' w'=>∃E' T' h' D' x,Q x T' h' D'/\St E' w' a' T' h' D'/\FrN nb E h.at w E' h'.at w'/\RepX E' w' x e
theorem Post.not_outgrown {nb Q E h w a w'} :¬Post nb Q E h w .outgrown a w':=by
 rintro⟨_,_,_,_,_,_,_,_,h⟩;exact h.not_outgrown
def Run (P:Program)(rd:Option Nat)(nb:Nat)(k:List It)(T:List AV)(h:Heap)(D:List AD)(Q:AX->List AV->Heap->List AD->Prop):Prop:=
 ∀E w a,St E w a T h D->K P rd (Post nb Q E h w) k .normal a w
theorem Post.of_frN {nb Q E h w E' h' w'} (hf:FrN nb E h.at w E' (Heap.at h') w'):∀e a x,Post nb Q E' h' w' e a x->Post nb Q E h w e a x:=by
 rintro e a x ⟨E2,T2,h2,D2,x2,hq,hs,hfr,hx⟩;exact⟨E2,T2,h2,D2,x2,hq,hs,hf.trans hfr,hx⟩
theorem Post.of_fr {nb Q E h w E' h' w'} (hf:Fr E h.at w E' (Heap.at h') w'):∀e a x,Post nb Q E' h' w' e a x->Post nb Q E h w e a x:=Post.of_frN (hf.toN nb)
section
variable {P:Program} {rd:Option Nat} {nb:Nat} {k:List It} {T:List AV} {h:Heap} {D:List AD} {Q:AX->List AV->Heap->List AD->Prop}
theorem Run.mono {Q'} (r:Run P rd nb k T h D Q)(hq:∀x T h D,Q x T h D->Q' x T h D):Run P rd nb k T h D Q':=
 fun E w a hs=>K_mono (by rintro e a x ⟨E2,T2,h2,D2,x2,hq2,hr⟩;exact⟨E2,T2,h2,D2,x2,hq _ _ _ _ hq2,hr⟩) k _ _ _ (r E w a hs)
theorem Run.nil (hq:Q .normal T h D):Run P rd nb [] T h D Q:=
 fun E _ _ hs=>⟨E,T,h,D, .normal,hq,hs,(Fr.refl _ _ _).toN _,rfl⟩
theorem Run.seq {x y:Code} (r:Run P rd nb (.code x:: .code y::k) T h D Q):Run P rd nb (.code (.seq x y)::k) T h D Q:=
 fun E w a hs=>wpIn_seq (r E w a hs)
theorem Run.skip (r:Run P rd nb k T h D Q):Run P rd nb (.code .skip::k) T h D Q:=fun E w a hs=>wpIn_skip (r E w a hs)
theorem Run.label {l:Nat} (r:Run P rd nb k T h D Q):Run P rd nb (.code (.label l)::k) T h D Q:=fun E w a hs=>wpIn_label (r E w a hs)
theorem Run.block {id:Nat} {c:Code} (r:Run P rd nb (.code c:: .inBlock id::k) T h D Q):Run P rd nb (.code (.block id c)::k) T h D Q:=
 fun E w a hs=>wpIn_block (r E w a hs)
theorem Run.inBlock {id:Nat} (r:Run P rd nb k T h D Q):Run P rd nb (.inBlock id::k) T h D Q:=r
theorem Run.loop {c:Code} (r:Run P rd nb (.code c:: .code (.loop c)::k) T h D Q):Run P rd nb (.code (.loop c)::k) T h D Q:=
 fun E w a hs=>oW (jY (fun _ _=>Post.not_outgrown) k) (r E w a hs)
theorem Run.region {id:Nat} {ops:Array Oper} (r:Run P rd nb (.ops ops ops.toList::k) T h D Q):Run P rd nb (.code (.region id ops false)::k) T h D Q:=
 fun E w a hs=>wpIn_region_list (r E w a hs)
theorem Run.opsNil {all:Array Oper} (r:Run P rd nb k T h D Q):Run P rd nb (.ops all []::k) T h D Q:=fun E w a hs=>wpListIn_nil (F:=fen rd) (n:=0) (P:=P) (ops:=all) (Q:=K P rd (Post nb Q E h w) k) (r E w a hs)
def unw (id:Nat):List It->Option (List It)
 |[]=>none
 | .inBlock i::k=>if id=i then some k else unw id k
 |_::k=>unw id k
theorem aP4 {Q:Exit->Act->World->Prop} {id:Nat} :∀ {k k':List It},unw id k=some k'->K P rd Q k (.exit id)=K P rd Q k' .normal
 |[],_,h=>by simp[unw] at h
 | .code c::k,k',h=>aP4 (k:=k) h
 | .ops _ _::k,k',h=>aP4 (k:=k) h
 | .inBlock i::k,k',h=>by
  simp only[unw] at h
  funext a w
  simp only[K,Exit.inBlock];split at h
  ·simp only[bM0] at h;subst h;rename_i e;simp[e]
  ·rename_i e;simp only[e,if_false];rw[aP4 h]
theorem Run.exit {id:Nat} {k':List It} (hu:unw id k=some k')(r:Run P rd nb k' T h D Q):Run P rd nb (.code (.exit id)::k) T h D Q:=
 fun E w a hs=>wpIn_exit (by rw[aP4 hu];exact r E w a hs)
theorem aP3 {Q:Exit->Act->World->Prop} :∀(k:List It),K P rd Q k .ret=Q .ret
 |[]=>rfl
 | .code _::k=>aP3 k
 | .ops _ _::k=>aP3 k
 | .inBlock _::k=>aP3 k
theorem K_panic {Q:Exit->Act->World->Prop} {ch:List PanicEntry} :∀(k:List It),K P rd Q k (.panic ch)=Q (.panic ch)
 |[]=>rfl
 | .code _::k=>K_panic k
 | .ops _ _::k=>K_panic k
 | .inBlock _::k=>K_panic k
theorem aDm {Q:Exit->Act->World->Prop} {id:Nat} :∀ {k:List It},unw id k=none->K P rd Q k (.exit id)=Q (.exit id)
 |[],_=>rfl
 | .code c::k,h=>aDm (k:=k) h
 | .ops _ _::k,h=>aDm (k:=k) h
 | .inBlock i::k,h=>by
  simp only[unw] at h;split at h
  ·cases h
  ·rename_i e
   funext a w
   simp only[K,Exit.inBlock,e,if_false];rw[aDm h]
theorem Run.exitN {id:Nat} (hu:unw id k=none)(hq:Q (.exit id) T h D):Run P rd nb (.code (.exit id)::k) T h D Q:=
 fun E _ _ hs=>wpIn_exit (by rw[aDm hu];exact⟨E,T,h,D, .exit id,hq,hs,(Fr.refl _ _ _).toN _,rfl⟩)
theorem Run.ret (hq:Q .ret T h D):Run P rd nb (.code .ret::k) T h D Q:=
 fun E _ _ hs=>wpIn_ret (by rw[aP3];exact⟨E,T,h,D, .ret,hq,hs,(Fr.refl _ _ _).toN _,rfl⟩)
end
def sS:Value->AV
 | .agg cs=>if cs.all isPrim then .agg (cs.toList.map fun v=> .p (.prim v)) else .junk
 | .tuple cs=>if cs.isEmpty then .tup [] else .junk
 |v=>if isPrim v then .p (.prim v) else .junk
def tget:List AV->Nat->AV
 |[],_=> .junk
 |x::_,0=>x
 |_::l,n+1=>tget l n
theorem tget_eq:∀(T:List AV)(t:Nat),tget T t=T.getD t .junk
 |[],t=>by simp[tget]
 |x::l,0=>by simp[tget]
 |x::l,t+1=>by simp only[tget,tget_eq l t];simp
def aev (T:List AV):Operand->AV
 | .tmp t=>tget T t
 | .const v=>sS v
 | .global _=> .junk
 | .func f=> .p (.prim (.func (.func f) #[] #[]))
theorem RepL.prims {E w} :∀(l:List Value),(∀v∈l,isPrim v=true)->RepL E w (l.map fun v=> .p (.prim v)) l
 |[],_=>by simp[RepL]
 |v::l,h=>by
  simp only[bMd,RepL];exact⟨v,l,rfl,by simp only[Rep,RepP,true_and];exact h v aA,RepL.prims l fun x hx=>h x (by simp[hx])⟩
theorem aMh {E w} (v:Value):Rep E w (sS v) v:=by
 unfold sS;split
 ·split
  ·rename_i cs hc;simp only[Rep];refine⟨cs.toList,by simp,RepL.prims _ ?_⟩;intro v hv;exact bOe.1 hc v (by simpa using hv)
  ·simp only[Rep]
 ·split
  ·rename_i cs hc;simp only[Rep,RepL];refine⟨[],?_,rfl⟩;simp at hc;simp[hc]
  ·simp only[Rep]
 ·split
  ·rename_i hp;simp only[Rep,RepP,true_and];exact hp
  ·simp only[Rep]
theorem RepL.get {E w} :∀ {xs:List AV} {vs:List Value} (i:Nat),RepL E w xs vs->Rep E w (xs.getD i .junk) (vs.getD i undef)
 |[],vs,i,_=>by simp[Rep]
 |x::xs,vs,i,r=>by
  simp only[RepL] at r;obtain⟨v,us,rfl,r1,r2⟩:=r
  cases i with
  |zero=>simpa using r1
  |succ i=>simpa using RepL.get i r2
theorem RepL.length {E w} :∀ {xs:List AV} {vs:List Value},RepL E w xs vs->vs.length=xs.length
 |[],vs,r=>by simp only[RepL] at r;simp[r]
 |x::xs,vs,r=>by
  simp only[RepL] at r;obtain⟨v,us,rfl,r1,r2⟩:=r;simp[r2.length]
theorem RepL.set {E w} {x:AV} {v:Value} (hx:Rep E w x v):∀ {xs:List AV} {vs:List Value} (i:Nat),RepL E w xs vs->RepL E w (xs.set i x) (vs.set i v)
 |[],vs,i,r=>by simp only[RepL] at r;subst r;simp[RepL]
 |y::xs,vs,i,r=>by
  simp only[RepL] at r;obtain⟨u,us,rfl,r1,r2⟩:=r
  cases i with
  |zero=>simp only[bO1,RepL];exact⟨v,us,rfl,hx,r2⟩
  |succ i=>simp only[bOc,RepL];exact⟨u,us.set i v,rfl,r1,RepL.set hx i r2⟩
theorem RepL.append {E w} :∀ {xs ys:List AV} {vs us:List Value},RepL E w xs vs->RepL E w ys us->RepL E w (xs++ys) (vs++us)
 |[],ys,vs,us,r,s=>by simp only[RepL] at r;subst r;simpa using s
 |x::xs,ys,vs,us,r,s=>by
  simp only[RepL] at r;obtain⟨v,vs',rfl,r1,r2⟩:=r;simp only[bLz,RepL];exact⟨v,vs'++us,rfl,r1,RepL.append r2 s⟩
theorem RepL.drop {E w} :∀ {xs:List AV} {vs:List Value} (i:Nat),RepL E w xs vs->RepL E w (xs.drop i) (vs.drop i)
 |xs,vs,0,r=>by simpa using r
 |[],vs,i+1,r=>by simp only[RepL] at r;subst r;simp[RepL]
 |x::xs,vs,i+1,r=>by
  simp only[RepL] at r;obtain⟨v,vs',rfl,r1,r2⟩:=r;simpa using RepL.drop i r2
theorem RepL.take {E w} :∀ {xs:List AV} {vs:List Value} (i:Nat),RepL E w xs vs->RepL E w (xs.take i) (vs.take i)
 |xs,vs,0,r=>by simp[RepL]
 |[],vs,i+1,r=>by simp only[RepL] at r;subst r;simp[RepL]
 |x::xs,vs,i+1,r=>by
  simp only[RepL] at r;obtain⟨v,vs',rfl,r1,r2⟩:=r;simp only[bMv,RepL];exact⟨v,vs'.take i,rfl,r1,RepL.take i r2⟩
theorem aev_rep {E w a T h D} (s:St E w a T h D)(x:Operand):Rep E w (aev T x) (a.eval x):=by
 cases x with
 |tmp t=>
  have:=s.tmps.get t;simp only[aev,Act.eval,tget_eq];simpa using this
 |const v=>exact aMh v
 |global g=>simp only[aev,Rep]
 |func f=>simp only[aev,Rep,RepP,Act.eval,true_and];rfl
theorem fW {E w a T h D} (s:St E w a T h D):∀(l:List Operand),RepL E w (l.map (aev T)) (l.map a.eval)
 |[]=>by simp[RepL]
 |x::l=>by
  simp only[bMd,RepL];exact⟨_,_,rfl,aev_rep s x,fW s l⟩
def tput (T:List AV)(dst:Option Tmp)(x:AV):List AV:=
 match dst with
 |some d=>T.set d x
 |none=>T
theorem St.put {E w a T h D} (s:St E w a T h D) {x:AV} {v:Value} (hx:Rep E w x v)(dst:Option Tmp):St E w (a.put dst v) (tput T dst x) h D:=by
 cases dst with
 |none=>exact s
 |some d=>
  refine⟨s.rel,s.fresh,?_,s.defers⟩;simp only[Act.put,tput,Array.toList_setIfInBounds];exact s.tmps.set hx d
theorem St.move {E w a T h D E' w' h'} (s:St E w a T h D)(hf:Fr E h.at w E' (Heap.at h') w')(hr:Rel E' h'.at w')(hn:Fresh E' h'.length):St E' w' a T h' D:=
 ⟨hr,hn,s.tmps.ext hf.ext,s.defers.ext hf.ext⟩
end Go.AI
namespace Go.AI
open Go
theorem cM (h:Heap)(o:Option AO)(id:Nat):Heap.at (h++[o]) id=if id=h.length then o else h.at id:=by
 unfold Heap.at
 by_cases e:id=h.length
 ·subst e;simp
 ·rcases bNi id h.length with l|l
  ·simp[e,bM9 l]
  ·have:(h++[o]).length<=id:=by simp;omega
   simp[e,bNz this,bNz l]
theorem aPd (h:Heap)(id:Nat)(l:h.length<=id):h.at id=none:=by
 unfold Heap.at;simp[bNz l]
theorem fK (h:Heap)(i:Nat)(o:Option AO)(id:Nat)(hi:i<h.length):Heap.at (h.set i o) id=if id=i then o else h.at id:=by
 unfold Heap.at
 by_cases e:id=i
 ·subst e;simp[hi]
 ·simp[e,bMl (Ne.symm e)]
theorem bD {h:Heap} {id:Nat} {o:AO} (e:h.at id=some o):id<h.length:=by
 rcases bNi id h.length with l|l
 ·exact l
 ·rw[aPd h id l] at e;cases e
section
variable {E:Env} {h:Nat->Option AO} {w w':World}
theorem Rel.owns_lt (r:Rel E h w) {id b:Nat} (o:fG E h id b):b<w.heap.size:=by
 rcases o with ⟨o,hc,hn,hg⟩|⟨o,⟨n,sz,k,cs⟩,c,m,hc,hk,hg⟩
 ·obtain⟨b',hg',ho⟩:=r.objsO id o hc hn;rw[hg] at hg';cases hg';exact ho.lt
 ·obtain⟨blk,cap,ht,_,_,hb⟩:=r.toks id o n sz k cs hc hk;rw[hg] at ht;cases ht;obtain⟨vs,hr,_⟩:=hb b rfl;exact hr.lt
theorem Rel.of_heap (r:Rel E h w)(e:w'.heap=w.heap)(e2:w'.os=w.os)(e3:w'.output=w.output):Rel E h w'/\Fr E h w E h w':=by
 have hx:Ext E w E w':=⟨fun _ _ h=>h,fun b off _=>bS (by rw[e]) off,fun _ _ h=>h,fun _ L h=>⟨L,h,bLx _,fun _=>rfl⟩⟩;refine⟨⟨fun id o hc hn=>?_,fun id o n sz m cs hc hk=>?_,r.inj,r.sepO,r.sepT,fun b off hb=>by rw[e];exact r.lt b off hb⟩,⟨fun b _ _=>by rw[e],hx,fun _ _ h=> .inl h,by rw[e];exact bLx _,fun _ h=> .inl h,e2,e3⟩⟩
 ·obtain⟨b,hg,ho⟩:=r.objsO id o hc hn;exact⟨b,hg,ho.move hx (by rw[e])⟩
 ·obtain⟨blk,cap,ht,h1,h2,h3⟩:=r.toks id o n sz m cs hc hk;refine⟨blk,cap,ht,h1,h2,fun b hb=>?_⟩;obtain⟨vs,hr,hl,hp⟩:=h3 b hb;exact⟨vs,hr.same (by rw[e]),hl,hp.ext hx⟩
theorem alloc_old (o:Obj) {b:Nat} (hb:b<w.heap.size):(w.alloc o).heap[b]?=w.heap[b]?:=by
 show(w.heap.push o)[b]?=_;simp[Array.getElem?_push,Nat.ne_of_lt hb]
theorem alloc_new (o:Obj):(w.alloc o).heap[w.heap.size]?=some o:=by
 show(w.heap.push o)[w.heap.size]?=_;simp
theorem alloc_size (o:Obj):(w.alloc o).heap.size=w.heap.size+1:=by
 show(w.heap.push o).size=_;simp
theorem Kp.alloc {o:Obj} (_ho:∀cs T f,o= .cells cs T f->f=(0,0)):Kp w (w.alloc o):=⟨rfl,rfl⟩
theorem Kp.turn {b:Nat} (h1:w'.os=w.os)(h2:w'.output=w.output)(_hs:∀b',b'≠b->w'.heap[b']?=w.heap[b']?)(_hf:∀off,w.frozen? ⟨b,off,none⟩=false)(_hf':∀off,w'.frozen? ⟨b,off,none⟩=false):Kp w w':=⟨h1,h2⟩
theorem Rel.alloc_ro (r:Rel E h w)(vs:List Value)(T:TypeId):
  Rel {E with ro:=fun b off=>E.ro b off\/b=w.heap.size} h (w.alloc (.cells (List.toArray vs) T (0,0)))/\
  Fr E h w {E with ro:=fun b off=>E.ro b off\/b=w.heap.size} h (w.alloc (.cells (List.toArray vs) T (0,0))):=by
 have hx:Ext E w {E with ro:=fun b off=>E.ro b off\/b=w.heap.size} (w.alloc (.cells (List.toArray vs) T (0,0))):=
  ⟨fun _ _ h=> .inl h,fun b off hb=>bS (alloc_old _ (r.lt b off hb)) off,fun _ _ h=>h,fun _ L h=>⟨L,h,bLx _,fun _=>rfl⟩⟩
 have hO:∀id b,fG {E with ro:=fun b off=>E.ro b off\/b=w.heap.size} h id b↔fG E h id b:=fun id b=>Iff.rfl
 refine⟨⟨fun id o hc hn=>?_,fun id o n sz m cs hc hk=>?_,r.inj,fun id o b off hc hn hg=>?_,fun id o n sz k cs b c m off hc hk hg hl=>?_,?_⟩,⟨fun b hb _=>alloc_old _ hb,hx,?_,by rw[alloc_size];omega,fun b hb=> .inl hb,Kp.alloc (fun _ _ _ e=>by cases e;rfl)⟩⟩
 ·obtain⟨b,hg,ho⟩:=r.objsO id o hc hn;exact⟨b,hg,ho.move hx (alloc_old _ ho.lt)⟩
 ·obtain⟨blk,cap,ht,h1,h2,h3⟩:=r.toks id o n sz m cs hc hk;exact y5w
 ·rintro(h1|h1)
  ·exact r.sepO id o b off hc hn hg h1
  ·have:=r.owns_lt (.inl ⟨o,hc,hn,hg⟩);omega
 ·rintro(h1|h1)
  ·exact r.sepT id o n sz k cs b c m off hc hk hg hl h1
  ·have:=r.owns_lt (.inr ⟨o,_,c,m,hc,hk,hg⟩);omega
 ·rintro b off (h1|h1)
  ·have:=r.lt b off h1;rw[alloc_size];omega
  ·rw[alloc_size];omega
 ·rintro b off (h1|h1)
  ·exact .inl h1
  ·exact .inr (.inr aB)
end
section
variable {E:Env} {h:Heap} {w w':World}
theorem Rel.allocO (r:Rel E h.at w)(hf:Fresh E h.length) {o:AO} {ob:Obj} (hn:o.named=true)(hz:∀cs T f,ob= .cells cs T f->f=(0,0))
  (hob:Ext E w {E with g:=fun id=>if id=h.length then some w.heap.size else E.g id} (w.alloc ob)->ObjAt {E with g:=fun id=>if id=h.length then some w.heap.size else E.g id} (w.alloc ob) w.heap.size o):
  let E':Env:= {E with g:=fun id=>if id=h.length then some w.heap.size else E.g id}
  let w':=w.alloc ob
  Rel E' (Heap.at (h++[some o])) w'/\Fr E h.at w E' (Heap.at (h++[some o])) w'/\Fresh E' (h.length+1):=by
 intro E' w'
 have hx:Ext E w E' w':=⟨fun _ _ h=>h,fun b off hb=>bS (alloc_old _ (r.lt b off hb)) off,fun id b e=>by
   show(if id=h.length then some w.heap.size else E.g id)=some b;rw[if_neg (fun he=>by rw[he,(hf _ (bLx _)).1] at e;cases e)];exact e,fun _ L h=>⟨L,h,bLx _,fun _=>rfl⟩⟩
 have hold:∀id,id≠h.length->Heap.at (h++[some o]) id=h.at id:=fun id hne=>by rw[cM,if_neg hne]
 have hnew:Heap.at (h++[some o]) h.length=some o:=by rw[cM,if_pos rfl]
 have hnt:∀x,o.tk≠some x:=fun x e=>by rw[AO.tk_named e] at hn;cases hn
 have hg':∀id,id≠h.length->E'.g id=E.g id:=fun id hne=>if_neg hne
 have hO:∀id b,fG E' (Heap.at (h++[some o])) id b->(id=h.length/\b=w.heap.size)\/(id≠h.length/\fG E h.at id b):=by
  intro id b ho
  by_cases e:id=h.length
  ·subst e;rcases ho with ⟨o',h1,h3,h2⟩|⟨o',x,c,m,h1,hk,h2⟩
   ·left;refine⟨rfl,?_⟩;have:E'.g h.length=some w.heap.size:=if_pos rfl;rw[this] at h2;cases h2;rfl
   ·rw[hnew] at h1;cases h1;exact absurd hk (hnt _)
  ·right;refine⟨e,?_⟩;rcases ho with ⟨o',h1,h3,h2⟩|⟨o',x,c,m,h1,hk,h2⟩
   ·rw[hold id e] at h1;rw[hg' id e] at h2;exact .inl ⟨o',h1,h3,h2⟩
   ·rw[hold id e] at h1;exact .inr ⟨o',x,c,m,h1,hk,h2⟩
 refine⟨⟨fun id o' hc' hn'=>?_,fun id o' n sz k cs hc' hk=>?_,fun id id' b h1 h2=>?_,fun id o' b off hc' hn' hg hb=>?_,fun id o' n sz k cs b c m off hc' hk hg hl hb=>?_,fun b off hb=>?_⟩,⟨fun b hb _=>alloc_old _ hb,hx,fun b off hb=> .inl hb,by rw[alloc_size];omega,fun b hb=>?_,Kp.alloc hz⟩,fun id hid=>?_⟩
 ·by_cases e:id=h.length
  ·subst e;rw[hnew] at hc';cases hc';exact⟨w.heap.size,if_pos rfl,hob hx⟩
  ·rw[hold id e] at hc';obtain⟨b,hg,ho⟩:=r.objsO id o' hc' hn';exact⟨b,by rw[hg' id e];exact hg,ho.move hx (alloc_old _ ho.lt)⟩
 ·have e:id≠h.length:=fun e=>by subst e;rw[hnew] at hc';cases hc';exact hnt _ hk
  rw[hold id e] at hc';obtain⟨blk,cap,ht,h1,h2,h3⟩:=r.toks id o' n sz k cs hc' hk;refine⟨blk,cap,ht,h1,h2,fun b hb=>?_⟩;obtain⟨vs,hr,hl,hp⟩:=h3 b hb;exact⟨vs,hr.same (alloc_old _ hr.lt),hl,hp.ext hx⟩
 ·rcases hO id b h1 with ⟨e1,e2⟩|⟨e1,o1⟩<;>rcases hO id' b h2 with ⟨e3,e4⟩|⟨e3,o2⟩
  ·rw[e1,e3]
  ·have:=r.owns_lt o2;omega
  ·have:=r.owns_lt o1;omega
  ·exact r.inj id id' b o1 o2
 ·by_cases e:id=h.length
  ·subst e;have:E'.g h.length=some w.heap.size:=if_pos rfl;rw[this] at hg;cases hg;have:=r.lt _ off hb;omega
  ·rw[hold id e] at hc';rw[hg' id e] at hg;exact r.sepO id o' b off hc' hn' hg hb
 ·have e:id≠h.length:=fun e=>by subst e;rw[hnew] at hc';cases hc';exact hnt _ hk
  rw[hold id e] at hc';exact r.sepT id o' n sz k cs b c m off hc' hk hg hl hb
 ·have:=r.lt b off hb;rw[alloc_size];omega
 ·obtain⟨id,ho⟩:=hb;rcases hO id b ho with ⟨_,e2⟩|⟨_,o⟩
  ·exact .inr aB
  ·exact .inl ⟨id,o⟩
 ·have hid':h.length+1<=id:=hid;exact⟨by rw[hg' id aB];exact(hf id aB).1,(hf id aB).2⟩
theorem Rel.alloc (r:Rel E h.at w)(hf:Fresh E h.length) {cs:List AV} {vs:List Value} (hc:RepL E w cs vs)(T:TypeId):
  let E':Env:= {E with g:=fun id=>if id=h.length then some w.heap.size else E.g id}
  let w':=w.alloc (.cells (List.toArray vs) T (0,0))
  Rel E' (Heap.at (h++[some (.cells cs)])) w'/\Fr E h.at w E' (Heap.at (h++[some (.cells cs)])) w'/\Fresh E' (h.length+1):=
 Rel.allocO r hf rfl (fun _ _ _ e=>by cases e;rfl) fun hx=>⟨vs,⟨T,alloc_new _⟩,hc.ext hx⟩
theorem ObjAt.frozen {E:Env} {w:World} {b:Nat} {o:AO} (h:ObjAt E w b o)(off:Nat):w.frozen? ⟨b,off,none⟩=false:=by
 cases o with
 |cells cs=>obtain⟨vs,hr,_⟩:=h;exact hr.frozen off
 |tok _ _=>exact h.elim
 |vec _ _=>exact h.elim
 |aux x=>cases x with
  |loop=>obtain⟨_,r,h,_⟩:=h;simp[World.frozen?,h]
  |dblk=>simp only[ObjAt,aTz] at h;simp[World.frozen?,h]
  |map=>simp only[ObjAt,aTz] at h;obtain⟨_,_,h,_⟩:=h;simp[World.frozen?,h]
theorem Rel.writeO (r:Rel E h.at w) {id b:Nat} {o o':AO} (hid:h.at id=some o)(hn:o.named=true)(hn':o'.named=true)(hg:E.g id=some b)
  (hobj:Ext E w E w'->ObjAt E w' b o') (hsame:∀b',b'≠b->w'.heap[b']?=w.heap[b']?) (hsz:w'.heap.size=w.heap.size) (hos:w'.os=w.os) (hout:w'.output=w.output):
  Rel E (Heap.at (h.set id (some o'))) w'/\Fr E h.at w E (Heap.at (h.set id (some o'))) w':=by
 have hlt:=bD hid;have hnb:∀b' off,E.ro b' off->b'≠b:=fun b' off hb e=>r.sepO id o b off hid hn hg (e▸hb)
 have hx:Ext E w E w':=⟨fun _ _ h=>h,fun b' off hb=>bS (hsame b' (hnb b' off hb)) off,fun _ _ h=>h,fun _ L h=>⟨L,h,bLx _,fun _=>rfl⟩⟩;have hold:∀id',id'≠id->Heap.at (h.set id (some o')) id'=h.at id':=fun id' hne=>by rw[fK _ _ _ _ hlt,if_neg hne]
 have hnew:Heap.at (h.set id (some o')) id=some o':=by rw[fK _ _ _ _ hlt,if_pos rfl]
 have hnt:∀x,o'.tk≠some x:=fun x e=>by rw[AO.tk_named e] at hn';cases hn'
 have hkp:Kp w w':=by
  obtain⟨b0,hg0,ho0⟩:=r.objsO id o hid hn;rw[hg] at hg0;cases hg0;exact Kp.turn hos hout hsame (fun off=>ho0.frozen off) (fun off=>(hobj hx).frozen off)
 have hO:∀id' b',fG E (Heap.at (h.set id (some o'))) id' b'->fG E h.at id' b':=by
  intro id' b' ho
  by_cases e:id'=id
  ·subst e;rcases ho with ⟨c,h1,h3,h2⟩|⟨c,x,c',m,h1,hk,h2⟩
   ·exact .inl ⟨o,hid,hn,h2⟩
   ·rw[hnew] at h1;cases h1;exact absurd hk (hnt _)
  ·rcases ho with ⟨c,h1,h3,h2⟩|⟨c,x,c',m,h1,hk,h2⟩
   ·rw[hold id' e] at h1;exact .inl ⟨c,h1,h3,h2⟩
   ·rw[hold id' e] at h1;exact .inr ⟨c,x,c',m,h1,hk,h2⟩
 have hneq:∀id' b',id'≠id->fG E h.at id' b'->b'≠b:=fun id' b' hne ho e=>hne (r.inj id' id b (e▸ho) (.inl ⟨o,hid,hn,hg⟩))
 refine⟨⟨fun id' c hc' hm=>?_,fun id' c n sz k cs hc' hk=>?_,fun i i' b' h1 h2=>r.inj i i' b' (hO _ _ h1) (hO _ _ h2),fun id' c b' off hc' hm hg' hb=>?_,fun id' c n sz k cs b' c' m off hc' hk hg' hl hb=>?_,fun b' off hb=>by rw[hsz];exact r.lt b' off hb⟩,⟨fun b' _ hnn=>hsame b' (fun e=>hnn ⟨id, .inl ⟨o,hid,hn,e▸hg⟩⟩),hx,fun _ _ h=> .inl h,by rw[hsz];exact bLx _,fun b' ⟨i,ho⟩=> .inl ⟨i,hO _ _ ho⟩,hkp⟩⟩
 ·by_cases e:id'=id
  ·subst e;rw[hnew] at hc';cases hc';exact⟨b,hg,hobj hx⟩
  ·rw[hold id' e] at hc';obtain⟨b',hg',ho⟩:=r.objsO id' c hc' hm;exact⟨b',hg',ho.move hx (hsame b' (hneq id' b' e (.inl ⟨c,hc',hm,hg'⟩)))⟩
 ·have e:id'≠id:=fun e=>by subst e;rw[hnew] at hc';cases hc';exact hnt _ hk
  rw[hold id' e] at hc';obtain⟨blk,cap,ht,h1,h2,h3⟩:=r.toks id' c n sz k cs hc' hk;refine⟨blk,cap,ht,h1,h2,fun b' hb=>?_⟩;obtain⟨vs,hr,hl,hp⟩:=h3 b' hb;subst hb;exact⟨vs,hr.same (hsame b' (hneq id' b' e (.inr ⟨c,_,cap,n,hc',hk,ht⟩))),hl,hp.ext hx⟩
 ·by_cases e:id'=id
  ·subst e;exact r.sepO id' o b' off hid hn hg' hb
  ·rw[hold id' e] at hc';exact r.sepO id' c b' off hc' hm hg' hb
 ·have e:id'≠id:=fun e=>by subst e;rw[hnew] at hc';cases hc';exact hnt _ hk
  rw[hold id' e] at hc';exact r.sepT id' c n sz k cs b' c' m off hc' hk hg' hl hb
theorem Rel.write (r:Rel E h.at w) {id b:Nat} {cs cs':List AV} {vs':List Value} (hid:h.at id=some (.cells cs))(hg:E.g id=some b)
  (hrow:Row w' b vs') (hsame:∀b',b'≠b->w'.heap[b']?=w.heap[b']?) (hsz:w'.heap.size=w.heap.size) (hos:w'.os=w.os) (hout:w'.output=w.output) (hc:RepL E w cs' vs'):
  Rel E (Heap.at (h.set id (some (.cells cs')))) w'/\Fr E h.at w E (Heap.at (h.set id (some (.cells cs')))) w':=
 Rel.writeO r hid rfl rfl hg (fun hx=>⟨vs',hrow,hc.ext hx⟩) hsame hsz hos hout
theorem Rel.newTk (r:Rel E h.at w)(hf:Fresh E h.length) {tk:AO} {sz:Nat} (hk0:tk.tk=some (0,sz,0,[])):
  let E':Env:= {E with t:=fun id=>if id=h.length then some ⟨none,0,0⟩ else E.t id}
  Rel E' (Heap.at (h++[some tk])) w/\Fr E h.at w E' (Heap.at (h++[some tk])) w/\Fresh E' (h.length+1):=by
 intro E';have hnm:tk.named=false:=AO.tk_named hk0;have ht':∀id,id≠h.length->E'.t id=E.t id:=fun id hne=>if_neg hne
 have htn:E'.t h.length=some ⟨none,0,0⟩:=if_pos rfl
 have hx:Ext E w E' w:=⟨fun _ _ h=>h,fun _ _ _=>rfl,fun _ _ h=>h,fun id L e=>⟨L,by
   rw[ht' id (fun he=>by rw[he,(hf _ (bLx _)).2] at e;cases e)];exact e,bLx _,fun _=>rfl⟩⟩
 have hold:∀id,id≠h.length->Heap.at (h++[some tk]) id=h.at id:=fun id hne=>by rw[cM,if_neg hne]
 have hnew:Heap.at (h++[some tk]) h.length=some tk:=by rw[cM,if_pos rfl]
 have hO:∀id b,fG E' (Heap.at (h++[some tk])) id b->fG E h.at id b:=by
  intro id b ho
  by_cases e:id=h.length
  ·subst e;rcases ho with ⟨o',h1,h3,h2⟩|⟨o',x,c,m,h1,hk,h2⟩
   ·rw[hnew] at h1;cases h1;rw[hnm] at h3;cases h3
   ·rw[htn] at h2;cases h2
  ·rcases ho with ⟨o',h1,h3,h2⟩|⟨o',x,c,m,h1,hk,h2⟩
   ·rw[hold id e] at h1;exact .inl ⟨o',h1,h3,h2⟩
   ·rw[hold id e] at h1;rw[ht' id e] at h2;exact .inr ⟨o',x,c,m,h1,hk,h2⟩
 refine⟨⟨fun id o hc hn=>?_,fun id o n s k cs hc hk=>?_,fun i i' b h1 h2=>r.inj i i' b (hO _ _ h1) (hO _ _ h2),fun id o b off hc hn hg hb=>?_,fun id o n s k cs b c m off hc hk hg hl hb=>?_,r.lt⟩,⟨fun _ _ _=>rfl,hx,fun _ _ h=> .inl h,bLx _,fun b ⟨i,ho⟩=> .inl ⟨i,hO _ _ ho⟩,Kp.refl w⟩,fun id hid=>?_⟩
 ·have e:id≠h.length:=fun e=>by subst e;rw[hnew] at hc;cases hc;rw[hnm] at hn;cases hn
  rw[hold id e] at hc;obtain⟨b,hg,ho⟩:=r.objsO id o hc hn;exact⟨b,hg,ho.move hx rfl⟩
 ·by_cases e:id=h.length
  ·subst e;rw[hnew] at hc;cases hc;rw[hk0] at hk;cases hk;exact⟨none,0,htn,bLx _,fun _=>rfl,fun b hb=>by cases hb⟩
  ·rw[hold id e] at hc;obtain⟨blk,cap,ht,h1,h2,h3⟩:=r.toks id o n s k cs hc hk
   exact⟨blk,cap,by rw[ht' id e];exact ht,h1,h2,fun b hb=>by
    obtain⟨vs,q1,q2,q3⟩:=h3 b hb;exact⟨vs,q1,q2,q3.ext hx⟩⟩
 ·have e:id≠h.length:=fun e=>by subst e;rw[hnew] at hc;cases hc;rw[hnm] at hn;cases hn
  rw[hold id e] at hc;exact r.sepO id o b off hc hn hg hb
 ·have e:id≠h.length:=fun e=>by subst e;rw[htn] at hg;cases hg
  rw[hold id e] at hc;rw[ht' id e] at hg;exact r.sepT id o n s k cs b c m off hc hk hg hl hb
 ·have hid':h.length+1<=id:=hid;exact⟨(hf id aB).1,by rw[ht' id aB];exact(hf id aB).2⟩
theorem Rel.newTok (r:Rel E h.at w)(hf:Fresh E h.length)(sz:Nat):
  let E':Env:= {E with t:=fun id=>if id=h.length then some ⟨none,0,0⟩ else E.t id}
  Rel E' (Heap.at (h++[some (.tok 0 sz)])) w/\Fr E h.at w E' (Heap.at (h++[some (.tok 0 sz)])) w/\Fresh E' (h.length+1):=r.newTk hf (tk:= .tok 0 sz) (sz:=sz) rfl
theorem Rel.growG (r:Rel E h.at w) {tok n m sz c' b k k':Nat} {o o':AO} {cs cs':List AV} (hid:h.at tok=some o)(hk:o.tk=some (n,sz,k,cs))(hk':o'.tk=some (n+m,sz,k',cs'))(hkk:k<=k')(hm:0<m\/E.t tok=some ⟨some b,c',n⟩)
  (hloc:(∃L,E.t tok=some L/\L.blk=some b)\/w.heap.size<=b)
  {vs:List Value} (hrow:Row w' b vs) (hlen:vs.length=c'*sz) (hcap:n+m<=c') (hsame:∀b',b'≠b->b'<w.heap.size->w'.heap[b']?=w.heap[b']?)
  (hold:∀off,E.ro b off->w'.cell? ⟨b,off,none⟩=w.cell? ⟨b,off,none⟩) (hsz:w.heap.size<=w'.heap.size) (hkp:Kp w w')
  (hcs:∀E':Env,Ext E w E' w'->(∀off,off<k'*sz->E'.ro b off)->RepL E' w' cs' (vs.take cs'.length)):
  let E':Env:= {E with ro:=fun b' off=>E.ro b' off\/(b'=b/\off<k'*sz),t:=fun id=>if id=tok then some ⟨some b,c',n+m⟩ else E.t id}
  Rel E' (Heap.at (h.set tok (some o'))) w'/\Fr E h.at w E' (Heap.at (h.set tok (some o'))) w':=by
 intro E';have hlt:=bD hid;have hnm:o.named=false:=AO.tk_named hk;have hnm':o'.named=false:=AO.tk_named hk';obtain⟨blk0,cap0,ht0,h01,h02,h03⟩:=r.toks tok o n sz k cs hid hk;have ht':∀id,id≠tok->E'.t id=E.t id:=fun id hne=>if_neg hne
 have htn:E'.t tok=some ⟨some b,c',n+m⟩:=if_pos rfl
 have hb:(∃c m',E.t tok=some ⟨some b,c,m'⟩)\/w.heap.size<=b:=by
  rcases hloc with ⟨L,e,eb⟩|hh
  ·left;obtain⟨bl,c,m'⟩:=L;cases eb;exact⟨c,m',e⟩
  ·exact .inr hh
 have hown:w.heap.size<=b\/fG E h.at tok b:=by
  rcases hb with ⟨c,m',e⟩|hh
  ·exact .inr (.inr ⟨o,_,c,m',hid,hk,e⟩)
  ·exact .inl hh
 have hx:Ext E w E' w':=by
  refine⟨fun _ _ h=> .inl h,fun b' off hb'=>?_,fun _ _ h=>h,fun id L e=>?_⟩
  ·by_cases e:b'=b
   ·subst e;exact hold off hb'
   ·exact bS (hsame b' e (r.lt b' off hb')) off
  ·by_cases e':id=tok
   ·subst e';rw[ht0] at e;cases e;refine⟨_,htn,by show n<=n+m;omega,fun hc=>?_⟩;have hm0:n+m=n:=hc;rcases hm with hm|hm
    ·omega
    ·rw[ht0] at hm;cases hm;rw[hm0]
   ·exact⟨L,by rw[ht' id e'];exact e,bLx _,fun _=>rfl⟩
 have holdA:∀id,id≠tok->Heap.at (h.set tok (some o')) id=h.at id:=fun id hne=>by rw[fK _ _ _ _ hlt,if_neg hne]
 have hnewA:Heap.at (h.set tok (some o')) tok=some o':=by rw[fK _ _ _ _ hlt,if_pos rfl]
 have hneq:∀id b',id≠tok->fG E h.at id b'->b'≠b:=by
  intro id b' hne ho e;subst e;rcases hown with hh|hh
  ·have:=r.owns_lt ho;omega
  ·exact hne (r.inj id tok b' ho hh)
 have hO:∀id b',fG E' (Heap.at (h.set tok (some o'))) id b'->(id=tok/\b'=b)\/(id≠tok/\fG E h.at id b'):=by
  intro id b' ho
  by_cases e:id=tok
  ·subst e;rcases ho with ⟨o2,h1,h3,h2⟩|⟨o2,x,c,m,h1,hx2,h2⟩
   ·rw[hnewA] at h1;cases h1;rw[hnm'] at h3;cases h3
   ·rw[htn] at h2;cases h2;exact .inl ⟨rfl,rfl⟩
  ·right;refine⟨e,?_⟩;rcases ho with ⟨o2,h1,h3,h2⟩|⟨o2,x,c,m,h1,hx2,h2⟩
   ·rw[holdA id e] at h1;exact .inl ⟨o2,h1,h3,h2⟩
   ·rw[holdA id e] at h1;rw[ht' id e] at h2;exact .inr ⟨o2,x,c,m,h1,hx2,h2⟩
 have hnro:∀off,E.ro b off->off<k*sz:=by
  intro off ho;rcases hb with ⟨c,m',e⟩|hh
  ·rcases bNi off (k*sz) with l|l
   ·exact l
   ·exact absurd ho (r.sepT tok o n sz k cs b c m' off hid hk e l)
  ·have:=r.lt b off ho;omega
 refine⟨⟨fun id o2 hc hn=>?_,fun id o2 n' s k2 cs2 hc hk2=>?_,fun i i' b' h1 h2=>?_,fun id o2 b' off hc hn hg hb'=>?_,fun id o2 n' s k2 cs2 b' c m' off hc hk2 hg hl hb'=>?_,fun b' off hb'=>?_⟩,⟨fun b' hb' hn=>?_,hx,fun b' off hb'=>?_,hsz,fun b' ⟨i,ho⟩=>?_,hkp⟩⟩
 ·have e:id≠tok:=fun e=>by subst e;rw[hnewA] at hc;cases hc;rw[hnm'] at hn;cases hn
  rw[holdA id e] at hc;obtain⟨b',hg,ho⟩:=r.objsO id o2 hc hn;exact⟨b',hg,ho.move hx (hsame b' (hneq id b' e (.inl ⟨o2,hc,hn,hg⟩)) ho.lt)⟩
 ·by_cases e:id=tok
  ·subst e;rw[hnewA] at hc;cases hc;rw[hk'] at hk2;cases hk2;exact⟨some b,c',htn,hcap,(fun hh=>by cases hh),(fun b' hb'=>by cases hb';exact⟨vs,hrow,hlen,hcs E' hx fun off ho=> .inr ⟨rfl,ho⟩⟩)⟩
  ·rw[holdA id e] at hc;obtain⟨blk,cap,ht,h1,h2,h3⟩:=r.toks id o2 n' s k2 cs2 hc hk2;refine⟨blk,cap,by rw[ht' id e];exact ht,h1,h2,fun b' hb'=>?_⟩;obtain⟨us,hr,hl,hp⟩:=h3 b' hb';subst hb';exact⟨us,hr.same (hsame b' (hneq id b' e (.inr ⟨o2,_,cap,n',hc,hk2,ht⟩)) hr.lt),hl,hp.ext hx⟩
 ·rcases hO i b' h1 with ⟨e1,e2⟩|⟨e1,o1⟩<;>rcases hO i' b' h2 with ⟨e3,e4⟩|⟨e3,o2⟩
  ·rw[e1,e3]
  ·exact absurd e2 (hneq i' b' e3 o2)
  ·exact absurd e4 (hneq i b' e1 o1)
  ·exact r.inj i i' b' o1 o2
 ·have e:id≠tok:=fun e=>by subst e;rw[hnewA] at hc;cases hc;rw[hnm'] at hn;cases hn
  rw[holdA id e] at hc;rcases hb' with hb'|⟨e1,_⟩
  ·exact r.sepO id o2 b' off hc hn hg hb'
  ·exact hneq id b' e (.inl ⟨o2,hc,hn,hg⟩) e1
 ·by_cases e:id=tok
  ·subst e;rw[hnewA] at hc;cases hc;rw[htn] at hg;cases hg;rw[hk'] at hk2;cases hk2;rcases hb' with hb'|⟨_,e2⟩
   ·have h1:=hnro off hb';have h2:k*sz<=k'*sz:=bNk _ hkk;omega
   ·omega
  ·rw[holdA id e] at hc;rw[ht' id e] at hg;rcases hb' with hb'|⟨e1,_⟩
   ·exact r.sepT id o2 n' s k2 cs2 b' c m' off hc hk2 hg hl hb'
   ·exact hneq id b' e (.inr ⟨o2,_,c,m',hc,hk2,hg⟩) e1
 ·rcases hb' with hb'|⟨e1,_⟩
  ·have:=r.lt b' off hb';omega
  ·rw[e1];exact hrow.lt
 ·exact hsame b' (fun e=>hn (hown.elim (fun hh=>absurd hb' aB) (fun hh=>⟨tok,e▸hh⟩))) hb'
 ·rcases hb' with hb'|⟨e1,_⟩
  ·exact .inl hb'
  ·subst e1;rcases hown with hh|hh
   ·exact .inr (.inr hh)
   ·exact .inr (.inl ⟨tok,hh⟩)
 ·rcases hO i b' ho with ⟨_,e2⟩|⟨_,o⟩
  ·subst e2;rcases hown with hh|hh
   ·exact .inr hh
   ·exact .inl ⟨tok,hh⟩
  ·exact .inl ⟨i,o⟩
theorem Rel.grow (r:Rel E h.at w) {tok n m sz c' b:Nat} (hid:h.at tok=some (.tok n sz))(hm:0<m)
  (hloc:(∃L,E.t tok=some L/\L.blk=some b)\/w.heap.size<=b)
  {vs:List Value} (hrow:Row w' b vs) (hlen:vs.length=c'*sz) (hcap:n+m<=c') (hsame:∀b',b'≠b->b'<w.heap.size->w'.heap[b']?=w.heap[b']?)
  (hold:∀off,E.ro b off->w'.cell? ⟨b,off,none⟩=w.cell? ⟨b,off,none⟩) (hsz:w.heap.size<=w'.heap.size) (hkp:Kp w w'):
  let E':Env:= {E with ro:=fun b' off=>E.ro b' off\/(b'=b/\off<(n+m)*sz),t:=fun id=>if id=tok then some ⟨some b,c',n+m⟩ else E.t id}
  Rel E' (Heap.at (h.set tok (some (.tok (n+m) sz)))) w'/\Fr E h.at w E' (Heap.at (h.set tok (some (.tok (n+m) sz)))) w':=
 r.growG (o':= .tok (n+m) sz) hid rfl rfl aB (.inl hm) hloc hrow hlen hcap hsame hold hsz hkp (fun _ _ _=>by simp[RepL])
theorem Rel.freezeG (r:Rel E h.at w) {id b:Nat} {o:AO} (hid:h.at id=some o)(hob:fG E h.at id b):
  let E':Env:= {E with ro:=fun b' off=>E.ro b' off\/b'=b}
  Rel E' (Heap.at (h.set id none)) w/\Fr E h.at w E' (Heap.at (h.set id none)) w:=by
 intro E';have hlt:=bD hid;have hx:Ext E w E' w:=⟨fun _ _ h=> .inl h,fun _ _ _=>rfl,fun _ _ h=>h,fun _ L h=>⟨L,h,bLx _,fun _=>rfl⟩⟩;have hold:∀id',id'≠id->Heap.at (h.set id none) id'=h.at id':=fun id' hne=>by rw[fK _ _ _ _ hlt,if_neg hne]
 have hnew:Heap.at (h.set id none) id=none:=by rw[fK _ _ _ _ hlt,if_pos rfl]
 have hne:∀id' o,Heap.at (h.set id none) id'=some o->id'≠id:=fun id' o e e'=>by subst e';rw[hnew] at e;cases e
 have hO:∀id' b',fG E' (Heap.at (h.set id none)) id' b'->id'≠id/\fG E h.at id' b':=by
  intro id' b' ho;exact y47
 refine⟨⟨fun id' c hc hm=>?_,fun id' c n sz k cs hc hk=>?_,fun i i' b' h1 h2=>r.inj i i' b' (hO _ _ h1).2 (hO _ _ h2).2,fun id' c b' off hc hm hg' hb=>?_,fun id' c n sz k cs b' c' m off hc hk hg' hl hb=>?_,fun b' off hb=>?_⟩,⟨fun _ _ _=>rfl,hx,fun b' off hb=>?_,bLx _,fun b' ⟨i,ho⟩=> .inl ⟨i,(hO _ _ ho).2⟩,Kp.refl w⟩⟩
 ·have e:=hne _ _ hc;rw[hold id' e] at hc;obtain⟨b',hg',ho⟩:=r.objsO id' c hc hm;exact⟨b',hg',ho.move hx rfl⟩
 ·have e:=hne _ _ hc;rw[hold id' e] at hc;obtain⟨blk,cap,ht,h1,h2,h3⟩:=r.toks id' c n sz k cs hc hk
  exact⟨blk,cap,ht,h1,h2,fun b' hb=>by
   obtain⟨vs,q1,q2,q3⟩:=h3 b' hb;exact⟨vs,q1,q2,q3.ext hx⟩⟩
 ·have e:=hne _ _ hc;rw[hold id' e] at hc;rcases hb with hb|hb
  ·exact r.sepO id' c b' off hc hm hg' hb
  ·subst hb;exact e (r.inj id' id b' (.inl ⟨c,hc,hm,hg'⟩) hob)
 ·have e:=hne _ _ hc;rw[hold id' e] at hc;rcases hb with hb|hb
  ·exact r.sepT id' c n sz k cs b' c' m off hc hk hg' hl hb
  ·subst hb;exact e (r.inj id' id b' (.inr ⟨c,_,c',m,hc,hk,hg'⟩) hob)
 ·rcases hb with hb|hb
  ·exact r.lt b' off hb
  ·subst hb;exact r.owns_lt hob
 ·rcases hb with hb|hb
  ·exact .inl hb
  ·subst hb;exact .inr (.inl ⟨id,hob⟩)
theorem Rel.freeze (r:Rel E h.at w) {id b:Nat} {cs:List AV} (hid:h.at id=some (.cells cs))(hg:E.g id=some b):
  let E':Env:= {E with ro:=fun b' off=>E.ro b' off\/b'=b}
  Rel E' (Heap.at (h.set id none)) w/\Fr E h.at w E' (Heap.at (h.set id none)) w:=r.freezeG hid (.inl ⟨_,hid,rfl,hg⟩)
end
mutual
def AV.under (n:Nat):AV->Bool
 | .p _=>true
 | .agg cs=>AV.underL n cs
 | .tup cs=>AV.underL n cs
 | .ptr id _=>decide (id<n)
 | .sm id _ _ _ _=>decide (id<n)
 | .own tok _ _=>decide (tok<n)
 | .fn _ xs ys=>AV.underL n xs&& AV.underL n ys
 | .ifc _ x=>AV.under n x
 | .mp id=>decide (id<n)
 | .vec id _=>decide (id<n)
 | .junk=>true
def AV.underL (n:Nat):List AV->Bool
 |[]=>true
 |x::xs=>AV.under n x&& AV.underL n xs
end
def AO.under (n:Nat):Option AO->Bool
 |some (.cells cs)=>AV.underL n cs
 |some (.aux (.loop _ _ _ T _ _ _))=>AV.underL n T
 |_=>true
def Env.cut (E:Env)(n:Nat):Env:= {E with g:=fun id=>if id<n then E.g id else none,t:=fun id=>if id<n then E.t id else none}
mutual
theorem RepP.cut {E w} (n:Nat):∀ {x:PV} {v:Value},RepP E w x v->RepP (E.cut n) w x v
 | .prim _,_,r=>by simpa only[RepP] using r
 | .sl sz es,v,r=>by
  simp only[RepP] at r⊢;obtain⟨a,cap,e,hc,r⟩:=r;refine⟨a,cap,e,hc,r.imp id ?_⟩;rintro⟨b,off,ea,r⟩;exact⟨b,off,ea,RepEs.cut n r⟩
 | .ro cs,v,r=>by
  simp only[RepP] at r⊢;obtain⟨b,off,e,r⟩:=r;exact⟨b,off,e,RepAt.cut n r⟩
 | .ifc t x,v,r=>by
  simp only[RepP] at r⊢;obtain⟨u,e,r⟩:=r;exact⟨u,e,RepP.cut n r⟩
theorem RepAt.cut {E w} (n:Nat) {b:Nat} :∀ {xs:List PV} {off:Nat},RepAt E w b off xs->RepAt (E.cut n) w b off xs
 |[],_,_=>by simp only[RepAt]
 |x::xs,off,r=>by
  simp only[RepAt] at r⊢;obtain⟨v,ho,e,r1,r2⟩:=r;exact⟨v,ho,e,RepP.cut n r1,RepAt.cut n r2⟩
theorem RepEs.cut {E w} (n:Nat) {b sz:Nat} :∀ {es:List (List PV)} {off:Nat},RepEs E w b sz off es->RepEs (E.cut n) w b sz off es
 |[],_,_=>by simp only[RepEs]
 |e::es,off,r=>by
  simp only[RepEs] at r⊢;exact⟨r.1,RepAt.cut n r.2.1,RepEs.cut n r.2.2⟩
end
mutual
theorem Rep.cut {E w} {n:Nat} :∀ {x:AV} {v:Value},x.under n=true->Rep E w x v->Rep (E.cut n) w x v
 | .p x,_,_,r=>by simp only[Rep] at r⊢;exact r.cut n
 | .agg cs,v,hb,r=>by
  simp only[AV.under] at hb;simp only[Rep] at r⊢;obtain⟨vs,e,r⟩:=r;exact⟨vs,e,RepL.cut hb r⟩
 | .tup cs,v,hb,r=>by
  simp only[AV.under] at hb;simp only[Rep] at r⊢;obtain⟨vs,e,r⟩:=r;exact⟨vs,e,RepL.cut hb r⟩
 | .ptr id off,v,hb,r=>by
  simp only[AV.under,bMi] at hb;simp only[Rep] at r⊢;obtain⟨b,e,r⟩:=r;exact⟨b,by simp only[Env.cut,hb,if_true];exact e,r⟩
 | .sm id off len cap _,v,hb,r=>by
  simp only[AV.under,bMi] at hb;simp only[Rep] at r⊢;obtain⟨b,e,r⟩:=r;exact⟨b,by simp only[Env.cut,hb,if_true];exact e,r⟩
 | .own tok sz es,v,hb,r=>by
  simp only[AV.under,bMi] at hb;simp only[Rep] at r⊢;obtain⟨L,e,hn,blk,cap,ev,hcp,hc,hl⟩:=r;refine⟨L,by simp only[Env.cut,hb,if_true];exact e,hn,blk,cap,ev,hcp,hc.imp id ?_,hl⟩;rintro⟨b,eb,r⟩;exact⟨b,eb,r.cut n⟩
 | .fn f xs ys,v,hb,r=>by
  simp only[AV.under,bM8] at hb;simp only[Rep] at r⊢;obtain⟨vs,us,e,r1,r2⟩:=r;exact⟨vs,us,e,RepL.cut hb.1 r1,RepL.cut hb.2 r2⟩
 | .ifc t x,v,hb,r=>by
  simp only[AV.under] at hb;simp only[Rep] at r⊢;obtain⟨u,e,r⟩:=r;exact⟨u,e,Rep.cut hb r⟩
 | .mp id,v,hb,r=>by
  simp only[AV.under,bMi] at hb;simp only[Rep] at r⊢;obtain⟨b,e,r⟩:=r;exact⟨b,by simp only[Env.cut,hb,if_true];exact e,r⟩
 | .vec id m,v,hb,r=>by
  simp only[AV.under,bMi] at hb;simp only[Rep] at r⊢;obtain⟨L,e,r⟩:=r;exact⟨L,by simp only[Env.cut,hb,if_true];exact e,r⟩
 | .junk,v,_,r=>by simp only[Rep]
theorem RepL.cut {E w} {n:Nat} :∀ {xs:List AV} {vs:List Value},AV.underL n xs=true->RepL E w xs vs->RepL (E.cut n) w xs vs
 |[],_,_,r=>by simpa only[RepL] using r
 |x::xs,vs,hb,r=>by
  simp only[AV.underL,bM8] at hb;simp only[RepL] at r⊢;obtain⟨v,us,e,r1,r2⟩:=r;exact⟨v,us,e,Rep.cut hb.1 r1,RepL.cut hb.2 r2⟩
end
theorem aAu (h:Heap)(n id:Nat):Heap.at (h.take n) id=if id<n then h.at id else none:=by
 unfold Heap.at
 by_cases e:id<n
 ·simp[e]
 ·simp[e,bO2]
theorem underL_p (n:Nat):∀(l:List PV),AV.underL n (l.map .p)=true
 |[]=>by simp only[bNb,AV.underL]
 |x::l=>by simp only[bMd,AV.underL,AV.under,underL_p n l];rfl
theorem Rel.cut {E:Env} {h:Heap} {w:World} (r:Rel E h.at w)(n:Nat)(hb:(h.take n).all (AO.under n)=true):
  Rel (E.cut n) (Heap.at (h.take n)) w:=by
 have hat:∀id o,Heap.at (h.take n) id=some o->id<n/\h.at id=some o:=by
  intro id o e;rw[aAu] at e;exact y6b
 have hO:∀id b,fG (E.cut n) (Heap.at (h.take n)) id b->fG E h.at id b:=by
  intro id b ho;rcases ho with ⟨c,h1,h3,h2⟩|⟨c,x,c',k,h1,hk,h2⟩
  ·exact y77
  ·obtain⟨l,h1⟩:=hat _ _ h1;simp only[Env.cut,l,if_true] at h2;exact .inr ⟨c,x,c',k,h1,hk,h2⟩
 refine⟨fun id o hc hn=>?_,fun id o m sz k cs hc hk=>?_,fun i i' b h1 h2=>r.inj i i' b (hO _ _ h1) (hO _ _ h2),fun id o b off hc hn hg=>?_,fun id o m sz k cs b c k' off hc hk hg=>?_,r.lt⟩
 ·obtain⟨l,hc'⟩:=hat _ _ hc;obtain⟨b,hg,ho⟩:=r.objsO id o hc' hn;refine⟨b,by simp only[Env.cut,l,if_true];exact hg,?_⟩;have hlt:=bD hc;have:=bMg.1 hb (h.take n)[id] (bLy hlt)
  have e:(h.take n)[id]=some o:=by
   unfold Heap.at at hc;rw[bLv hlt] at hc;simpa using hc
  rw[e] at this
  cases o with
  |cells cs=>obtain⟨vs,hr,hp⟩:=ho;exact⟨vs,hr,hp.cut this⟩
  |tok _ _=>exact ho.elim
  |vec _ _=>exact ho.elim
  |aux x=>cases x with
   |loop=>obtain⟨e,r,h,h1,h2,h3,h4,h5,h6⟩:=ho;exact⟨e,r,h,h1,h2,h3,h4,h5,h6.cut this⟩
   |dblk=>exact ho
   |map=>exact ho
 ·obtain⟨l,hc'⟩:=hat _ _ hc;obtain⟨blk,cap,ht,h1,h2,h3⟩:=r.toks id o m sz k cs hc' hk
  exact⟨blk,cap,by simp only[Env.cut,l,if_true];exact ht,h1,h2,fun b hb'=>by
   obtain⟨vs,q1,q2,q3⟩:=h3 b hb';refine⟨vs,q1,q2,q3.cut ?_⟩
   cases o with
   |tok=>simp only[AO.tk,bM0,bMf] at hk;obtain⟨_,_,_,rfl⟩:=hk;rfl
   |vec sz es=>
    simp only[AO.tk,bM0,bMf] at hk;obtain⟨_,_,_,rfl⟩:=hk;exact underL_p n _
   |cells=>simp[AO.tk] at hk
   |aux=>simp[AO.tk] at hk⟩
 ·obtain⟨l,hc'⟩:=hat _ _ hc;simp only[Env.cut,l,if_true] at hg;exact r.sepO id o b off hc' hn hg
 ·obtain⟨l,hc'⟩:=hat _ _ hc;simp only[Env.cut,l,if_true] at hg;exact r.sepT id o m sz k cs b c k' off hc' hk hg
open Go
def szT (P:Program)(t:TypeId):Option Nat:=(P.info? t).map (·.size)
def byT (P:Program)(t:TypeId):Option Nat:=(P.info? t).map (·.bytes)
def dW (P:Program)(t:TypeId):Option Bool:=
 match P.underlying t with
 |some (.struct _)|some (.array _ _)=>some true
 |some _=>some false
 |none=>none
def aS (P:Program)(t:TypeId):Option (List Value):=
 match P.info? t with
 |some i=>match i.zero with
  |some z=>if z.cells.size=i.size/\z.cells.toList.all isPrim=true then some z.cells.toList else none
  |none=>none
 |none=>none
def cD (P:Program)(t:TypeId)(f:Nat):Option (Nat×Nat×Bool):=
 match P.underlying t with
 |some (.struct fs)=>match fs[f]? with
  |some fd=>match szT P fd.type,dW P fd.type with
   |some n,some g=>if n=0 then none else some (fd.offset,n,g)
   |_,_=>none
  |none=>none
 |_=>none
def elT (P:Program)(t:TypeId):Option TypeId:=
 match P.underlying t with
 |some (.slice e)=>some e
 |_=>none
def arT (P:Program)(t:TypeId):Option (Nat×TypeId):=
 match P.underlying t with
 |some (.array n e)=>some (n,e)
 |_=>none
section
variable {P:Program} {w:World} {t:TypeId}
theorem run_szT {n:Nat} (h:szT P t=some n):(sizeOf t).run P w= .ok n w:=by
 unfold szT at h
 cases e:P.info? t with
 |none=>simp[e] at h
 |some i=>simp[e] at h;simp[sizeOf,typeInfo,e,h]
theorem gA {b:Bool} (h:dW P t=some b):(isAgg t).run P w= .ok b w:=by
 unfold dW at h
 cases e:P.underlying t with
 |none=>simp[e] at h
 |some d=>cases d<;>simp[e] at h<;>subst h<;>simp[isAgg,underlying,e]
theorem aN {z:List Value} (h:aS P t=some z):∃i v,P.info? t=some i/\i.zero=some v/\v.cells=z.toArray/\z.length=i.size/\∀x∈z,isPrim x=true:=by
 unfold aS at h;split at h
 ·rename_i i e;split at h
  ·rename_i v ev;split at h
   ·rename_i hc;simp only[bM0] at h;subst h;refine⟨i,v,e,ev,by simp,by simpa using hc.1,?_⟩;exact fun x hx=>bMg.1 hc.2 x hx
   ·cases h
  ·cases h
 ·cases h
theorem jU {z:List Value} (h:aS P t=some z):∃v,(zeroValue t).run P w= .ok v w/\v.cells=z.toArray:=by
 obtain⟨i,v,e,ev,hc,_⟩:=aN h;exact⟨v,by simp[zeroValue,typeInfo,e,ev],hc⟩
theorem run_elT {e:TypeId} (h:elT P t=some e):(underlying t).run P w= .ok (.slice e) w:=by
 unfold elT at h;split at h
 ·rename_i x hx;cases h;simp[underlying,hx]
 ·cases h
theorem eZ {e:TypeId} (h:elT P t=some e):P.underlying t=some (.slice e):=by
 unfold elT at h;split at h
 ·rename_i x hx;cases h;exact hx
 ·cases h
theorem aOa {n:Nat} {e:TypeId} (h:arT P t=some (n,e)):P.underlying t=some (.array n e):=by
 unfold arT at h;split at h
 ·rename_i x hx;cases h;assumption
 ·cases h
end
def prims (l:List Value):List AV:=l.map fun v=> .p (.prim v)
theorem prims_rep {E w} {l:List Value} (h:∀v∈l,isPrim v=true):RepL E w (prims l) l:=RepL.prims l h
def Good (P:Program)(s:Sem Value)(E:Env)(h:Heap)(w:World)(x:AV)(h':Heap):Prop:=
 ∃E' w' v,s.run P w= .ok v w'/\Rel E' (Heap.at h') w'/\Fresh E' h'.length/\Rep E' w' x v/\Fr E (Heap.at h) w E' (Heap.at h') w'
section
variable {P:Program} {E:Env} {h h':Heap} {w:World}
def cU:AV->Option (List AV)
 | .agg cs=>some cs
 | .tup _| .junk=>none
 |x=>some [x]
def lI:AV->Bool
 | .agg _| .tup _| .junk=>false
 |_=>true
theorem aH6 {v:Value} (h:isPrim v=true):v.oneCell'=true:=by
 cases v<;>first|rfl|(simp[isPrim] at h)
theorem RepP.one:∀ {x:PV} {v:Value},RepP E w x v->v.oneCell'=true
 | .prim _,_,r=>by simp only[RepP] at r;obtain⟨rfl,r⟩:=r;exact aH6 r
 | .sl _ _,_,r=>by simp only[RepP] at r;obtain⟨_,_,rfl,_⟩:=r;rfl
 | .ro _,_,r=>by simp only[RepP] at r;obtain⟨_,_,rfl,_⟩:=r;rfl
 | .ifc _ _,_,r=>by simp only[RepP] at r;obtain⟨_,rfl,_⟩:=r;rfl
theorem Rep.one {x:AV} {v:Value} (hx:lI x=true)(r:Rep E w x v):v.oneCell'=true:=by
 cases x with
 |p x=>simp only[Rep] at r;exact r.one
 |agg _=>simp[lI] at hx
 |tup _=>simp[lI] at hx
 |junk=>simp[lI] at hx
 |ptr _ _=>simp only[Rep] at r;obtain⟨_,_,rfl⟩:=r;rfl
 |sm _ _ _ _ _=>simp only[Rep] at r;obtain⟨_,_,rfl⟩:=r;rfl
 |own _ _ _=>simp only[Rep] at r;obtain⟨_,_,_,_,_,rfl,_⟩:=r;rfl
 |fn _ _ _=>simp only[Rep] at r;obtain⟨_,_,rfl,_⟩:=r;rfl
 |ifc _ _=>simp only[Rep] at r;obtain⟨_,rfl,_⟩:=r;rfl
 |mp _=>simp only[Rep] at r;obtain⟨_,_,rfl⟩:=r;rfl
 |vec _ _=>simp only[Rep] at r;obtain⟨_,_,_,_,_,rfl,_⟩:=r;rfl
theorem xM {v:Value} (h:v.oneCell'=true):v.cells=#[v]:=by cases v<;>first|rfl|(simp[Value.oneCell'] at h)
theorem gN {x:AV} {cs:List AV} {v:Value} (hc:cU x=some cs)(r:Rep E w x v):∃vs,v.cells=List.toArray vs/\RepL E w cs vs:=by
 by_cases ho:lI x=true
 ·have e:cs=[x]:=by cases x<;>simp[cU,lI] at hc ho<;>exact hc.symm
  subst e;refine⟨[v],by rw[xM (r.one ho)],?_⟩;simp only[RepL];exact⟨v,[],rfl,r,rfl⟩
 ·cases x with
  |agg l=>
   simp only[cU,bM0] at hc;subst hc;simp only[Rep] at r;obtain⟨vs,rfl,r⟩:=r;exact⟨vs,rfl,r⟩
  |tup _=>simp[cU] at hc
  |junk=>simp[cU] at hc
  |_=>simp[lI] at ho
theorem RepL.one_all:∀ {xs:List AV} {vs:List Value},xs.all lI=true->RepL E w xs vs->∀v∈vs,v.oneCell'=true
 |[],vs,_,r,v,hv=>by simp only[RepL] at r;subst r;cases hv
 |x::xs,vs,ho,r,v,hv=>by
  simp only[RepL] at r;obtain⟨u,us,rfl,r1,r2⟩:=r;simp only[List.all_cons,bM8] at ho
  cases bMh.1 hv with
  |inl e=>subst e;exact r1.one ho.1
  |inr e=>exact RepL.one_all ho.2 r2 v e
def patch {α:Type} (l:List α)(off:Nat):List α->List α
 |[]=>l
 |u::us=>patch (l.set off u) (off+1) us
theorem aRe (us:List Value):∀(l:List Value)(off:Nat),off+us.length<=l.length->patch l off us=l.take off++us++l.drop (off+us.length):=by
 induction us with
 |nil=>intro l off _;simp[patch]
 |cons u us ih=>
  intro l off hl;simp only[bM2] at hl;rw[patch,ih _ _ (by simp;omega)];rw[show off+1+us.length=off+(us.length+1) by omega];have e:=list_seg_step l off u us aB;simp only[bMj,bM2,bLz] at e⊢;rw[<-e];simp[show off+1+us.length=off+(us.length+1) by omega]
theorem patch_length {α:Type} (us:List α):∀(l:List α)(off:Nat),(patch l off us).length=l.length:=by
 induction us with
 |nil=>intro l off;rfl
 |cons u us ih=>intro l off;rw[patch,ih];simp
theorem RepL.patch:∀ {us:List AV} {ns:List Value} {xs:List AV} {vs:List Value} (off:Nat),RepL E w us ns->RepL E w xs vs->RepL E w (AI.patch xs off us) (AI.patch vs off ns)
 |[],ns,xs,vs,off,r,s=>by simp only[RepL] at r;subst r;exact s
 |u::us,ns,xs,vs,off,r,s=>by
  simp only[RepL] at r;obtain⟨v,ns',rfl,r1,r2⟩:=r;simp only[AI.patch];exact RepL.patch (off+1) r2 (s.set r1 off)
theorem addr_add (b off n:Nat):(⟨b,off,none⟩:Addr).add n=⟨b,off+n,none⟩:=by unfold Addr.add;split<;>simp_all
theorem rM {b off:Nat} {vs us:List Value} (hr:Row w b vs)(hl:off+us.length<=vs.length)(h1:∀v∈us,v.oneCell'=true):
  ∃w',(storeCells ⟨b,off,none⟩ us).run P w= .ok () w'/\Row w' b (patch vs off us)/\(∀b',b'≠b->w'.heap[b']?=w.heap[b']?)/\w'.heap.size=w.heap.size/\w'.os=w.os/\w'.output=w.output:=by
 obtain⟨T,hg⟩:=hr;have:=run_storeCells_at P b off T us 0 vs.toArray w hg (by simpa using hl) h1;refine⟨_,this,⟨T,?_⟩,?_,?_,rfl,rfl⟩
 ·rw[setRow_heap w b _ _ T _ hg];simp[aRe us vs off hl]
 ·intro b' hne;simp[World.setRow,Array.getElem?_modify,Ne.symm hne]
 ·simp[World.setRow]
theorem aQs {b off n:Nat} {vs:List Value} (hr:Row w b vs)(hl:off+n<=vs.length):(loadCells ⟨b,off,none⟩ n).run P w= .ok (List.toArray ((vs.drop off).take n)) w:=by
 have e:((vs.drop off).take n).length=n:=by simp;omega
 have:=run_loadCells_list (P:=P) w ⟨b,off,none⟩ ((vs.drop off).take n) (fun j v hj=>by
  rw[addr_add,hr.cell];rw[bO2] at hj;split at hj
  ·rw[List.getElem?_drop] at hj;exact hj
  ·cases hj)
 rw[e] at this;exact this
theorem RepAt.get {b:Nat} :∀ {cs:List PV} {off i:Nat} {x:PV},RepAt E w b off cs->cs[i]?=some x->∃v,E.ro b (off+i)/\w.cell? ⟨b,off+i,none⟩=some v/\RepP E w x v
 |[],_,_,_,_,hi=>by simp at hi
 |c::cs,off,i,x,r,hi=>by
  simp only[RepAt] at r;obtain⟨v,h1,h2,h3,h4⟩:=r
  cases i with
  |zero=>simp at hi;subst hi;exact⟨v,h1,h2,h3⟩
  |succ i=>
   simp at hi;obtain⟨v,k1,k2,k3⟩:=RepAt.get h4 hi;rw[show off+1+i=off+(i+1) by omega] at k1 k2;exact⟨v,k1,k2,k3⟩
theorem RepAt.drop {b:Nat} :∀ {cs:List PV} {off:Nat} (i:Nat),RepAt E w b off cs->i<=cs.length->RepAt E w b (off+i) (cs.drop i)
 |cs,off,0,r,_=>by simpa using r
 |[],off,i+1,_,hl=>by simp at hl
 |c::cs,off,i+1,r,hl=>by
  simp only[RepAt] at r;obtain⟨v,h1,h2,h3,h4⟩:=r;have:=RepAt.drop i h4 (by simpa using hl);rw[show off+1+i=off+(i+1) by omega] at this;simpa using this
theorem RepAt.values {b:Nat} :∀ {cs:List PV} {off:Nat},RepAt E w b off cs->∃vs:List Value,vs.length=cs.length/\(∀j v,vs[j]?=some v->w.cell? ⟨b,off+j,none⟩=some v)/\RepL E w (cs.map .p) vs
 |[],off,_=>⟨[],rfl,by simp,by simp[RepL]⟩
 |c::cs,off,r=>by
  simp only[RepAt] at r;obtain⟨v,_,h2,h3,h4⟩:=r;obtain⟨vs,e1,e2,e3⟩:=RepAt.values h4;refine⟨v::vs,by simp[e1],?_,?_⟩
  ·intro j u hj
   cases j with
   |zero=>simp at hj;subst hj;exact h2
   |succ j=>simp at hj;have:=e2 j u hj;rwa [show off+1+j=off+(j+1) by omega] at this
  ·simp only[bMd,RepL];exact⟨v,vs,rfl,by simp only[Rep];exact h3,e3⟩
theorem RepAt.load {b off n:Nat} {cs:List PV} (r:RepAt E w b off cs)(hl:n<=cs.length):
  ∃vs,(loadCells ⟨b,off,none⟩ n).run P w= .ok (List.toArray vs) w/\RepL E w ((cs.take n).map .p) vs:=by
 obtain⟨vs,e1,e2,e3⟩:=r.values;have hn:(vs.take n).length=n:=by simp[e1,hl]
 have:=run_loadCells_list (P:=P) w ⟨b,off,none⟩ (vs.take n) (fun j v hj=>by
  rw[addr_add];rw[bO2] at hj;split at hj
  ·exact e2 j v hj
  ·cases hj)
 rw[hn] at this;exact⟨_,this,by have:=e3.take n;rwa [<-List.map_take] at this⟩
theorem RepEs.length {b sz:Nat} :∀ {es:List (List PV)} {off:Nat},RepEs E w b sz off es->∀e∈es,e.length=sz
 |[],_,_,e,he=>by cases he
 |x::xs,off,r,e,he=>by
  simp only[RepEs] at r
  cases bMh.1 he with
  |inl h=>subst h;exact r.1
  |inr h=>exact RepEs.length r.2.2 e h
theorem RepEs.get {b sz:Nat} :∀ {es:List (List PV)} {off i:Nat} {e:List PV},RepEs E w b sz off es->es[i]?=some e->RepAt E w b (off+i*sz) e
 |[],_,_,_,_,hi=>by simp at hi
 |x::xs,off,i,e,r,hi=>by
  simp only[RepEs] at r
  cases i with
  |zero=>simp at hi;subst hi;simpa using r.2.1
  |succ i=>
   simp at hi;have:=RepEs.get r.2.2 hi
   rwa [show off+sz+i*sz=off+(i+1)*sz by rw[bOm];omega] at this
theorem RepEs.drop {b sz:Nat} :∀ {es:List (List PV)} {off:Nat} (i:Nat),RepEs E w b sz off es->i<=es.length->RepEs E w b sz (off+i*sz) (es.drop i)
 |es,off,0,r,_=>by simpa using r
 |[],_,i+1,_,hl=>by simp at hl
 |x::xs,off,i+1,r,hl=>by
  simp only[RepEs] at r;have:=RepEs.drop i r.2.2 (by simpa using hl);rw[show off+sz+i*sz=off+(i+1)*sz by rw[bOm];omega] at this;simpa using this
theorem RepEs.take {b sz:Nat} :∀ {es:List (List PV)} {off:Nat} (i:Nat),RepEs E w b sz off es->RepEs E w b sz off (es.take i)
 |es,off,0,_=>by simp[RepEs]
 |[],_,i+1,_=>by simp[RepEs]
 |x::xs,off,i+1,r=>by
  simp only[RepEs] at r;simp only[bMv,RepEs];exact⟨r.1,r.2.1,RepEs.take i r.2.2⟩
theorem RepAt.append {b:Nat} :∀ {cs ds:List PV} {off:Nat},RepAt E w b off cs->RepAt E w b (off+cs.length) ds->RepAt E w b off (cs++ds)
 |[],ds,off,_,s=>by simpa using s
 |c::cs,ds,off,r,s=>by
  simp only[RepAt] at r;obtain⟨v,h1,h2,h3,h4⟩:=r;simp only[bLz,RepAt];refine⟨v,h1,h2,h3,RepAt.append h4 ?_⟩;rw[show off+1+cs.length=off+(c::cs).length by simp;omega];exact s
theorem RepEs.flat {b sz:Nat} :∀ {es:List (List PV)} {off:Nat},RepEs E w b sz off es->RepAt E w b off es.flatten
 |[],_,_=>by simp[RepAt]
 |x::xs,off,r=>by
  simp only[RepEs] at r;simp only[bNa];refine RepAt.append r.2.1 ?_;rw[r.1];exact RepEs.flat r.2.2
theorem flat_length {sz:Nat} :∀ {es:List (List PV)},(∀e∈es,e.length=sz)->es.flatten.length=es.length*sz
 |[],_=>by simp
 |x::xs,h=>by
  rw[bNa,bM5,flat_length (fun e he=>h e (by simp[he])),h x aA,bM2,bOm];omega
theorem RepEs.of_row {b sz:Nat} :∀ {es:List (List PV)} {off:Nat} {vs:List Value},(∀e∈es,e.length=sz)->(∀j v,vs[j]?=some v->E.ro b (off+j)/\w.cell? ⟨b,off+j,none⟩=some v)->
  RepL E w (es.flatten.map .p) vs->RepEs E w b sz off es
 |[],_,_,_,_,_=>by simp[RepEs]
 |x::xs,off,vs,hl,hv,r=>by
  have hx:=hl x aA
  have atOf:∀(cs:List PV) (off:Nat) (us:List Value),(∀j v,us[j]?=some v->E.ro b (off+j)/\w.cell? ⟨b,off+j,none⟩=some v)->RepL E w (cs.map .p) us->RepAt E w b off cs:=by
   intro cs
   induction cs with
   |nil=>intro off us _ _;simp[RepAt]
   |cons c cs ih=>
    intro off us hu ru;simp only[bMd,RepL] at ru;obtain⟨v,us',rfl,r1,r2⟩:=ru;simp only[Rep] at r1;simp only[RepAt];have h0:=hu 0 v aA;refine⟨v,by simpa using h0.1,by simpa using h0.2,r1,ih (off+1) us' (fun j u hj=>?_) r2⟩;have:=hu (j+1) u (by simpa using hj)
    rwa [show off+(j+1)=off+1+j by omega] at this
  simp only[RepEs];rw[bNa,bMy] at r;have r1:=r.take x.length;have r2:=r.drop x.length;simp only[List.take_append,List.drop_append,bMp,Nat.sub_self,bOd,bM1,List.drop_zero] at r1 r2;rw[bM7 aA] at r1;rw[List.drop_eq_nil_of_le aA,bM4] at r2;refine⟨hx,atOf x off _ (fun j v hj=>?_) r1,RepEs.of_row (fun e he=>hl e (by simp[he])) (fun j v hj=>?_) r2⟩
  ·rw[bO2] at hj;split at hj
   ·exact hv j v hj
   ·cases hj
  ·rw[List.getElem?_drop] at hj;have:=hv _ v hj;rw[hx] at this
   rwa [show off+(sz+j)=off+sz+j by omega] at this
end
end Go.AI
namespace Go.AI
open Go
def stT (P:Program)(t:TypeId):Option (List (Nat×Nat)):=
 match P.underlying t with
 |some (.struct fs)=>fs.toList.mapM fun f=>(szT P f.type).map fun n=>(f.offset,n)
 |some (.array n e)=>(szT P e).map fun s=>(List.range n).map fun i=>(i*s,s)
 |_=>none
def sK (pl:List (Nat×Nat))(cells:List AV):List (Nat×AV)->Option (List AV)
 |[]=>some cells
 |(i,x)::rest=>
  match pl[i]?,cU x with
  |some (off,n),some us=>if us.length=n/\off+n<=cells.length then sK pl (patch cells off us) rest else none
  |_,_=>none
def pJ (P:Program)(t:TypeId)(parts:List (Nat×AV)):Option AV:=
 match aS P t,stT P t with
 |some z,some pl=>(sK pl (prims z) parts).map .agg
 |_,_=>none
def rQ:AV->Option PV
 | .p x=>some x
 | .own _ sz es=>some (.sl sz es)
 | .ifc t x=>match rQ x with
  |some y=>some (.ifc t y)
  |none=>none
 |_=>none
def nS:List AV->Option (List PV)
 |[]=>some []
 |x::xs=>match rQ x,nS xs with
  |some y,some ys=>some (y::ys)
  |_,_=>none
def kJ (sz:Nat)(es:List (List PV)):List (Nat×AV)->Option (List (List PV))
 |[]=>some es
 |(i,x)::rest=>
  match (cU x).bind nS with
  |some us=>if us.length=sz/\i<es.length then kJ sz (es.set i us) rest else none
  |none=>none
def eW (P:Program)(t:TypeId)(len:Nat)(parts:List (Nat×AV)):Option AV:=
 match elT P t with
 |some e=>match szT P e,aS P e with
  |some sz,some z=>if len*sz<=16777216/\0<sz then(kJ sz (List.replicate len (z.map .prim)) parts).map fun es=> .p (.sl sz es) else none
  |_,_=>none
 |none=>none
def aAt (P:Program)(t:TypeId)(a:AV)(h:Heap):Option AV:=
 match dW P t,szT P t with
 |some ag,some n=>match a with
  | .ptr id off=>match h.at id with
   |some (.cells cs)=>if ag then(if off+n<=cs.length then some (.agg ((cs.drop off).take n)) else none) else cs[off]?
   |_=>none
  | .p (.ro cs)=>if ag then(if n<=cs.length then some (.agg ((cs.take n).map .p)) else none) else(cs[0]?).map .p
  |_=>none
 |_,_=>none
def sZ (P:Program)(t:TypeId)(a v:AV)(h:Heap):Option Heap:=
 match a with
 | .ptr id off=>match h.at id,cU v with
  |some (.cells cs),some us=>if szT P t=some us.length/\off+us.length<=cs.length/\us.all lI=true then some (h.set id (some (.cells (patch cs off us)))) else none
  |_,_=>none
 |_=>none
def dZ (P:Program)(t:TypeId)(x:AV)(f:Nat):Option AV:=
 match cD P t f with
 |some (fo,_,_)=>match x with
  | .ptr id off=>some (.ptr id (off+fo))
  | .p (.ro cs)=>if fo<=cs.length then some (.p (.ro (cs.drop fo))) else none
  |_=>none
 |none=>none
def pK (P:Program)(t:TypeId)(x:AV)(f:Nat):Option AV:=
 match cD P t f with
 |some (fo,n,ag)=>match x with
  | .agg cs=>if ag then some (.agg ((cs.drop fo).take n)) else cs[fo]?
  |_=>none
 |none=>none
def sG:AV->Option Int
 | .p (.prim (.int _ n))=>some n
 |_=>none
def eA (P:Program)(t:TypeId)(x i:AV):Option AV:=
 match sG i with
 |some n=>if n<0 then none else
  match elT P t with
  |some e=>match szT P e with
   |some sz=>match x with
    | .p (.sl s es)| .own _ s es=>if s=sz then(es[n.toNat]?).map fun e=> .p (.ro e) else none
    | .sm id off len _ s=>if s=sz/\n<len then some (.ptr id (off+n.toNat*sz)) else none
    |_=>none
   |none=>none
  |none=>match arT P t with
   |some (m,e)=>match szT P e with
    |some sz=>match x with
     | .ptr id off=>if n<m then some (.ptr id (off+n.toNat*sz)) else none
     | .p (.ro cs)=>if n<m/\n.toNat*sz<=cs.length then some (.p (.ro (cs.drop (n.toNat*sz)))) else none
     |_=>none
    |none=>none
   |none=>none
 |none=>none
def bGb (P:Program)(t:TypeId):Bool:=match P.underlying t with|some .string=>true|_=>false
def aPe (P:Program)(t:TypeId):Bool:=match P.underlying t with|some .bool=>true|_=>false
theorem aSh {P:Program} {t:TypeId} (h:bGb P t=true):P.underlying t=some .string:=by
 unfold bGb at h;split at h
 ·assumption
 ·cases h
theorem aOb {P:Program} {t:TypeId} (h:aPe P t=true):P.underlying t=some .bool:=by
 unfold aPe at h;split at h
 ·assumption
 ·cases h
def pL (P:Program)(t:TypeId)(x i:AV):Option AV:=
 match sG i with
 |some n=>if n<0 then none else
  match x with
  | .p (.prim (.string s))=>if bGb P t=true then(s.data[n.toNat]?).map fun b=> .p (.prim (.int .u8 b.toNat)) else none
  | .agg cs=>match arT P t with
   |some (m,e)=>match szT P e,dW P e with
    |some sz,some ag=>if n<m then(if ag then some (.agg ((cs.drop (n.toNat*sz)).take sz)) else cs[n.toNat*sz]?) else none
    |_,_=>none
   |none=>none
  |_=>none
 |none=>none
def aXw (op:BinOp):Value->Value->Option Value
 | .int k a, .int k' b=>if k=k' then
   match op with
   | .add=>some (.int k (k.wrap (a+b)))
   | .sub=>some (.int k (k.wrap (a-b)))
   | .mul=>some (.int k (k.wrap (a*b)))
   | .eql=>some (.bool (a==b))
   | .neq=>some (.bool (a !=b))
   | .lss=>some (.bool (decide (a<b)))
   | .leq=>some (.bool (decide (a<=b)))
   | .gtr=>some (.bool (decide (b<a)))
   | .geq=>some (.bool (decide (b<=a)))
   | .rem=>if b=0 then none else some (.int k (a.tmod b))
   | .quo=>if b=0 then none else some (.int k (k.wrap (a.tdiv b)))
   | .and=>some (.int k (k.wrap (BitVec.ofInt k.bits a&&& BitVec.ofInt k.bits b).toNat))
   | .shr=>if b<0 then none else some (.int k (a.fdiv (2^(min b.toNat k.bits))))
   |_=>none
  else if op= .shr/\0<=b then some (.int k (a.fdiv (2^(min b.toNat k.bits)))) else none
 | .string a, .string b=>
   match op with
   | .eql=>some (.bool (a.toList==b.toList))
   | .neq=>some (.bool (!(a.toList==b.toList)))
   | .add=>if a.size+b.size<=9223372036854775807 then some (.string (a++b)) else none
   |_=>none
 |_,_=>none
def aHg (P:Program)(t:TypeId):Bool:=
 match P.underlying t with
 | some (.struct ⟨[f0,f1]⟩)=>f0.name != "_" && f1.name != "_" && f0.offset==0&& f1.offset==1&& (dW P f0.type==some false)&& (dW P f1.type==some false)&&
   (match P.underlying f0.type,P.underlying f1.type with|some (.int _),some (.int _)=>true|_,_=>false)&& !P.stoodInHeld t&& !P.eqGuardType P.depth t
 |_=>false
def abin (P:Program)(op:BinOp)(t:TypeId)(x y:AV):Option AV:=
 match x,y with
 | .p (.prim (.bool a)), .p (.prim (.bool b))=>
  if aPe P t=true then
   match op with
   | .eql=>some (.p (.prim (.bool (a==b))))
   | .neq=>some (.p (.prim (.bool (!(a==b)))))
   |_=>none
  else none
 | .p (.prim a), .p (.prim b)=>(aXw op a b).map fun v=> .p (.prim v)
 | .agg [.p (.prim (.int k a)), .p (.prim (.int k2 b))], .agg [.p (.prim (.int k' a')), .p (.prim (.int k2' b'))]=>
  if aHg P t=true/\k=k'/\k2=k2' then
   match op with
   | .eql=>some (.p (.prim (.bool (a==a'&& b==b'))))
   | .neq=>some (.p (.prim (.bool (!(a==a'&& b==b')))))
   |_=>none
  else none
 |_,_=>none
def aun (op:UnOp)(x:AV):Option AV:=
 match op,x with
 | .not, .p (.prim (.bool b))=>some (.p (.prim (.bool !b)))
 | .neg, .p (.prim (.int k n))=>some (.p (.prim (.int k (k.wrap (0-n)))))
 |_,_=>none
def xB (P:Program)(s d:TypeId)(x:AV):Option AV:=
 match P.underlying s,P.underlying d,x with
 |some _,some (.int k), .p (.prim (.int _ n))=>some (.p (.prim (.int k (k.wrap n))))
 |_,_,_=>none
def qS:AV->Bool
 | .ptr _ _| .p (.ro _)=>true
 |_=>false
def aU5 (t:TypeId):AV->AV
 | .p x=> .p (.ifc t x)
 |x=> .ifc t x
def aTj:AV->Option Nat
 | .p (.prim (.string s))=>some s.size
 | .p (.prim (.slice none 0 0))=>some 0
 | .p (.sl _ es)=>some es.length
 | .own _ _ es=>some es.length
 | .sm _ _ n _ _=>some n
 |_=>none
def aT8 (P:Program)(t:TypeId)(x:AV):Option AV:=
 match P.underlying t,x with
 |some .string, .p (.prim (.string s))=>some (.p (.prim (.int .i64 s.size)))
 |some (.slice _), .p (.prim (.slice none 0 0))=>some (.p (.prim (.int .i64 0)))
 |some (.slice _), .p (.sl _ es)=>some (.p (.prim (.int .i64 es.length)))
 |some (.slice _), .own _ _ es=>some (.p (.prim (.int .i64 es.length)))
 |some (.slice _), .sm _ _ n _ _=>some (.p (.prim (.int .i64 n)))
 |_,_=>none
def sI:AV->Option (List (List PV))
 | .p (.prim (.slice none 0 0))=>some []
 | .p (.sl _ es)=>some es
 | .own _ _ es=>some es
 |_=>none
def srcSz (sz:Nat):AV->Bool
 | .p (.prim (.slice none 0 0))=>true
 | .p (.sl s _)=>s==sz
 | .own _ s _=>s==sz
 |_=>false
def mS (P:Program)(t:TypeId)(s x:AV)(h:Heap):Option (AV×Heap):=
 match elT P t with
 |some e=>match szT P e,byT P e,aS P e,sI x with
  | some sz,some by_,some _,some ys=>if srcSz sz x=true/\0<sz then
    match s with
    | .p (.prim (.slice none 0 0))=>if ys.length*by_<=140737488355328/\ys.length<=9223372036854775807 then some (.own h.length sz ys,h++[some (.tok ys.length sz)]) else none
    | .own tok s' es=>match h.at tok with
     | some (.tok n s2)=>if s'=sz/\s2=sz/\n=es.length/\(es.length+ys.length)*by_<=140737488355328/\es.length+ys.length<=9223372036854775807 then
       some (.own tok sz (es++ys),h.set tok (some (.tok (es.length+ys.length) sz))) else none
     |_=>none
    | .vec id n=>match h.at id with
     | some (.vec s2 es)=>if s2=sz/\n=es.length/\0<ys.length/\es.all (fun e=>e.length==sz)=true/\(es.length+ys.length)*by_<=140737488355328/\es.length+ys.length<=9223372036854775807 then
       some (.vec id (es.length+ys.length),h.set id (some (.vec sz (es++ys)))) else none
     |_=>none
    |_=>none
   else none
  |_,_,_,_=>none
 |none=>none
def aH4:List AV->Option (List PV)
 |[]=>some []
 | .p x::l=>(aH4 l).map (x::·)
 |_=>none
theorem vI:∀ {l:List AV} {r:List PV},aH4 l=some r->l=r.map .p
 |[],r,e=>by simp only[aH4,bM0] at e;subst e;rfl
 |a::l,r,e=>by
  cases a<;>simp only[aH4,bMb] at e<;>try (cases e;done)
  obtain⟨r',e',rfl⟩:=e;simp[vI e']
def gC (h:Heap)(sz k:Nat)(x:AV):Option (List PV):=match x with
 | .sm id off len _ s=>if s=sz/\k<=len then match h.at id with
  |some (.cells cs)=>match aH4 ((cs.drop off).take (k*sz)) with
   |some l=>if l.length=k*sz then some l else none
   |none=>none
  |_=>none
  else none
 |x=>match sI x with
  |some ys=>if srcSz sz x=true/\k<=ys.length then some (ys.take k).flatten else none
  |none=>none
def aX7 (h:Heap)(id off:Nat)(l:List PV):Option Heap:=match h.at id with
 |some (.cells cs)=>if off+l.length<=cs.length then some (h.set id (some (.cells (patch cs off (l.map .p))))) else none
 |_=>none
def aFo (P:Program)(t:TypeId)(d x:AV)(h:Heap):Option (AV×Heap):=
 match elT P t with
 |some e=>match szT P e with
  |some sz=>match d,aTj x with
   | .sm id off n _ s,some m=>if s=sz then match gC h sz (Nat.min m n) x with
    |some l=>(aX7 h id off l).map fun h'=>(.p (.prim (.int .i64 (Nat.min m n:Nat))),h')
    |none=>none
    else none
   |_,_=>none
  |none=>none
 |none=>none
def sX (P:Program)(t:TypeId)(d:AV)(h:Heap):Option (AV×Heap):=
 match elT P t with
 |some e=>match szT P e,aS P e with
  |some sz,some z=>match d with
   | .sm id off n _ s=>if s=sz/\0<n then(aX7 h id off (List.replicate n (z.map .prim)).flatten).map fun h'=>(.tup [],h') else none
   |_=>none
  |_,_=>none
 |none=>none
def aP6 (P:Program)(t:TypeId)(d x:AV)(h:Heap):Option (AV×Heap):=
 match elT P t with
 |some e=>match szT P e with
  |some sz=>match d,x with
   | .sm id 0 n cap s, .sm _ _ m _ _=>if s=sz/\n+m<=cap then match gC h sz m x with
    |some l=>(aX7 h id (n*sz) l).map fun h'=>(.sm id 0 (n+m) cap sz,h')
    |none=>none
    else none
   |_,_=>none
  |none=>none
 |none=>none
def abuiltin (P:Program)(b:Builtin)(types:Array TypeId)(args:List AV)(h:Heap):Option (AV×Heap):=
 match b,types.toList,args with
 | .len,[t],[x]=>(aT8 P t x).map fun v=>(v,h)
 | .max,_,[.p (.prim (.int k a)), .p (.prim (.int _ b))]=>some (.p (.prim (.int k (if a<b then b else a))),h)
 | .min,_,[.p (.prim (.int k a)), .p (.prim (.int _ b))]=>some (.p (.prim (.int k (if b<a then b else a))),h)
 | .append,[t,t'],[.sm a b c d e,x]=>if t=t' then aP6 P t (.sm a b c d e) x h else none
 | .append,[t,t'],[s,x]=>if t=t' then mS P t s x h else none
 | .copy,[t,_],[d,x]=>aFo P t d x h
 | .clear,[t],[d]=>sX P t d h
 |_,_,_=>none
def aFr (P:Program)(t:TypeId)(l c:AV)(h:Heap):Option (AV×Heap):=
 match elT P t,sG l,sG c with
 |some e,some n,some m=>match szT P e,byT P e,aS P e with
  | some sz,some by_,some z=>if 0<=n/\n=m/\n.toNat*by_<=140737488355328/\n.toNat<=1099511627776/\0<sz then
    some (.sm h.length 0 n.toNat n.toNat sz,h++[some (.cells (List.replicate n.toNat (prims z)).flatten)]) else none
  |_,_,_=>none
 |_,_,_=>none
def loA:Option AV->Option Int
 |none=>some 0
 |some v=>sG v
def hiA (n:Nat):Option AV->Option Int
 |none=>some n
 |some v=>sG v
def maA (n:Nat):Option AV->Option Int
 |none=>some n
 |some v=>sG v
def aslice (P:Program)(t:TypeId)(x:AV)(lo hi mx:Option AV):Option AV:=
 match elT P t with
 |some e=>match szT P e with
  |some sz=>match x with
   | .p (.prim (.slice none 0 0))=>
    match loA lo,hiA 0 hi with
    |some l,some u=>if mx.isNone=true/\l=0/\u=0 then some (.p (.prim (.slice none 0 0))) else none
    |_,_=>none
   | .p (.sl s es)| .own _ s es=>
    match loA lo,hiA es.length hi,maA es.length mx with
    |some l,some u,some m=>if s=sz/\0<=l/\l<=u/\u<=m/\m<=es.length/\(mx.isNone||hi.isSome)=true then some (.p (.sl sz ((es.take u.toNat).drop l.toNat))) else none
    |_,_,_=>none
   | .sm id off len cap s=>
    match loA lo,hiA len hi,maA cap mx with
    |some l,some u,some m=>if s=sz/\0<=l/\l<=u/\u<=m/\m<=cap/\(mx.isNone||hi.isSome)=true then some (.sm id (if m.toNat=l.toNat then off else off+l.toNat*sz) (u.toNat-l.toNat) (m.toNat-l.toNat) sz) else none
    |_,_,_=>none
   |_=>none
  |none=>none
 |none=>none
def aU9 (P:Program)(op:BinOp)(t:TypeId)(x:AV):Option AV:=
 match P.underlying t with
 |some (.interface _)=>
  match op,x with
  | .eql, .p (.prim .nilIface)=>some (.p (.prim (.bool true)))
  | .neq, .p (.prim .nilIface)=>some (.p (.prim (.bool false)))
  | .eql, .p (.ifc _ _)| .eql, .ifc _ _=>some (.p (.prim (.bool false)))
  | .neq, .p (.ifc _ _)| .neq, .ifc _ _=>some (.p (.prim (.bool true)))
  |_,_=>none
 |_=>none
def gP:Operand->Bool
 | .const .nilIface=>true
 |_=>false
def hK (P:Program)(asserted:TypeId)(x:AV):Option AV:=
 match P.underlying asserted with
 |some (.interface _)=>none
 |some _=>match x with
  | .p (.ifc t y)=>if t=asserted then some (.tup [.p y, .p (.prim (.bool true))]) else none
  |_=>none
 |none=>none
abbrev ikv (x:Int×Int):Value×Value:=(.int .i64 x.1, .int .i64 x.2)
def aQp:List (Value×Value)->Option (List (Int×Int))
 |[]=>some []
 |(.int .i64 a, .int .i64 b)::l=>(aQp l).map fun m=>(a,b)::m
 |_=>none
def lkI:List (Int×Int)->Int->Option Int
 |[],_=>none
 |x::m,i=>if x.1=i then some x.2 else lkI m i
def aP2:List (Int×Int)->Int->Int->List (Int×Int)
 |[],i,v=>[(i,v)]
 |x::m,i,v=>if x.1=i then(i,v)::m else x::aP2 m i v
def tP (P:Program)(t:TypeId):Bool:=match P.underlying t with
 |some (.map kt et)=>(match P.underlying kt with|some (.int .i64)=>true|_=>false)&& (match P.info? et with|some i=>(match i.zero with|some (.int .i64 0)=>true|_=>false)|none=>false)
 |_=>false
def uT (P:Program)(t:TypeId)(m ix:AV)(ok:Bool)(h:Heap):Option AV:=
 if tP P t then match m,ix with
  | .mp id, .p (.prim (.int .i64 n))=>match h.at id with
   |some (.aux (.map kvs))=>(aQp kvs).map fun om=>if ok then .tup [.p (.prim (.int .i64 ((lkI om n).getD 0))), .p (.prim (.bool (lkI om n).isSome))] else .p (.prim (.int .i64 ((lkI om n).getD 0)))
   |_=>none
  |_,_=>none
 else none
def mT (P:Program)(t:TypeId)(m ix x:AV)(h:Heap):Option Heap:=
 if tP P t then match m,ix,x with
  | .mp id, .p (.prim (.int .i64 n)), .p (.prim (.int .i64 v))=>match h.at id with
   |some (.aux (.map kvs))=>(aQp kvs).map fun om=>h.set id (some (.aux (.map ((aP2 om n v).map ikv))))
   |_=>none
  |_,_,_=>none
 else none
def aop (P:Program)(ρ:Operand->AV)(h:Heap):Op->Option (AV×Heap)
 | .move x=>some (ρ x,h)
 | .assign x=>some (ρ x,h)
 | .pick c a b=>match ρ c with
  | .p (.prim (.bool t))=>some (if t then ρ a else ρ b,h)
  |_=>none
 | .alloc t=>match aS P t with
  |some z=>some (.ptr h.length 0,h++[some (.cells (prims z))])
  |none=>none
 | .box _ x=>match cU (ρ x) with
  |some cs=>some (.ptr h.length 0,h++[some (.cells cs)])
  |none=>none
 | .build t parts=>(pJ P t (parts.toList.map fun p=>(p.1,ρ p.2))).map fun v=>(v,h)
 | .buildSlice t len parts=>(eW P t len (parts.toList.map fun p=>(p.1,ρ p.2))).map fun v=>(v,h)
 | .load t a=>(aAt P t (ρ a) h).map fun v=>(v,h)
 | .store t a x=>(sZ P t (ρ a) (ρ x) h).map fun h'=>(.tup [],h')
 | .lookup t m i ok=>(uT P t (ρ m) (ρ i) ok h).map fun v=>(v,h)
 | .mapUpdate t m i x=>(mT P t (ρ m) (ρ i) (ρ x) h).map fun h'=>(.tup [],h')
 | .nilCheck x=>if qS (ρ x) then some (ρ x,h) else none
 | .binOp op t x y _=>(if gP y then aU9 P op t (ρ x) else abin P op t (ρ x) (ρ y)).map fun v=>(v,h)
 | .typeAssert x _ asserted true=>(hK P asserted (ρ x)).map fun v=>(v,h)
 | .unOp op _ x=>(aun op (ρ x)).map fun v=>(v,h)
 | .convert s d x=>(xB P s d (ρ x)).map fun v=>(v,h)
 | .makeInterface t x=>match P.underlying t with
  |some (.interface _)=>none
  |some _=>some (aU5 t (ρ x),h)
  |none=>none
 | .makeFunc f first cap=>some (.fn f (first.toList.map ρ) (cap.toList.map ρ),h)
 | .makeSlice t l c=>aFr P t (ρ l) (ρ c) h
 | .slice t x lo hi mx=>(aslice P t (ρ x) (lo.map ρ) (hi.map ρ) (mx.map ρ)).map fun v=>(v,h)
 | .fieldAddr t x f=>(dZ P t (ρ x) f).map fun v=>(v,h)
 | .field t x f=>(pK P t (ρ x) f).map fun v=>(v,h)
 | .indexAddr t x i=>(eA P t (ρ x) (ρ i)).map fun v=>(v,h)
 | .index t x i=>(pL P t (ρ x) (ρ i)).map fun v=>(v,h)
 | .extract t i=>match ρ t with
  | .tup vs=>(vs[i]?).map fun v=>(v,h)
  |_=>none
 | .call ⟨.builtin b,args,types⟩=>abuiltin P b types (args.toList.map ρ) h
 |_=>none
end Go.AI
