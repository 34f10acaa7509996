import Derived.Test.YtplomildbmcmfaaGreatZA0
import Derived.Test.YtplomildbmcmfaaGreatZEVi
namespace Go.AI.EV
open Go Go.AI
theorem Heap.at_app (h L:Heap)(id:Nat):Heap.at (h++L) id=if id<h.length then h.at id else Heap.at L (id-h.length):=by
 unfold Heap.at;split
 ·rename_i l;rw[bM9 l]
 ·rename_i l;rw[bN8 aB]
def jB (E1 E:Env)(m:Nat):Env:= {ro:=E1.ro,g:=fun id=>if id<m then E1.g id else E.g id,t:=fun id=>if id<m then E1.t id else E.t id}
theorem bLe {E E1:Env} {h L h1:Heap} {w w1:World} (r:Rel E (Heap.at (h++L)) w)(hf:Fresh E (h++L).length)(_hun:h.all (AO.under h.length)=true)(r1:Rel E1 h1.at w1)(f1:Fresh E1 h1.length)(hl:h1.length=h.length)
  (fr:Fr (E.cut h.length) h.at w E1 h1.at w1):
  Rel (jB E1 E h.length) (Heap.at (h1++L)) w1/\Fr E (Heap.at (h++L)) w (jB E1 E h.length) (Heap.at (h1++L)) w1/\Fresh (jB E1 E h.length) (h1++L).length/\Ext E1 w1 (jB E1 E h.length) w1/\Ext E w (jB E1 E h.length) w1:=by
 obtain⟨m,hm⟩:∃m,h.length=m:=⟨_,rfl⟩;rw[hm] at hl fr⊢;have hlo:∀id,id<m->Heap.at (h++L) id=h.at id:=fun id l=>by rw[Heap.at_app,if_pos aB]
 have hlo1:∀id,id<m->Heap.at (h1++L) id=h1.at id:=fun id l=>by rw[Heap.at_app,if_pos aB]
 have hhi:∀id,m<=id->Heap.at (h1++L) id=Heap.at (h++L) id:=fun id l=>by rw[Heap.at_app,Heap.at_app,if_neg aB,if_neg aB,hl,hm]
 have hhi0:∀id,m<=id->h.at id=none:=fun id l=>aPd h id aB
 have hhi1:∀id,m<=id->h1.at id=none:=fun id l=>aPd h1 id aB
 have ga:∀id,id<m->(jB E1 E m).g id=E1.g id:=fun id l=>if_pos l
 have gb:∀id,m<=id->(jB E1 E m).g id=E.g id:=fun id l=>if_neg aB
 have ta:∀id,id<m->(jB E1 E m).t id=E1.t id:=fun id l=>if_pos l
 have tb:∀id,m<=id->(jB E1 E m).t id=E.t id:=fun id l=>if_neg aB
 have cg:∀id,id<m->(E.cut m).g id=E.g id:=fun id l=>by simp[Env.cut,l]
 have ct:∀id,id<m->(E.cut m).t id=E.t id:=fun id l=>by simp[Env.cut,l]
 --owners
 have oE:∀id b,fG (E.cut m) h.at id b->id<m/\fG E (Heap.at (h++L)) id b:=by
  intro id b ho
  have lt:id<m:=by
   rcases bNi id m with l|l
   ·exact l
   ·rcases ho with ⟨o,h1,_⟩|⟨o,x,c,k,h1,_⟩<;>(rw[hhi0 id l] at h1;cases h1)
  refine⟨lt,?_⟩;rcases ho with ⟨o,h1,h3,h2⟩|⟨o,x,c,k,h1,h3,h2⟩
  ·exact .inl ⟨o,by rw[hlo id lt];exact h1,h3,by rw[cg id lt] at h2;exact h2⟩
  ·exact .inr ⟨o,x,c,k,by rw[hlo id lt];exact h1,h3,by rw[ct id lt] at h2;exact h2⟩
 have oJ:∀id b,fG (jB E1 E m) (Heap.at (h1++L)) id b->(id<m/\fG E1 h1.at id b)\/(m<=id/\fG E (Heap.at (h++L)) id b):=by
  intro id b ho;rcases bNi id m with l|l
  ·left;refine⟨l,?_⟩;rcases ho with ⟨o,h1,h3,h2⟩|⟨o,x,c,k,h1,h3,h2⟩
   ·exact .inl ⟨o,by rw[<-hlo1 id l];exact h1,h3,by rw[ga id l] at h2;exact h2⟩
   ·exact .inr ⟨o,x,c,k,by rw[<-hlo1 id l];exact h1,h3,by rw[ta id l] at h2;exact h2⟩
  ·right;refine⟨l,?_⟩;rcases ho with ⟨o,h1,h3,h2⟩|⟨o,x,c,k,h1,h3,h2⟩
   ·exact .inl ⟨o,by rw[<-hhi id l];exact h1,h3,by rw[gb id l] at h2;exact h2⟩
   ·exact .inr ⟨o,x,c,k,by rw[<-hhi id l];exact h1,h3,by rw[tb id l] at h2;exact h2⟩
 --what is put aside belongs to nobody below
 have apart:∀id b,m<=id->fG E (Heap.at (h++L)) id b->b<w.heap.size/\¬InG (E.cut m) h.at b:=by
  intro id b l ho;refine⟨r.owns_lt ho,?_⟩;rintro⟨id',ho'⟩;obtain⟨l',ho'⟩:=oE id' b ho';have:=r.inj id id' b ho ho';omega
 have x1:∀id b,E1.g id=some b->(jB E1 E m).g id=some b:=by
  intro id b e;rcases bNi id m with l|l
  ·rw[ga id l];exact e
  ·rw[(f1 id aB).1] at e;cases e
 have x2:∀id L',E1.t id=some L'->∃L'',(jB E1 E m).t id=some L''/\L'.cur<=L''.cur/\(L''.cur=L'.cur->L''=L'):=by
  intro id L' e;rcases bNi id m with l|l
  ·exact⟨L',by rw[ta id l];exact e,bLx _,fun _=>rfl⟩
  ·rw[(f1 id aB).2] at e;cases e
 have x3:∀id b,E.g id=some b->(jB E1 E m).g id=some b:=by
  intro id b e;rcases bNi id m with l|l
  ·rw[ga id l];exact fr.ext.g id b (by rw[cg id l];exact e)
  ·rw[gb id l];exact e
 have x4:∀id L',E.t id=some L'->∃L'',(jB E1 E m).t id=some L''/\L'.cur<=L''.cur/\(L''.cur=L'.cur->L''=L'):=by
  intro id L' e;rcases bNi id m with l|l
  ·rw[ta id l];exact fr.ext.t id L' (by rw[ct id l];exact e)
  ·exact⟨L',by rw[tb id l];exact e,bLx _,fun _=>rfl⟩
 have xE1:Ext E1 w1 (jB E1 E m) w1:=⟨fun _ _ h=>h,fun _ _ _=>rfl,x1,x2⟩;have xE:Ext E w (jB E1 E m) w1:=⟨fun b off hb=>fr.ext.ro b off hb,fun b off hb=>fr.ext.cells b off hb,x3,x4⟩
 have hG1:∀id b,m<=id->fG E (Heap.at (h++L)) id b->¬InG E1 h1.at b:=by
  intro id b l ho hg;obtain⟨a1,a2⟩:=apart id b l ho;rcases fr.inG b hg with h|h
  ·exact a2 h
  ·omega
 have hro:∀id b off,m<=id->fG E (Heap.at (h++L)) id b->E1.ro b off->E.ro b off:=by
  intro id b off l ho hb;obtain⟨a1,a2⟩:=apart id b l ho;rcases fr.roNew b off hb with h|h|h
  ·exact h
  ·exact absurd h a2
  ·omega
 refine⟨⟨fun id o hc hn=>?_,fun id o n sz k cs hc hk=>?_,fun id id' b h1' h2'=>?_,fun id o b off hc hn hg hb=>?_,fun id o n sz k cs b c k' off hc hk hg hl' hb=>?_,fun b off hb=>r1.lt b off hb⟩,
  ⟨fun b hb hn=>fr.same b hb fun⟨id,ho⟩=>hn ⟨id,(oE id b ho).2⟩,xE,fun b off hb=>?_,fr.size,fun b ⟨id,ho⟩=>?_,fr.kp⟩,fun id hid=>?_,xE1,xE⟩
 ·rcases bNi id m with l|l
  ·rw[hlo1 id l] at hc;obtain⟨b,hg,ho⟩:=r1.objsO id o hc hn;exact⟨b,by rw[ga id l];exact hg,ho.move xE1 rfl⟩
  ·rw[hhi id l] at hc;obtain⟨b,hg,ho⟩:=r.objsO id o hc hn;obtain⟨a1,a2⟩:=apart id b l (.inl ⟨o,hc,hn,hg⟩);exact⟨b,by rw[gb id l];exact hg,ho.move xE (fr.same b a1 a2)⟩
 ·rcases bNi id m with l|l
  ·rw[hlo1 id l] at hc;obtain⟨blk,cap,ht,q1,q2,q3⟩:=r1.toks id o n sz k cs hc hk
   exact⟨blk,cap,by rw[ta id l];exact ht,q1,q2,fun b hb=>by
    obtain⟨vs,p1,p2,p3⟩:=q3 b hb;exact⟨vs,p1,p2,p3.ext xE1⟩⟩
  ·rw[hhi id l] at hc;obtain⟨blk,cap,ht,q1,q2,q3⟩:=r.toks id o n sz k cs hc hk;refine⟨blk,cap,by rw[tb id l];exact ht,q1,q2,fun b hb=>?_⟩;subst hb;obtain⟨vs,p1,p2,p3⟩:=q3 b rfl;obtain⟨a1,a2⟩:=apart id b l (.inr ⟨o,_,cap,n,hc,hk,ht⟩);exact⟨vs,p1.same (fr.same b a1 a2),p2,p3.ext xE⟩
 ·rcases oJ id b h1' with ⟨l1,o1⟩|⟨l1,o1⟩<;>rcases oJ id' b h2' with ⟨l2,o2⟩|⟨l2,o2⟩
  ·exact r1.inj id id' b o1 o2
  ·exact absurd ⟨id,o1⟩ (hG1 id' b l2 o2)
  ·exact absurd ⟨id',o2⟩ (hG1 id b l1 o1)
  ·exact r.inj id id' b o1 o2
 ·rcases bNi id m with l|l
  ·rw[hlo1 id l] at hc;rw[ga id l] at hg;exact r1.sepO id o b off hc hn hg hb
  ·rw[hhi id l] at hc;rw[gb id l] at hg;exact r.sepO id o b off hc hn hg (hro id b off l (.inl ⟨o,hc,hn,hg⟩) hb)
 ·rcases bNi id m with l|l
  ·rw[hlo1 id l] at hc;rw[ta id l] at hg;exact r1.sepT id o n sz k cs b c k' off hc hk hg hl' hb
  ·rw[hhi id l] at hc;rw[tb id l] at hg;exact r.sepT id o n sz k cs b c k' off hc hk hg hl' (hro id b off l (.inr ⟨o,_,c,k',hc,hk,hg⟩) hb)
 ·rcases fr.roNew b off hb with h|⟨id,ho⟩|h
  ·exact .inl h
  ·exact .inr (.inl ⟨id,(oE id b ho).2⟩)
  ·exact .inr (.inr h)
 ·rcases oJ id b ho with ⟨l1,o1⟩|⟨l1,o1⟩
  ·rcases fr.inG b ⟨id,o1⟩ with ⟨id',h⟩|h
   ·exact .inl ⟨id',(oE id' b h).2⟩
   ·exact .inr h
  ·exact .inl ⟨id,o1⟩
 ·have hid':m<=id:=by rw[bM5] at hid;omega
  have:(h++L).length<=id:=by rw[bM5] at hid⊢;omega
  rw[gb id hid',tb id hid'];exact hf id this
theorem aFq {E:Env} {h:Heap} {w:World} (r:Rel E h.at w)(hf:Fresh E h.length) {id:Nat} (hid:id<h.length)(hn:h.at id=none)(hg0:E.g id=none) {cs:List AV} {vs:List Value} (hc:RepL E w cs vs)(T:TypeId):
  let E':Env:= {E with g:=fun i=>if i=id then some w.heap.size else E.g i}
  let w':=w.alloc (.cells (List.toArray vs) T (0,0))
  Rel E' (Heap.at (h.set id (some (.cells cs)))) w'/\Fr E h.at w E' (Heap.at (h.set id (some (.cells cs)))) w'/\Fresh E' (h.set id (some (.cells cs))).length:=by
 intro E' w'
 have hx:Ext E w E' w':=⟨fun _ _ h=>h,fun b off hb=>bS (alloc_old _ (r.lt b off hb)) off,fun i b e=>by
   show(if i=id then some w.heap.size else E.g i)=some b;rw[if_neg (fun he=>by rw[he,hg0] at e;cases e)];exact e,fun _ L h=>⟨L,h,bLx _,fun _=>rfl⟩⟩
 have hold:∀i,i≠id->Heap.at (h.set id (some (.cells cs))) i=h.at i:=fun i hne=>by rw[fK _ _ _ _ hid,if_neg hne]
 have hnew:Heap.at (h.set id (some (.cells cs))) id=some (.cells cs):=by rw[fK _ _ _ _ hid,if_pos rfl]
 have hg':∀i,i≠id->E'.g i=E.g i:=fun i hne=>if_neg hne
 have hgn:E'.g id=some w.heap.size:=if_pos rfl
 have hO:∀i b,fG E' (Heap.at (h.set id (some (.cells cs)))) i b->(i=id/\b=w.heap.size)\/(i≠id/\fG E h.at i b):=by
  intro i b ho
  by_cases e:i=id
  ·subst e;rcases ho with ⟨o',h1,h3,h2⟩|⟨o',x,c,m,h1,hk,h2⟩
   ·left;rw[hgn] at h2;cases h2;exact⟨rfl,rfl⟩
   ·rw[hnew] at h1;cases h1;simp[AO.tk] at hk
  ·right;refine⟨e,?_⟩;rcases ho with ⟨o',h1,h3,h2⟩|⟨o',x,c,m,h1,hk,h2⟩
   ·rw[hold i e] at h1;rw[hg' i e] at h2;exact .inl ⟨o',h1,h3,h2⟩
   ·rw[hold i e] at h1;exact .inr ⟨o',x,c,m,h1,hk,h2⟩
 refine⟨⟨fun i o' hc' hn'=>?_,fun i o' n sz k cs' hc' hk=>?_,fun i i' b h1 h2=>?_,fun i o' b off hc' hn' hg hb=>?_,fun i o' n sz k cs' b c m off hc' hk hg hl hb=>?_,fun b off hb=>?_⟩,⟨fun b hb _=>alloc_old _ hb,hx,fun b off hb=> .inl hb,by rw[alloc_size];omega,fun b hb=>?_,Kp.alloc (fun _ _ _ e=>by cases e;rfl)⟩,fun i hi=>?_⟩
 ·by_cases e:i=id
  ·subst e;rw[hnew] at hc';cases hc';exact⟨w.heap.size,hgn,vs,⟨T,alloc_new _⟩,hc.ext hx⟩
  ·rw[hold i e] at hc';obtain⟨b,hg,ho⟩:=r.objsO i o' hc' hn';exact⟨b,by rw[hg' i e];exact hg,ho.move hx (alloc_old _ ho.lt)⟩
 ·have e:i≠id:=fun e=>by subst e;rw[hnew] at hc';cases hc';simp[AO.tk] at hk
  rw[hold i e] at hc';obtain⟨blk,cap,ht,h1,h2,h3⟩:=r.toks i o' n sz k cs' hc' hk;exact y5w
 ·rcases hO i b h1 with ⟨e1,e2⟩|⟨e1,o1⟩<;>rcases hO i' b h2 with ⟨e3,e4⟩|⟨e3,o2⟩
  ·rw[e1,e3]
  ·have:=r.owns_lt o2;omega
  ·have:=r.owns_lt o1;omega
  ·exact r.inj i i' b o1 o2
 ·by_cases e:i=id
  ·subst e;rw[hgn] at hg;cases hg;have:=r.lt _ off hb;omega
  ·rw[hold i e] at hc';rw[hg' i e] at hg;exact r.sepO i o' b off hc' hn' hg hb
 ·have e:i≠id:=fun e=>by subst e;rw[hnew] at hc';cases hc';simp[AO.tk] at hk
  rw[hold i e] at hc';exact r.sepT i o' n sz k cs' b c m off hc' hk hg hl hb
 ·have:=r.lt b off hb;rw[alloc_size];omega
 ·obtain⟨i,ho⟩:=hb;rcases hO i b ho with ⟨_,e2⟩|⟨_,o⟩
  ·exact .inr aB
  ·exact .inl ⟨i,o⟩
 ·rw[bNu] at hi;exact⟨by rw[hg' i aB];exact(hf i hi).1,(hf i hi).2⟩
def cutA (m:Nat)(x:AV):AV:=if x.under m=true then x else .junk
theorem aG2 (m:Nat)(x:AV):(cutA m x).under m=true:=by
 unfold cutA;split
 ·assumption
 ·rfl
theorem pV (m:Nat):∀l:List AV,AV.underL m (l.map (cutA m))=true
 |[]=>rfl
 |x::l=>by simp only[bMd,AV.underL,aG2,pV m l];rfl
theorem aE5 {E:Env} {w:World} {m:Nat} :∀ {l:List AV} {vs:List Value},RepL E w l vs->RepL E w (l.map (cutA m)) vs
 |[],vs,r=>by simpa only[bNb,RepL] using r
 |x::l,vs,r=>by
  simp only[bMd,RepL] at r⊢;obtain⟨v,us,e,r1,r2⟩:=r;refine⟨v,us,e,?_,aE5 r2⟩;unfold cutA;split
  ·exact r1
  ·simp only[Rep]
theorem aUq (m:Nat)(ks:Ks)(x:AV)(hu:∀x,AV.under m (io ks x)=AV.under m x):cutA m (io ks x)=io ks (cutA m x):=by
 unfold cutA;rw[hu];split
 ·rfl
 ·simp
def Put (o:Oper)(E:Env)(w:World)(a:Act)(h:Heap)(x:AV)(h':Heap)(K:Act->World->Prop):Prop:=
 ∀E' w' v,Rel E' (Heap.at h') w'->Fresh E' h'.length->Rep E' w' x v->Fr E h.at w E' (Heap.at h') w'->K (a.put o.dst v) w'
theorem bCu {P:Program} {rd:Option Nat} {ops:Array Oper} {i:Nat} {o:Oper} {T:List AV} {h h':Heap} {D:List AD} {x:AV} {E:Env} {w:World} {a:Act} {Qw:Exit->Act->World->Prop} {Kw:Act->World->Prop} (ho:ops[i]?=some o)(s:St E w a T h D)
  (hd:(awanted ops T o=some false/\x= .tup []/\h'=h)\/(awanted ops T o=some true/\aop P (aev T) h o.op=some (x,h'))\/
   (awanted ops T o=some true/\∃c f args,o.op= .call c/\acallee T c=some (f,args)/\aK P f=true/\ACalls P f args h (fun o' g=>o'= .ret x/\g=h'))\/
   (awanted ops T o=some true/\h'=h/\∃sz ys n,x= .p (.sl sz ys)/\aop P (aev T) h o.op=some (.own h.length sz ys,h++[some (.tok n sz)])))
  (hun:h.all (AO.under h.length)=true) (hk:Put o E w a h x h' Kw):wpOpIn (fen rd) 0 P ops Qw i Kw a w:=by
 unfold wpOpIn;simp only[ho];rcases hd with ⟨h1,rfl,rfl⟩|⟨h1,h2⟩|⟨h1,c,f,args,h3,h4,h5,h6⟩|⟨h1,rfl,sz,ys,n0,rfl,h2⟩
 ·refine y1r ?_;exact⟨fun _ _=>trivial,hk E w undef s.rel s.fresh (by simp only[Rep,RepL];exact⟨[],rfl,rfl⟩) (Fr.refl _ _ _)⟩
 ·refine yr ?_;obtain⟨E',w',nn,v,hrun,hn,hr,hf,hx,hfr⟩:=aop_sound h2 s;have:=hk E' w' v hr hf hx hfr;exact y5k
 ·refine yr ?_;obtain⟨vs,hrun,hvs⟩:=acallee_sound (P:=P) s h4 h5 h3;refine⟨fun _ _=>trivial,?_⟩;rw[Oper.semAt_eq _ _ _ (fun c hc=>by rw[hc] at h3;cases h3),hrun];refine⟨fun hd=>(by cases hd),callsIn_fen.2 (Calls.mono (h6 E w vs s.rel s.fresh hvs) ?_)⟩;rintro e w' ⟨out,h'',E',⟨rfl,rfl⟩,hrel,hf,hout,hfr⟩;simp only[RepO] at hout;obtain⟨u,rfl,hx⟩:=hout;exact hk E' w' u hrel hf hx hfr
 ·refine yr ?_;obtain⟨E',w',nn,v,hrun,hn,hr,hf,hx,hfr⟩:=aop_sound h2 s;have e1:(h'++[some (AO.tok n0 sz)]).take h'.length=h':=List.take_left
  have hx':Rep (E'.cut h'.length) w' (.p (.sl sz ys)) v:=by
   have:=aEy hx;simp only[Rep];exact RepP.cut _ this
  have:=hk (E'.cut h'.length) w' v (by have:=hr.cut h'.length (by rw[e1];exact hun);rw[e1] at this;exact this) (by have:=Fresh.cut E' (m:=h'.length) (h:=h'++[some (.tok n0 sz)]) aA;rw[e1] at this;exact this) hx' (by have:=(hfr.toN _).cut s.fresh (bLx _);rw[e1] at this;exact this);exact y5k
open Go Go.AI
def aLe (P:Program)(ρ:Operand->AV)(n:Nat)(op:Op):Option (AV×List AV):=
 match op with
 | .alloc t=>match aS P t with
  |some z=>some (.ptr n 0,prims z)
  |none=>none
 | .box _ x=>match cU (ρ x) with
  |some cs=>some (.ptr n 0,cs)
  |none=>none
 | .makeSlice t l c=>match elT P t,sG (ρ l),sG (ρ c) with
  |some e,some k,some m=>match szT P e,byT P e,aS P e with
   | some sz,some by_,some z=>if 0<=k/\k=m/\k.toNat*by_<=140737488355328/\k.toNat<=1099511627776/\0<sz then
     some (.sm n 0 k.toNat (2*k.toNat) sz,(List.replicate k.toNat (prims z)).flatten) else none
   |_,_,_=>none
  |_,_,_=>none
 | .buildSlice t 0 ⟨[]⟩=>match elT P t with
  |some e=>match szT P e with
   |some sz=>some (.sm n 0 0 0 sz,[])
   |none=>none
  |none=>none
 |_=>none
section
variable {P:Program} {ks:Ks} {E:Env} {w:World} {T:List AV} {h:Heap} {D:List AD} {a:Act} {o:Oper}
theorem aQ9 {n:Nat} {x:AV} {cs:List AV} (s:St E w a (T.map (io ks)) h D)(hf:aLe P (aev T) n o.op=some (x,cs)):
  ∃vs t v,(execOp a.eval o).run P w= .ok (.value v) (w.alloc (.cells (List.toArray vs) t (0,0)))/\RepL E w (cs.map (io ks)) vs/\∀E' w',E'.g n=some w.heap.size->Rep E' w' (io ks x) v:=by
 unfold aLe at hf;split at hf
 ·rename_i t hop;split at hf
  ·rename_i z hz;simp only[bM0,bMf] at hf;obtain⟨rfl,rfl⟩:=hf;obtain⟨zv,hzr,hzc⟩:=jU (w:=w) hz;obtain⟨_,_,_,_,_,_,hprim⟩:=aN hz;refine⟨z,t, .pointer (some ⟨w.heap.size,0,none⟩),?_,by rw[zD];exact prims_rep hprim,fun E' w' hg=>by simp only[oG,Rep];exact⟨_,hg,rfl⟩⟩
   have e:(Instr.alloc t true (.tuple #[])).run P w= .ok (.pointer (some ⟨w.heap.size,0,none⟩)) (w.alloc (.cells (List.toArray z) t (0,0))):=by
    simp[Instr.alloc,hzr,newVar,newRow,hzc]
   simp[execOp,hop,e]
  ·cases hf
 ·rename_i t y hop;split at hf
  ·rename_i cs' hc;simp only[bM0,bMf] at hf;obtain⟨rfl,rfl⟩:=hf;have hr:=aev_rep s y;rw[aev_io] at hr;obtain⟨vs,e1,e2⟩:=gN (by rw[jG,hc];rfl) hr;refine⟨vs,t, .pointer (some ⟨w.heap.size,0,none⟩),?_,e2,fun E' w' hg=>by simp only[oG,Rep];exact⟨_,hg,rfl⟩⟩
   have e:(Instr.box t (a.eval y)).run P w= .ok (.pointer (some ⟨w.heap.size,0,none⟩)) (w.alloc (.cells (List.toArray vs) t (0,0))):=by
    simp[Instr.box,newVar,newRow,e1]
   simp[execOp,hop,e]
  ·cases hf
 ·rename_i t l c hop;split at hf
  ·rename_i e k m hel hk hm';obtain⟨kk,hkv⟩:=intA_rep (E:=E) (w:=w) (v:=a.eval l) (by rw[iG ks];exact hk) (by rw[<-aev_io ks];exact aev_rep s l);obtain⟨kk',hmv⟩:=intA_rep (E:=E) (w:=w) (v:=a.eval c) (by rw[iG ks];exact hm') (by rw[<-aev_io ks];exact aev_rep s c);split at hf
   ·rename_i sz by_ z hsz hby hz;split at hf
    ·rename_i hcond;obtain⟨h0,rfl,hb,hn40,hpos⟩:=hcond;simp only[bM0,bMf] at hf;obtain⟨rfl,rfl⟩:=hf;obtain⟨i,zv,hi,hzv,hzc,hzl,hprim⟩:=aN hz;have hisz:i.size=sz:=by unfold szT at hsz;rw[hi] at hsz;simpa using hsz
     have hiby:i.bytes=by_:=by unfold byT at hby;rw[hi] at hby;simpa using hby
     have hw:=aAc h0 aB
     have hrep:RepL E w (List.replicate k.toNat (prims z)).flatten (List.replicate k.toNat z).flatten:=by
      have:(List.replicate k.toNat (prims z)).flatten=prims (List.replicate k.toNat z).flatten:=by
       unfold prims;generalize k.toNat=q
       induction q with
       |zero=>rfl
       |succ q ih=>rw[bN3,bN3,bNa,bNa,bMy,ih]
      rw[this];exact y3e
     refine⟨(List.replicate k.toNat z).flatten,e, .slice (some ⟨w.heap.size,0,none⟩) k.toNat k.toNat,?_,by rw[tL];exact hrep,fun E' w' hg=>by rw[io_sm,jL];simp only[Rep];exact⟨_,hg,rfl⟩⟩
     have hrun:(Instr.makeSlice t (.int kk k) (.int kk' k)).run P w= .ok (.slice (some ⟨w.heap.size,0,none⟩) k.toNat k.toNat) (w.alloc (.cells (List.toArray (List.replicate k.toNat z).flatten) e (0,0))):=by
      have hinit:(Array.range (k.toNat*sz)).map (fun i=>(List.toArray z)[i%(List.toArray z).size]!)=List.toArray (List.replicate k.toNat z).flatten:=by
       have:=flat_replicate (List.toArray z) k.toNat;simp only[List.size_toArray,hzl,hisz] at this⊢;exact this
      have hbn:(i.bytes:Int)*k<=140737488355328:=by
       rw[hiby];have h2:(k.toNat:Int)=k:=Int.toNat_of_nonneg h0;have h3:((k.toNat*by_:Nat):Int)<=140737488355328:=aB;rw[Int.natCast_mul,h2,Int.mul_comm] at h3;exact h3
      have htl:¬(k<0\/281474976710656<(i.bytes:Int)*k):=aB
      by_cases hz0:k.toNat*sz=0
      ·have hn0:k.toNat=0:=by
        exact y5r
       have hn00:k=0:=aB;exact y69
      ·refine y1d ?_;simp at hinit;rw[hinit]
     simp[execOp,hop,hkv,hmv,hrun]
    ·cases hf
   ·cases hf
  ·cases hf
 ·rename_i t hop;split at hf
  ·rename_i e he;split at hf
   ·rename_i sz hsz;simp only[bM0,bMf] at hf;obtain⟨rfl,rfl⟩:=hf;refine⟨[],e, .slice (some ⟨w.heap.size,0,none⟩) 0 0,?_,by simp[RepL],fun E' w' hg=>by rw[io_sm,show(0:Nat)=2*0 from rfl,jL];simp only[Rep];exact⟨_,hg,rfl⟩⟩
    have hrun:(Instr.buildSlice t 0 #[]).run P w= .ok (.slice (some ⟨w.heap.size,0,none⟩) 0 0) (w.alloc (.cells (List.toArray []) e (0,0))):=by
     exact y5j
    simp only[execOp,hop];exact y6v
   ·cases hf
  ·cases hf
 ·cases hf
theorem aLf {rd:Option Nat} {ops:Array Oper} {i n:Nat} {x:AV} {cs:List AV} {Qw:Exit->Act->World->Prop} {Kw:Act->World->Prop} (ho:ops[i]?=some o)(s:St E w a (T.map (io ks)) h D)(hw:awanted ops (T.map (io ks)) o=some true)
  (hf:aLe P (aev T) n o.op=some (x,cs)) (hn:n<h.length) (hat:h.at n=none) (hg:E.g n=none)
  (hk:∀E' w' v,Rel E' (Heap.at (h.set n (some (.cells (cs.map (io ks)))))) w'->Fresh E' h.length->Rep E' w' (io ks x) v->Fr E h.at w E' (Heap.at (h.set n (some (.cells (cs.map (io ks)))))) w'->(∀id,id≠n->E'.g id=E.g id)->Kw (a.put o.dst v) w'):
  wpOpIn (fen rd) 0 P ops Qw i Kw a w:=by
 obtain⟨vs,t,v,hrun,hrep,hx⟩:=aQ9 s hf;obtain⟨g1,g2,g3⟩:=aFq s.rel s.fresh hn hat hg hrep t;unfold wpOpIn;simp only[ho];rw[awanted_sound s hw];simp only[if_true];refine⟨fun _ _=>trivial,?_⟩
 have hnd:∀c,o.op≠ .defer c:=by
  intro c hc;rw[hc] at hf;simp[aLe] at hf
 rw[Oper.semAt_eq _ _ _ hnd,hrun];refine hk _ _ v g1 (by rw[bNu] at g3;exact g3) (hx _ _ aA) g2 ?_;intro id hne;show(if id=n then _ else _)=_;rw[if_neg hne]
end
open Go Go.AI
def pX (ops:Array Oper)(i:Nat):Option Tmp:=(ops[i]?).bind (·.dst)
def Pl.chain (p:Pl)(ops:Array Oper)(i:Nat):Bool:=match ops[i]? with
 |some o=>isE o.op&& !p.fl.contains i
 |none=>false
def Pl.pc (p:Pl)(i:Nat):Nat:=(p.fl.filter fun f=>p.pre i f).length
def okOp (ops:Array Oper)(p:Pl)(i:Nat):Bool:=match ops[i]? with
 |none=>false
 |some o=>
  (List.range ops.size).all (fun j=>!p.pre i j||(decide (j<i)&& o.after.any fun e=>Region.binds .any e&& (e.on==j||p.pre e.on j)))&&
  o.after.all (fun e=>!Region.binds .any e||(decide (e.on<i)&& p.pre i e.on))&&
  (List.range ops.size).all (fun j=>j==i||match o.dst,pX ops j with|some a,some b=>a !=b|_,_=>true)&&
  (List.range ops.size).all (fun j=>match pX ops j with|some d=>!(o.looksAt ops).contains d||p.pre i j||p.pre j i|none=>true)&&
  (!p.chain ops i||(List.range i).all (fun j=>!p.chain ops j||p.pre i j))&&
  (List.range p.fl.length).all (fun k=>(p.fl[k]?).any (fun f=>p.pre i f)==decide (k<p.pc i))
def aMi (ops:Array Oper)(p:Pl):Bool:=(List.range ops.size).all (okOp ops p)&& p.fl.all (fun f=>decide (f<ops.size))&& decide p.fl.Nodup
structure OkR (ops:Array Oper) (p:Pl):Prop where
 lt:∀i j,i<ops.size->p.pre i j=true->j<ops.size->j<i
 edge:∀i j o,ops[i]?=some o->p.pre i j=true->j<ops.size->∃e∈o.after,Region.binds .any e=true/\(e.on=j\/p.pre e.on j=true)
 back:∀i o,ops[i]?=some o->∀e∈o.after,Region.binds .any e=true->e.on<i/\p.pre i e.on=true
 dst:∀i j d,i<ops.size->j<ops.size->pX ops i=some d->pX ops j=some d->i=j
 look:∀i j o d,ops[i]?=some o->j<ops.size->pX ops j=some d->d∈o.looksAt ops->p.pre i j=true\/p.pre j i=true
 chain:∀i j,i<ops.size->j<i->p.chain ops i=true->p.chain ops j=true->p.pre i j=true
 fl:∀i k f,i<ops.size->p.fl[k]?=some f->(p.pre i f=true↔k<p.pc i)
 flt:∀f∈p.fl,f<ops.size
 nd:p.fl.Nodup
theorem aHe {ops:Array Oper} {p:Pl} (h:aMi ops p=true):OkR ops p:=by
 unfold aMi at h;simp only[bM8,bMg,bN6,bMi] at h;obtain⟨⟨h1,h2⟩,h3⟩:=h
 have key:∀i o,ops[i]?=some o->_:=fun i o ho=>by
  have:=h1 i (bN9.1 ho).1;unfold okOp at this;rw[ho] at this;simp only[bM8,bMg,bN6] at this;exact this
 have get:∀i,i<ops.size->∃o,ops[i]?=some o:=fun i hi=>⟨_,bOj hi⟩
 refine⟨fun i j hi hp hj=>?_,fun i j o ho hp hj=>?_,fun i o ho e he hb=>?_,fun i j d hi hj hd hd'=>?_,fun i j o d ho hj hd hl=>?_,fun i j hi hj hc hc'=>?_,fun i k f hi hf=>?_,h2,h3⟩
 ·obtain⟨o,ho⟩:=get i hi;have:=(key i o ho).1.1.1.1.1 j hj;rw[hp] at this;simp only[bOo,bO6,bM8,bMi] at this;exact this.1
 ·have:=(key i o ho).1.1.1.1.1 j hj;rw[hp] at this;simp only[bOo,bO6,bM8,bMi] at this;obtain⟨e,he,hc⟩:=Array.any_eq_true'.1 this.2;simp only[bM8,bNe,beq_iff_eq] at hc;exact⟨e,he,hc.1,hc.2⟩
 ·have:=bOe.1 (key i o ho).1.1.1.1.2 e he;rw[hb] at this;simp only[bOo,bO6,bM8,bMi] at this;exact this
 ·obtain⟨o,ho⟩:=get i hi;have:=(key i o ho).1.1.1.2 j hj;have hd0:o.dst=some d:=by unfold pX at hd;rw[ho] at hd;exact hd
  simp only[hd0,hd',bNe,beq_iff_eq,bne_iff_ne,ne_eq,bOg,or_false] at this;exact this.symm
 ·have:=(key i o ho).1.1.2 j hj;simp only[hd,bNe,bN0] at this;rcases this with (h|h)|h
  ·have:=bOf.2 hl;rw[h] at this;cases this
  ·exact .inl h
  ·exact .inr h
 ·obtain⟨o,ho⟩:=get i hi;have:=(key i o ho).1.2;rw[hc] at this;simp only[bOo,bO6,bMg,bN6] at this;have:=this j hj;rw[hc'] at this;simpa using this
 ·obtain⟨o,ho⟩:=get i hi;have:=(key i o ho).2 k (bLw.1 hf).1;rw[hf] at this;simp only[Option.any_some,beq_iff_eq] at this;rw[this,bMi]
section
variable (ops:Array Oper) (p:Pl) (N:Nat) (T0:List AV) (xs:List AV) (HS:List HX) (inits:List XO)
def aR6 (s:Nat):Option Nat:=(List.range ops.size).find? fun i=>pX ops i==some s
def rW (S:Nat->Bool)(s:Nat)(x:AV):AV:=match aR6 ops s with
 |some i=>if S i=true then xs.getD i .junk else x
 |none=>x
def TnF (S:Nat->Bool):List AV:=T0.zipIdx.map fun q=>rW ops xs S q.2 q.1
def cnt (S:Nat->Bool):Nat:=(List.range ops.size).countP fun j=>p.chain ops j&& S j
def flo (V:HX)(k:Nat):XO:=match V.getD (N+k) .dead with
 | .dead=>inits.getD k .dead
 |v=>v
def eP (k:Nat)(V:HX):HX:=V.take N++(List.range k).map (flo N inits V)
def HnF (S:Nat->Bool):HX:=(HS.getD (cnt ops p S) []).take N++(List.range p.fl.length).map fun k=>if S (p.fl.getD k 0)=true then flo N inits (HS.getD (cnt ops p S) []) k else .dead
end
section
variable {ops:Array Oper} {p:Pl} {N:Nat} {T0:List AV} {xs:List AV} {HS:List HX} {inits:List XO}
theorem gT {s i:Nat} (h:aR6 ops s=some i):i<ops.size/\pX ops i=some s:=by
 have h1:=List.find?_some h;have h2:=List.mem_of_find?_eq_some h;exact⟨bN6.1 h2,by simpa using h1⟩
theorem aR7 (hk:OkR ops p) {s i:Nat} (hi:i<ops.size)(h:pX ops i=some s):aR6 ops s=some i:=by
 cases e:aR6 ops s with
 |none=>
  have:=List.find?_eq_none.1 e i (bN6.2 hi);simp[h] at this
 |some j=>
  obtain⟨h1,h2⟩:=gT e;rw[hk.dst i j s hi h1 h h2]
theorem aU2 (S:Nat->Bool):(TnF ops T0 xs S).length=T0.length:=by simp[TnF]
theorem kW (S:Nat->Bool)(s:Nat):(TnF ops T0 xs S)[s]?=(T0[s]?).map fun x=>rW ops xs S s x:=by
 simp[TnF,List.getElem?_zipIdx]
 cases T0[s]?<;>simp
theorem aF8 (S:Nat->Bool)(s:Nat):tget (TnF ops T0 xs S) s=if s<T0.length then rW ops xs S s (tget T0 s) else .junk:=by
 rw[tget_eq,tget_eq,List.getD,List.getD,kW];split
 ·rename_i l;rw[bLv l];rfl
 ·rename_i l;rw[bNz aB];rfl
theorem uP (hk:OkR ops p) {S:Nat->Bool} {i:Nat} {o:Oper} (ho:ops[i]?=some o):TnF ops T0 xs (fun j=>S j||j==i)=tput (TnF ops T0 xs S) o.dst (xs.getD i .junk):=by
 have hi:=(bN9.1 ho).1;have hd:pX ops i=o.dst:=by unfold pX;rw[ho];rfl
 cases e:o.dst with
 |none=>
  simp only[tput];apply bNj;intro s;rw[kW,kW]
  congr 1
  funext x
  unfold rW;split
  ·rename_i j hj;obtain⟨h1,h2⟩:=gT hj;have hne:j≠i:=by rintro rfl;rw[hd,e] at h2;cases h2
   simp[hne]
  ·rfl
 |some d=>
  simp only[tput];apply bNj;intro s;rw[List.getElem?_set,kW,kW,aU2]
  by_cases hs:d=s
  ·subst hs;rw[if_pos rfl];have ho':=aR7 hk hi (hd.trans e)
   by_cases l:d<T0.length
   ·rw[if_pos l,bLv l,bN2];unfold rW;rw[ho'];simp
   ·rw[if_neg l,bNz (Nat.le_of_not_lt l)];rfl
  ·rw[if_neg hs]
   congr 1
   funext x
   unfold rW;split
   ·rename_i j hj;obtain⟨h1,h2⟩:=gT hj;have hne:j≠i:=by rintro rfl;rw[hd,e] at h2;cases h2;exact hs rfl
    simp[hne]
   ·rfl
def bEd (ops:Array Oper)(p:Pl)(S:Nat->Bool):Prop:=∀i j,i<ops.size->j<ops.size->S i=true->p.pre i j=true->S j=true
theorem aP5 (hk:OkR ops p) {S:Nat->Bool} (hS:bEd ops p S) {i:Nat} {o:Oper} (ho:ops[i]?=some o)(hp:∀j,j<ops.size->p.pre i j=true->S j=true)(hi:S i=false) {d:Nat} (hd:d∈o.looksAt ops):
  tget (TnF ops T0 xs S) d=tget (TnF ops T0 xs fun j=>decide (j<i)) d:=by
 have hlt:=(bN9.1 ho).1;rw[aF8,aF8];split
 ·unfold rW;split
  ·rename_i j hj;obtain⟨h1,h2⟩:=gT hj;rcases hk.look i j o d ho h1 h2 hd with h|h
   ·rw[hp j h1 h];have:=hk.lt i j hlt h h1;simp[this]
   ·have h3:S j=false:=by
     cases e:S j with
     |false=>rfl
     |true=>rw[hS j i h1 hlt e h] at hi;cases hi
    have:=hk.lt j i h1 h hlt;rw[h3];simp[show¬j<i by omega]
  ·rfl
 ·rfl
theorem mX {α:Type} [DecidableEq α] {f g:α->Bool} {a:α} :∀ {l:List α},l.Nodup->a∈l->f a=false->g a=true->(∀x∈l,x≠a->g x=f x)->l.countP g=l.countP f+1
 |[],_,h,_,_,_=>by cases h
 |x::l,hn,hm,hf,hg,he=>by
  rw[bNd] at hn;rcases bMh.1 hm with rfl|hm
  ·rw[List.countP_cons_of_pos hg,List.countP_cons_of_neg (by rw[hf];simp)]
   congr 1
   exact List.countP_congr fun y hy=>by
    rw[he y (bNr _ hy) (fun e=>hn.1 (e▸hy))]
  ·have hx:x≠a:=fun e=>hn.1 (e▸hm)
   have ih:=mX hn.2 hm hf hg fun y hy hne=>he y (bNr _ hy) hne
   rw[List.countP_cons,List.countP_cons,ih,he x (List.mem_cons_self) hx];omega
theorem aB5 {S:Nat->Bool} {i:Nat} (hi:i<ops.size)(hS:S i=false)(hc:p.chain ops i=true):cnt ops p (fun j=>S j||j==i)=cnt ops p S+1:=by
 unfold cnt;refine mX (a:=i) List.nodup_range (bN6.2 hi) (by simp[hS]) (by simp[hc]) fun x _ hx=>?_
 have:(x==i)=false:=by simpa using hx
 show(p.chain ops x&& (S x||x==i))=_;rw[this,Bool.or_false]
theorem oZ {S:Nat->Bool} {i:Nat} (hc:p.chain ops i=false):cnt ops p (fun j=>S j||j==i)=cnt ops p S:=by
 unfold cnt;refine List.countP_congr fun x _=>?_
 by_cases e:x=i
 ·subst e;simp[hc]
 ·have:(x==i)=false:=by simpa using e
  show(p.chain ops x&& (S x||x==i))=true↔_;rw[this,Bool.or_false]
theorem xQ (hk:OkR ops p) {S:Nat->Bool} (hS:bEd ops p S) {i:Nat} (hi:i<ops.size)(hc:p.chain ops i=true)(hp:∀j,j<ops.size->p.pre i j=true->S j=true)(hn:S i=false):cnt ops p S=cnt ops p fun j=>decide (j<i):=by
 unfold cnt;refine List.countP_congr fun x hx=>?_
 have hx:=bN6.1 hx
 by_cases hcx:p.chain ops x=true
 ·rw[hcx];simp only[Bool.true_and,bMi];constructor
  ·intro h;rcases Nat.lt_trichotomy x i with l|l|l
   ·exact l
   ·subst l;rw[hn] at h;cases h
   ·rw[hS x i hx hi h (hk.chain x i hx l hcx hc)] at hn;cases hn
  ·intro l;exact hp x hx (hk.chain i x hi l hc hcx)
 ·simp[hcx]
theorem pH {S:Nat->Bool} {m:Nat} (hm:m<=p.fl.length)(hl:N<=(HS.getD (cnt ops p S) []).length)(hS:∀k f,k<m->p.fl[k]?=some f->S f=true):(HnF ops p N HS inits S).take (N+m)=eP N inits m (HS.getD (cnt ops p S) []):=by
 unfold HnF eP;rw[List.take_append,List.take_take,bMn,bNc hl,Nat.min_eq_right aB,show N+m-N=m by omega]
 congr 1
 rw[<-List.map_take,List.take_range,bNc hm];refine List.map_congr_left fun k hk=>?_
 have hk:=bN6.1 hk;have hf:p.fl[k]?=some p.fl[k]:=bLv aB;have:p.fl.getD k 0=p.fl[k]:=by simp[List.getD,hf]
 rw[this,if_pos (hS k _ hk hf)]
theorem aAo {S:Nat->Bool} (hl:N<=(HS.getD (cnt ops p S) []).length):(HnF ops p N HS inits S).length=N+p.fl.length:=by
 unfold HnF;rw[bM5,bMn,bMp,List.length_range,bNc hl]
end
open Go Go.AI
mutual
theorem mM (n:Nat)(ks:Ks):∀x:AV,AV.under n (io ks x)=AV.under n x
 | .p _=>by simp
 | .agg cs=>by simp only[io,AV.under,cW n ks cs]
 | .tup cs=>by simp only[io,AV.under,cW n ks cs]
 | .ptr _ _=>by simp
 | .sm _ _ _ _ _=>by simp only[io,AV.under]
 | .own _ _ _=>by simp
 | .fn _ xs ys=>by simp only[io,AV.under,cW n ks xs,cW n ks ys]
 | .ifc _ x=>by simp only[io,AV.under,mM n ks x]
 | .mp _=>by simp
 | .vec _ _=>by simp
 | .junk=>by simp
theorem cW (n:Nat)(ks:Ks):∀l:List AV,AV.underL n (ioL ks l)=AV.underL n l
 |[]=>rfl
 |x::l=>by simp only[ioL,AV.underL,mM n ks x,cW n ks l]
end
def tK:LT->Nat->Option LE
 |[],_=>none
 |e::lt,i=>if Nat.beq e.j i=true then some e else tK lt i
theorem nA:∀ {lt:LT} {i:Nat} {e:LE},tK lt i=some e->e∈lt/\e.j=i
 |[],_,_,h=>by simp[tK] at h
 |e::lt,i,e',h=>by
  simp only[tK] at h;split at h
  ·rename_i hb;simp only[bM0] at h;subst h;exact⟨List.mem_cons_self,Nat.eq_of_beq_eq_true hb⟩
  ·obtain⟨h1,h2⟩:=nA h;exact⟨bNr _ h1,h2⟩
def fV (lt:LT)(n:Nat):XO->Bool
 | .cells cs=>AV.underL n cs
 | .row _ _ _ cs=>AV.underL n cs
 | .loop i _ _=>match tK lt i with
  |some e=>AV.underL n e.T
  |none=>false
 |_=>true
theorem uK (n:Nat):∀(xs ys:List AV),AV.underL n xs=true->AV.underL n ys=true->AV.underL n (xs++ys)=true
 |[],_,_,h=>h
 |x::xs,ys,h1,h2=>by
  simp only[AV.underL,bM8,bLz] at h1⊢;exact⟨h1.1,uK n xs ys h1.2 h2⟩
theorem aD4 (n k:Nat):AV.underL n (List.replicate k .junk)=true:=by
 induction k with
 |zero=>simp[AV.underL]
 |succ k ih=>simp only[bN3,AV.underL,AV.under,ih];rfl
theorem aOu {lt:LT} {n j:Nat} {ks:Ks} (hG:Gl lt j ks) {o:XO} (h:fV lt n o=true):AO.under n (iO ks o)=true:=by
 cases o with
 |cells cs=>simp only[iO,AO.under,<-fB,cW];exact h
 |row n0 i sz cs=>
  simp only[iO,AO.under];refine uK n _ _ ?_ (aD4 n _);rw[<-fB,cW];exact h
 |loop i st pend=>
  simp only[fV] at h;split at h
  ·rename_i e he;obtain⟨h1,rfl⟩:=nA he;obtain⟨_,_,h3⟩:=hG e h1;simp only[iO,AO.under,h3,<-fB,cW];exact h
  ·cases h
 |_=>rfl
theorem mQ {lt:LT} {n j:Nat} {ks:Ks} (hG:Gl lt j ks) {H:HX} (h:H.all (fV lt n)=true):(iH ks H).all (AO.under n)=true:=by
 rw[bMg];intro o ho;obtain⟨o',h1,rfl⟩:=bMr.1 ho;exact aOu hG (bMg.1 h o' h1)
open Go Go.AI
section
variable {P:Program} {ks:Ks} {m:Nat}
theorem aD5 (m:Nat)(v:Value):(sS v).under m=true:=by
 unfold sS;split
 ·split
  ·rename_i cs _;simp only[AV.under];generalize cs.toList=l
   induction l with
   |nil=>simp[AV.underL]
   |cons v l ih=>simp only[bMd,AV.underL,AV.under,ih];rfl
  ·rfl
 ·split<;>rfl
 ·split<;>rfl
theorem wJ:∀(T:List AV)(d:Nat),tget (T.map (cutA m)) d=cutA m (tget T d)
 |[],d=>by simp only[bNb,tget];rfl
 |x::T,0=>by simp only[bMd,tget]
 |x::T,d+1=>by simp only[bMd,tget,wJ T d]
theorem aev_cut (T:List AV)(y:Operand):aev (T.map (cutA m)) y=cutA m (aev T y):=by
 cases y with
 |tmp d=>simp only[aev,wJ]
 |const v=>simp only[aev];unfold cutA;rw[if_pos (aD5 m v)]
 |global g=>simp only[aev];rfl
 |func f=>simp only[aev];rfl
theorem aAx {all:Array Oper} {T:List AV} {o:Oper} {b:Bool} (h:awanted all T o=some b):awanted all (T.map (cutA m)) o=some b:=by
 unfold awanted at h⊢;split
 ·rename_i hg;rw[hg] at h;exact h
 ·rename_i jj want hg;rw[hg] at h;simp only at h;split
  ·rename_i d hd;rw[hd] at h;simp only at h;rw[wJ];split at h
   ·rename_i b' hT;rw[hT];exact h
   ·rename_i hT;rw[hT];exact h
   ·cases h
  ·rename_i hd;rw[hd] at h;exact h
theorem hY {all:Array Oper} {T T':List AV} {o:Oper} (h:∀d∈o.looksAt all,tget T' d=tget T d):awanted all T' o=awanted all T o:=by
 unfold awanted;split
 ·rfl
 ·rename_i jj want hg;split
  ·rename_i d hd
   have:d∈o.looksAt all:=by
    unfold Oper.looksAt;rw[hg];simp only[hd,Option.toList_some];exact List.mem_append_right _ (List.mem_singleton.2 rfl)
   rw[h d this]
  ·rfl
theorem aev_congr {all:Array Oper} {T T':List AV} {o:Oper} (h:∀d∈o.looksAt all,tget T' d=tget T d) {y:Operand} (hy:y∈o.op.operands):aev T' y=aev T y:=by
 cases y with
 |tmp d=>
  simp only[aev];refine h d ?_;unfold Oper.looksAt;exact bNl _ (List.mem_filterMap.2 ⟨.tmp d,by simpa using hy,rfl⟩)
 |_=>rfl
def aTv (P:Program)(ρ:Operand->AV)(G:HX):Op->Option (Nat×List (List PV))
 | .call ⟨.builtin .append,⟨[s,x]⟩,⟨[t,t']⟩⟩=>if t=t'/\bCi (ρ s)=false then(match aXp P t (ρ s) (ρ x) G with
   |some (.own k sz ys,H')=>if Nat.beq k G.length&& Nat.beq H'.length (G.length+1) then some (sz,ys) else none
   |_=>none) else none
 |_=>none
theorem aOl {P:Program} {ρ:Operand->AV} {G:HX} {op:Op} {sz:Nat} {ys:List (List PV)} (h:aTv P ρ G op=some (sz,ys)):∃n,sC P ρ G op=some (.own G.length sz ys,G++[.tok n sz]):=by
 unfold aTv at h;split at h
 ·rename_i s x t t';split at h
  ·rename_i hc;split at h
   ·rename_i k sz' ys' H' hx;split at h
    ·rename_i hk;simp only[bM8] at hk;have hk1:=Nat.eq_of_beq_eq_true hk.1;have hk2:=Nat.eq_of_beq_eq_true hk.2;simp only[bM0,bMf] at h;obtain⟨rfl,rfl⟩:=h;subst hk1;obtain⟨n,e⟩:=aSr hx hk2;refine⟨n,?_⟩;show(if t=t'/\bCi (ρ s)=false then aXp P t (ρ s) (ρ x) G else none)=_;rw[if_pos hc,hx,e]
    ·cases h
   ·cases h
  ·cases h
 ·cases h
def aL5 (P:Program)(cf:bF)(m:Nat)(o:Oper)(T:List AV)(G:HX)(j:Nat):Option (AV×HX):=
 match o.op with
 | .call ⟨.value f,args,types⟩=>match acallee T ⟨.value f,args,types⟩ with
  |some (f,args)=>if AV.underL m args=true then(match cf f args G j with
   |some (.ret v,H',j')=>if(Nat.beq j' j&& Nat.beq H'.length G.length)=true then some (v,H') else none
   |_=>none) else none
  |none=>none
 |op=>if op.operands.toList.all (fun y=>(aev T y).under m)=true then(match aTv P (aev T) G op with
  |some (sz,ys)=>some (.p (.sl sz ys),G)
  |none=>match sC P (aev T) G op with
   |some (x,H')=>if Nat.beq H'.length G.length=true then some (x,H') else none
   |none=>none) else none
theorem iS {n:Nat} :∀ {xs ys:List AV},AV.underL n (xs++ys)=true->AV.underL n xs=true/\AV.underL n ys=true
 |[],ys,h=>⟨rfl,h⟩
 |x::xs,ys,h=>by
  simp only[bLz,AV.underL,bM8] at h⊢;obtain⟨h1,h2⟩:=iS h.2;exact⟨⟨h.1,h1⟩,h2⟩
theorem tY {l:List AV} (h:AV.underL m l=true):l.map (cutA m)=l:=by
 induction l with
 |nil=>rfl
 |cons x l ih=>
  simp only[AV.underL,bM8] at h;rw[bMd,ih h.2]
  congr 1
  unfold cutA;rw[if_pos h.1]
theorem aAr {T:List AV} {c:Call} {f:FuncId} {args:List AV} (h:acallee T c=some (f,args))(hu:AV.underL m args=true):acallee (T.map (cutA m)) c=some (f,args):=by
 have hm:c.args.toList.map (aev (T.map (cutA m)))=(c.args.toList.map (aev T)).map (cutA m):=by
  rw[bOr];exact List.map_congr_left fun y _=>aev_cut T y
 unfold acallee at h⊢;split at h
 ·rename_i fo hcal;simp only[aev_cut,hm];split at h
  ·rename_i i x y hev;simp only[bM0,bMf] at h;obtain⟨rfl,rfl⟩:=h;rw[hev,tY hu];rfl
  ·rename_i i first cap hev;simp only[bM0,bMf] at h;obtain⟨rfl,rfl⟩:=h;obtain⟨h1,h3⟩:=iS hu;obtain⟨h1,h2⟩:=iS h1
   have:cutA m (.fn (.func i) first cap)= .fn (.func i) first cap:=by
    unfold cutA;rw[if_pos (by simp only[AV.under,h1,h3];rfl)]
   rw[hev,this,tY h2]
  ·cases h
 ·cases h
theorem aL6 {G:Kn} {cf:bF} (hcf:gJ P G cf) {ops:Array Oper} {o:Oper} {T T':List AV} {H H':HX} {j:Nat} {x:AV} (hG:G j ks)(hl:∀d∈o.looksAt ops,tget T' d=tget T d)(hw:awanted ops T o=some true)(h:aL5 P cf m o T H j=some (x,H')):
  H'.length=H.length/\((awanted ops ((T'.map (cutA m)).map (io ks)) o=some true/\aop P (aev ((T'.map (cutA m)).map (io ks))) (iH ks H) o.op=some (io ks x,iH ks H'))\/
   (awanted ops ((T'.map (cutA m)).map (io ks)) o=some true/\∃c f args,o.op= .call c/\acallee ((T'.map (cutA m)).map (io ks)) c=some (f,args)/\aK P f=true/\ACalls P f args (iH ks H) (fun o' g=>o'= .ret (io ks x)/\g=iH ks H'))\/
   (awanted ops ((T'.map (cutA m)).map (io ks)) o=some true/\iH ks H'=iH ks H/\∃sz ys n,io ks x= .p (.sl sz ys)/\aop P (aev ((T'.map (cutA m)).map (io ks))) (iH ks H) o.op=some (.own (iH ks H).length sz ys,iH ks H++[some (.tok n sz)]))):=by
 have hw':awanted ops ((T'.map (cutA m)).map (io ks)) o=some true:=cI _ _ _ (aAx (by rw[hY hl];exact hw));unfold aL5 at h;split at h
 ·rename_i f args types hop;split at h
  ·rename_i f' args' hc;split at h
   ·rename_i hu;split at h
    ·rename_i v H2 j2 hcall;split at h
     ·rename_i hj;simp only[bM8] at hj;have hj1:=Nat.eq_of_beq_eq_true hj.1;have hj2:=Nat.eq_of_beq_eq_true hj.2;subst hj1;simp only[bM0,bMf] at h;obtain⟨rfl,rfl⟩:=h;obtain⟨c1,c2,c3⟩:=hcf _ _ _ _ _ _ _ hcall;refine⟨hj2, .inr (.inl ⟨hw',_,f',args'.map (io ks),hop,?_,c1,(c3 ks hG).mono ?_⟩)⟩
      ·refine gK (aAr ?_ hu);rw[lL (T':=T) _ fun y hy=>aev_congr hl (by rw[hop];simpa [Op.operands] using hy)];exact hc
      ·rintro o' g ⟨ks',a1,a2,rfl,rfl⟩;rw[a2 rfl];exact⟨rfl,rfl⟩
     ·cases h
    ·cases h
   ·cases h
  ·cases h
 ·rename_i nc;split at h
  ·rename_i hu;split at h
   ·rename_i sz ys hx;simp only[bM0,bMf] at h;obtain⟨rfl,rfl⟩:=h;obtain⟨n,hx⟩:=aOl hx;refine⟨rfl, .inr (.inr ⟨hw',rfl,sz,ys,n,eV _ _,?_⟩)⟩;have h1:=jW (ks:=ks) (ρ':=aev (T.map (io ks))) (fun y=>aev_io ks T y) hx;have e1:iH ks (H++[XO.tok n sz])=iH ks H++[some (.tok n sz)]:=by rw[fA];rfl
    rw[mA,e1,<-bJ ks] at h1;exact y5f
   ·split at h
    ·rename_i y H2 hx;split at h
     ·rename_i hlen;simp only[bM0,bMf] at h;obtain⟨rfl,rfl⟩:=h;refine⟨Nat.eq_of_beq_eq_true hlen, .inl ⟨hw',?_⟩⟩;have h1:=jW (ks:=ks) (ρ':=aev (T.map (io ks))) (fun y=>aev_io ks T y) hx;exact y5f
     ·cases h
    ·cases h
  ·cases h
end
def alive:XO->Bool
 | .dead=>false
 |_=>true
structure RS where
 xs:List AV
 HS:List HX
 inits:List XO
 T:List AV
 pend:List (Nat×List AV×Op×AV)
def gI (P:Program)(cf:bF)(ops:Array Oper)(p:Pl)(N j:Nat):List Nat->List AV->HX->List AV->List HX->List XO->List (Nat×List AV×Op×AV)->Option RS
 |[],T,_,xs,HS,inits,pend=>some ⟨xs,HS,inits,T,pend⟩
 |i::is,T,V,xs,HS,inits,pend=>match ops[i]? with
  |none=>none
  |some o=>match awanted ops T o with
   |none=>none
   |some false=>if p.fl.contains i=true then none else gI P cf ops p N j is (tput T o.dst (.tup [])) V (xs++[.tup []]) (if p.chain ops i=true then HS++[V] else HS) inits pend
   | some true=>if p.fl.contains i=true then
     (match aLe P (aev T) (N+inits.length) o.op with
     |some (x,cs)=>if p.fl[inits.length]?=some i then gI P cf ops p N j is (tput T o.dst x) V (xs++[x]) HS (inits++[.cells cs]) pend else none
     |none=>none)
    else match aL5 P cf (N+p.pc i) o T (eP N inits (p.pc i) V) j with
     | some (x,H')=>if p.pc i<=inits.length then(if p.chain ops i=true then
       (if(H'.drop N).all alive=true then gI P cf ops p N j is (tput T o.dst x) (H'++V.drop (N+p.pc i)) (xs++[x]) (HS++[H'++V.drop (N+p.pc i)]) inits pend else none)
      else gI P cf ops p N j is (tput T o.dst x) V (xs++[x]) HS inits (pend++[(i,T,o.op,x)])) else none
     |none=>none
def aMr (P:Program)(ops:Array Oper)(p:Pl)(N:Nat)(R:RS):Bool:=
 R.pend.all fun e=>(List.range R.HS.length).all fun c=>
  !(decide ((List.range ops.size).countP (fun j=>p.chain ops j&& p.pre e.1 j)<=c)&& decide (c<=(List.range ops.size).countP (fun j=>p.chain ops j&& !p.pre j e.1)))||
   fT P e.2.1 e.2.2.1 e.2.2.2 (eP N R.inits (p.pc e.1) (R.HS.getD c []))
def aJf (ops:Array Oper)(p:Pl)(N:Nat)(R:RS):Bool:=
 (List.range R.HS.length).all fun c=>(List.range p.fl.length).all fun k=>match (R.HS.getD c []).getD (N+k) .dead with
  | .dead=>true
  |_=>(List.range ops.size).any fun i=>p.chain ops i&& decide (cnt ops p (fun x=>decide (x<i))<c)&& p.pre i (p.fl.getD k 0)
def aL7 (P:Program)(cf:bF)(lt:LT)(ops:Array Oper)(p:Pl)(T:List AV)(H:HX)(j:Nat)(D:List AD):Option (List AV×HX):=
 match gI P cf ops p H.length j (List.range ops.size) T (H++List.replicate p.fl.length .dead) [] [H++List.replicate p.fl.length .dead] [] [] with
 | some R=>if(Nat.beq R.inits.length p.fl.length&& dU H.length D&& R.HS.all (fun V=>Nat.beq V.length (H.length+p.fl.length)&& (List.range (p.fl.length+1)).all fun k=>(eP H.length R.inits k V).all (fV lt (H.length+k)))&& aMr P ops p H.length R&& aJf ops p H.length R)=true then
   some (R.T,eP H.length R.inits p.fl.length (R.HS.getD (cnt ops p fun _=>true) [])) else none
 |none=>none
end Go.AI.EV
