import Derived.Test.YtplomildbmcmfaaGreatZA0
import Derived.Test.YtplomildbmcmfaaGreatZFG
namespace Go.AI.PC
open Go Go.AI
section
variable {pc:List Nat} {P:Program} {ops:Array Oper} {lo rk:List Nat} {D:List AD} {Q:AX->List AV->Heap->List AD->Prop}
theorem wpOps_post {F:Fence} {n:Nat} {Q1 Q2:Exit->Act->World->Prop} (hq:∀e a w,Q1 e a w->Q2 e a w):∀(τ:List Nat)(a:Act)(w:World),wpOpsIn F n P ops Q1 τ a w->wpOpsIn F n P ops Q2 τ a w
 |[],a,w,h=>by
  simp only[wpOpsIn] at h⊢;exact hq _ _ _ h
 |i::τ,a,w,h=>by
  rw[wpOpsIn_cons] at h⊢;unfold wpOpIn at h⊢;split
  ·rename_i ho;simp only[ho] at h;exact wpOps_post hq τ _ _ h
  ·rename_i o ho;simp only[ho] at h;split
   ·rename_i hw;rw[if_pos hw] at h;exact jP (fun a w=>wpOps_post hq τ a w) hq h
   ·rename_i hw;rw[if_neg hw] at h;exact⟨h.1,wpOps_post hq τ _ _ h.2⟩
def unl (ops:Array Oper)(listed:Array Bool):List Nat:=(List.range ops.size).filter fun i=>!(listed.getD i true)
theorem unl_mem {listed:Array Bool} {i:Nat} :i∈unl ops listed↔i<ops.size/\listed.getD i true=false:=by
 simp only[unl,List.mem_filter,bN6,bN0]
theorem unl_nodup (listed:Array Bool):(unl ops listed).Nodup:=List.Pairwise.filter _ List.nodup_range
theorem unl_set {listed:Array Bool} {i:Nat} (hs:listed.size=ops.size)(hi:i∈unl ops listed):(unl ops (listed.setIfInBounds i true)).length+1=(unl ops listed).length:=by
 exact y3d
structure Lin (ops:Array Oper) (listed:Array Bool) (τ:List Nat):Prop where
 mem:∀i,i∈τ↔i∈unl ops listed
 nodup:τ.Nodup
 ready:∀τ1 i τ2,τ=τ1++i::τ2->∀o,ops[i]?=some o->∀e∈o.after,Region.binds .any e=true->listed.getD e.on false=true\/e.on∈τ1
theorem lin_spec {π0:List Nat} (hcov:∀i,i<ops.size->i∈π0)(hlt:∀i∈π0,i<ops.size)(hready:∀π1 i π2,π0=π1++i::π2->∀o,ops[i]?=some o->∀e∈o.after,Region.binds .any e=true->e.on∈π1):
  ∀(fuel t:Nat) (listed:Array Bool),listed.size=ops.size->(unl ops listed).length=fuel->Lin ops listed (Region.linearise.go .any ops fuel t listed [])
 |0,t,listed,hs,hl=>by
  have h0:unl ops listed=[]:=bOq.1 hl;simp only[Region.linearise.go,List.reverse_nil];exact⟨fun i=>by rw[h0],List.nodup_nil,fun τ1 i τ2 h=>by simp at h⟩
 |fuel+1,t,listed,hs,hl=>by
  have hne:Region.ready .any ops listed≠[]:=by
   --the first of the order that is not listed
   exact y2d
  simp only[Region.linearise.go]
  change Lin ops listed (match (Region.ready .any ops listed)[t%(Region.ready .any ops listed).length]? with
   |some i=>Region.linearise.go .any ops fuel (t/(Region.ready .any ops listed).length) (listed.setIfInBounds i true) [i]
   |none=>[].reverse)
  cases hi:(Region.ready .any ops listed)[t%(Region.ready .any ops listed).length]? with
  |none=>
   exact y53
  |some i=>
   exact y2f
theorem before_of {pr:Nat->Nat->Bool} {art:List (Nat×Nat)} {τ:List Nat} (hlt:∀i∈τ,i<ops.size)
  (hE:∀i j,i<ops.size->pr j i=true->(∃o e,ops[i]?=some o/\e∈o.after/\Region.binds .any e=true/\(e.on=j\/pr j e.on=true))\/∃u,(u,i)∈art/\(u=j\/pr j u=true))
  (hR:∀τ1 i τ2,τ=τ1++i::τ2->∀o,ops[i]?=some o->∀e∈o.after,Region.binds .any e=true->e.on∈τ1) (hA:∀u v,(u,v)∈art->∀τ1 τ2,τ=τ1++v::τ2->u∈τ1):
  ∀(n:Nat) τ1 i τ2,τ1.length<=n->τ=τ1++i::τ2->∀j,pr j i=true->j∈τ1:=by
 intro n
 induction n with
 |zero=>
  intro τ1 i τ2 hn hτ j hj;exact y3z
 |succ n ih=>
  intro τ1 i τ2 hn hτ j hj;exact y2v
theorem split_unique {α:Type} {x:α} :∀ {a b c d:List α},(a++x::b).Nodup->a++x::b=c++x::d->a=c
 |[],b,[],d,_,_=>rfl
 |[],b,y::c,d,hn,h=>by
  simp only[bM4,bLz,bMz] at h;obtain⟨rfl,rfl⟩:=h;simp at hn
 |y::a,b,[],d,hn,h=>by
  simp only[bM4,bLz,bMz] at h;obtain⟨rfl,rfl⟩:=h;simp at hn
 |y::a,b,z::c,d,hn,h=>by
  simp only[bLz,bMz] at h;obtain⟨rfl,h⟩:=h;rw[bLz,bNd] at hn;rw[split_unique hn.2 h]
theorem pairwise_of_before {pr:Nat->Nat->Bool} {τ:List Nat} (hn:τ.Nodup)(hb:∀τ1 i τ2,τ=τ1++i::τ2->∀j,pr j i=true->j∈τ1):τ.Pairwise (fun i j=>pr j i=false):=by
 rw[List.pairwise_iff_forall_sublist];intro i j hs
 cases hp:pr j i with
 |false=>rfl
 |true=>
  exfalso;have hi:i∈τ:=hs.subset aA;obtain⟨a,b,hab⟩:=bNt hi;have hj:j∈a:=hb a i b hab j hp
  --i stands ahead of j
  obtain⟨c,d,hcd⟩:=bNt hj;subst hcd;subst hab
  have hij:i≠j:=by
   have:=hn.sublist hs;simp at this;exact this
  have h1:List.Sublist [i,j] (c++j::(d++i::b)):=by simpa using hs
  have hn2:(c++j::(d++i::b)).Nodup:=by simpa using hn
  rw[List.sublist_append_iff] at h1;obtain⟨l1,l2,he,s1,s2⟩:=h1;rw[List.nodup_append] at hn2;obtain⟨n1,n2,n3⟩:=hn2
  match l1,he with
  |[],he=>
   exact y4a
  |x::l1,he=>
   exact y5s
end
def edgeM (ops:Array Oper)(pr:Nat->Nat->Bool)(art:List (Nat×Nat))(i:Nat):Bool:=
 (List.range ops.size).all fun j=>!pr j i||(match ops[i]? with
  |some o=>o.after.any fun e=>Region.binds .any e&& (e.on==j||pr j e.on)
  |none=>false)||art.any fun p=>p.2==i&& (p.1==j||pr j p.1)
section
variable {pc:List Nat} {P:Program} {rd:Option Nat} {nb:Nat} {ops:Array Oper} {D:List AD} {Q:AX->List AV->Heap->List AD->Prop} {k:List It} {T:List AV} {h:Heap}
end
end Go.AI.PC
namespace Go.AI.EV
open Go Go.AI
open Go.AI.PC (wpOps_post Lin lin_spec unl_mem unl before_of split_unique pairwise_of_before edgeM)
section
variable {P:Program} {ops:Array Oper} {lo rk:List Nat} {D:List AD} {Q:AX->List AV->Heap->List AD->Prop}
theorem uA {rd:Option Nat} {nb:Nat} {k:List It} {Kont:List AV->Heap->Prop} {pr:Nat->Nat->Bool} (J:∀T h,Kont T h->Run P rd nb k T h D Q):
  ∀(τ π:List Nat) (hist:List Heap) (T:List AV) (h:Heap),π.Perm τ->τ.Pairwise (fun i j=>pr j i=false)->π.Pairwise (fun j i=>pr j i=true\/Loose ops lo rk j i)->Ranked ops rk π hist.length->
   DR P ops lo Kont π hist T h->∀E w a,St E w a T h D->wpOpsIn (fen rd) 0 P ops (K P rd (Post nb Q E h w) k) τ a w
 |[],π,hist,T,h,hp,_,_,_,d,E,w,a,s=>by
  have:=hp.eq_nil;subst this;simp only[wpOpsIn];exact J T h d E w a s
 |i::τ,π,hist,T,h,hp,hτ,hπp,hrk,d,E,w,a,s=>by
  have hin:i∈π:=hp.mem_iff.2 aA;obtain⟨π1,π2,hπ⟩:=bNt hin;subst hπ;have hp':(π1++π2).Perm τ:=(List.perm_middle.symm.trans hp).cons_inv;rw[List.pairwise_cons] at hτ
  have hloose:∀j∈π1,Loose ops lo rk j i:=by
   intro j hj;exact y5b
  have d':=dr_front π1 π2 hist T h hloose hrk d;simp only[DR] at d';rw[wpOpsIn_cons];refine drStep_wp d' s ?_;rintro hist' T' h' E' w' a' ⟨t,rfl,ht⟩ dn s' hfr
  have hr':Ranked ops rk (π1++π2) (hist++t).length:=by
   rw[bM5,ht]
   by_cases hE:((ops[i]?).map fun o=>isE o.op)=some true
   ·exact y3s
   ·exact y4t
  have hsub:List.Sublist (π1++π2) (π1++i::π2):=List.Sublist.append (List.Sublist.refl _) (List.sublist_cons_self _ _);have:=uA J τ (π1++π2) (hist++t) T' h' hp' hτ.2 (hπp.sublist hsub) hr' dn E' w' a' s';exact y82
end
def nK (ops:Array Oper)(lo rk tbl:List Nat)(art:List (Nat×Nat))(π:List Nat):Bool:=
 (π.all fun i=>decide (i<ops.size))&& ((List.range ops.size).all fun i=>π.contains i)&& ((List.range ops.size).all fun i=>edgeM ops (prB tbl ops.size) art i)&&
 pairB ops lo rk (prB tbl ops.size) π&& readyB ops [] π&& rankB ops rk π 0
section
variable {P:Program} {rd:Option Nat} {nb:Nat} {ops:Array Oper} {D:List AD} {Q:AX->List AV->Heap->List AD->Prop} {k:List It} {T:List AV} {h:Heap}
theorem qV {lo rk tbl:List Nat} {art:List (Nat×Nat)} {π τ:List Nat} (hok:nK ops lo rk tbl art π=true)(L:Lin ops (Array.replicate ops.size false) τ)(hA:∀u v,(u,v)∈art->∀τ1 τ2,τ=τ1++v::τ2->u∈τ1)
  (d:DR P ops lo (fun T h=>Run P rd nb k T h D Q) π [] T h):∀E w a,St E w a T h D->wpOpsIn (fen rd) 0 P ops (K P rd (Post nb Q E h w) k) τ a w:=by
 simp only[nK,bM8,bMg,bMi,bN6] at hok;obtain⟨⟨⟨⟨⟨h1,h2⟩,h3⟩,h4⟩,h5⟩,h6⟩:=hok;obtain⟨hnd,hpw⟩:=pairB_sound h4
 have hun:∀i,i∈τ↔i<ops.size:=fun i=>by
  exact y7v
 have hperm:π.Perm τ:=by
  exact y62
 have hR:∀τ1 i τ2,τ=τ1++i::τ2->∀o,ops[i]?=some o->∀e∈o.after,Region.binds .any e=true->e.on∈τ1:=by
  intro τ1 i τ2 hτ o ho e he hb;exact y6d
 have hE:∀i j,i<ops.size->prB tbl ops.size j i=true->(∃o e,ops[i]?=some o/\e∈o.after/\Region.binds .any e=true/\(e.on=j\/prB tbl ops.size j e.on=true))\/∃u,(u,i)∈art/\(u=j\/prB tbl ops.size j u=true):=by
  intro i j hi hp;exact y2q
 have hb:=fun τ1 i τ2 hτ=>before_of (fun i hi=>(hun i).1 hi) hE hR hA τ1.length τ1 i τ2 (bLx _) hτ
 exact uA (fun T h r=>r) τ π [] T h hperm (pairwise_of_before L.nodup hb) hpw (rankB_sound h6) d
theorem aCh {lo rk tbl:List Nat} {art:List (Nat×Nat)} {π:List Nat} (hok:nK ops lo rk tbl art π=true)(t:Nat):Lin ops (Array.replicate ops.size false) (Region.linearise.go .any ops ops.size t (Array.replicate ops.size false) []):=by
 simp only[nK,bM8,bMg,bMi,bN6] at hok;exact y3b
structure Pl2 where
 x:Nat
 y:Nat
 lo1:List Nat
 rk1:List Nat
 tbl1:List Nat
 π1:List Nat
 lo2:List Nat
 rk2:List Nat
 tbl2:List Nat
 π2:List Nat
def aR2 (ops:Array Oper)(p:Pl2):Bool:=decide (p.x<ops.size)&& decide (p.y<ops.size)&& (p.x !=p.y)&& nK ops p.lo1 p.rk1 p.tbl1 [(p.x,p.y)] p.π1&& nK ops p.lo2 p.rk2 p.tbl2 [(p.y,p.x)] p.π2
theorem aXc {id:Nat} {p:Pl2} (hm:P.follows .mixedOrders=true)(hok:aR2 ops p=true)
  (d1:DR P ops p.lo1 (fun T h=>Run P rd nb k T h D Q) p.π1 [] T h) (d2:DR P ops p.lo2 (fun T h=>Run P rd nb k T h D Q) p.π2 [] T h):Run P rd nb (.code (.region id ops true)::k) T h D Q:=by
 intro E w a s;refine wpIn_region_draw fun t=>?_
 simp only[Region.schedule,hm,bOs,if_true];obtain⟨s',hfr⟩:=s.drew;simp only[aR2,bM8,bMi,bne_iff_ne,ne_eq] at hok;obtain⟨⟨⟨⟨hx,hy⟩,hne⟩,hok1⟩,hok2⟩:=hok;have L:=aCh hok1 t;refine yy ?_;generalize Region.linearise.go .any ops ops.size t (Array.replicate ops.size false) []=τ at L;have hmx:p.x∈τ:=(L.mem p.x).2 (unl_mem.2 ⟨hx,by simp[hx]⟩);have hmy:p.y∈τ:=(L.mem p.y).2 (unl_mem.2 ⟨hy,by simp[hy]⟩)
 have fin:(∀E w a,St E w a T h D->wpOpsIn (fen rd) 0 P ops (K P rd (Post nb Q E h w) k) τ a w)->wpOpsIn (fen rd) 0 P ops (K P rd (Post nb Q E h w) k) τ a {w with drawn:=w.drawn+1} :=fun hall=>
  wpOps_post (K_mono (P:=P) (rd:=rd) (Post.of_fr (Q:=Q) hfr) k) τ _ _ (hall E _ a s')
 obtain⟨a1,b1,hab⟩:=bNt hmy;have hnd:=L.nodup;rw[hab] at hmx;rcases bMo.1 hmx with hxa|hxb
 ·refine fin (qV hok1 L (fun u v hp τ1 τ2 hτ=>?_) d1);simp at hp;obtain⟨rfl,rfl⟩:=hp;rw[<-split_unique (by rw[<-hab];exact hnd) (hab.symm.trans hτ)];exact hxa
 ·rcases bMh.1 hxb with e|hxc
  ·exact absurd e hne
  refine fin (qV hok2 L (fun u v hp τ1 τ2 hτ=>?_) d2);simp at hp;obtain⟨rfl,rfl⟩:=hp;obtain⟨c,d,hcd⟩:=bNt hxc;have hab2:τ=(a1++p.y::c)++p.x::d:=by rw[hab,hcd];simp
  rw[<-split_unique (by rw[<-hab2];exact hnd) (hab2.symm.trans hτ)];simp
end
def mB (l:List Oper)(T:List AV):List AV:=l.foldl (fun T o=>tput T o.dst .junk) T
def sO (ops:Array Oper)(T:List AV):List AV:=mB ops.toList T
theorem aSe (T:List AV)(d:Option Tmp)(x:AV):(tput T d x).length=T.length:=by cases d<;>simp[tput]
theorem sW (T:List AV)(d:Option Tmp)(s:Nat):tget (tput T d .junk) s=if d=some s then .junk else tget T s:=by
 cases d with
 |none=>simp[tput]
 |some d=>
  simp only[tput,tget_eq,List.getD]
  by_cases e:d=s
  ·subst e;rw[List.getElem?_set_self']
   cases T[d]?<;>simp
  ·rw[bMl e];simp[e]
theorem nF:∀(l:List Oper)(T:List AV),(mB l T).length=T.length/\∀s,tget (mB l T) s=if l.any (fun o=>decide (o.dst=some s))=true then .junk else tget T s
 |[],T=>⟨rfl,fun s=>by simp[mB]⟩
 |o::l,T=>by
  obtain⟨h1,h2⟩:=nF l (tput T o.dst .junk);refine⟨h1.trans (aSe _ _ _),fun s=>?_⟩;have e:mB (o::l) T=mB l (tput T o.dst .junk):=rfl;rw[e,h2 s,sW];simp only[List.any_cons,bNe,bMi]
  by_cases a:o.dst=some s<;>by_cases b:l.any (fun o=>decide (o.dst=some s))=true<;>simp[a,b]
theorem aSd {T T':List AV} (hl:T'.length=T.length)(h:∀s,tget T' s=tget T s):T'=T:=by
 refine List.ext_getElem hl fun i h1 h2=>?_
 have:=h i;simp only[tget_eq,List.getD,bLv h1,bLv h2,bMc] at this;exact this
theorem aC8 {ops:Array Oper} {T T':List AV} (h:Go.AI.aT4 ops T T'):sO ops T'=sO ops T:=by
 obtain⟨l1,g1⟩:=nF ops.toList T';obtain⟨l2,g2⟩:=nF ops.toList T;refine aSd (l1.trans (h.1.trans l2.symm)) fun s=>?_
 unfold sO;rw[g1,g2]
 by_cases b:ops.toList.any (fun o=>decide (o.dst=some s))=true
 ·rw[if_pos b,if_pos b]
 ·rw[if_neg b,if_neg b];refine h.2 s ?_;rw[bOe];intro o ho;simp only[bne_iff_ne,ne_eq];intro e;exact b (bOk.2 ⟨o,by simpa using ho,by simpa using e⟩)
theorem zH {E:Env} {w:World} :∀ {l:List AV} {vs:List Value} (i:Nat),RepL E w l vs->RepL E w (l.set i .junk) vs
 |[],vs,i,r=>by simpa using r
 |x::l,vs,0,r=>by
  simp only[RepL,bO1] at r⊢;obtain⟨v,us,e,_,r2⟩:=r;exact⟨v,us,e,by simp only[Rep],r2⟩
 |x::l,vs,i+1,r=>by
  simp only[RepL,bOc] at r⊢;obtain⟨v,us,e,r1,r2⟩:=r;exact⟨v,us,e,r1,zH i r2⟩
theorem uE {E:Env} {w:World} {vs:List Value} :∀(l:List Oper)(T:List AV),RepL E w T vs->RepL E w (mB l T) vs
 |[],T,r=>r
 |o::l,T,r=>by
  have e:mB (o::l) T=mB l (tput T o.dst .junk):=rfl;rw[e];refine uE l _ ?_
  cases o.dst with
  |none=>exact r
  |some d=>exact zH d r
section
variable {P:Program} {rd:Option Nat} {nb:Nat} {ops:Array Oper} {D:List AD} {Q:AX->List AV->Heap->List AD->Prop} {k:List It} {T:List AV} {h:Heap}
theorem aSa {id:Nat} (lo rk tbl π:List Nat)(e:Nat)(hm:P.follows .mixedOrders=true)(hok:okDraw ops lo rk tbl (some e) π=true)(d:DR P ops lo (aT7 P ops (fun x T' h' D'=>Q x (sO ops T') h' D') D e) π [] T h):Run P rd nb (.code (.region id ops true)::k) T h D Q:=by
 have key:Run P rd nb (.code (.region id ops true)::k) T h D (fun x T' h' D'=>Q x (sO ops T') h' D'):=Run.drawPanicG lo rk tbl π e hm hok d;exact fun E w a hs=>K_mono (by rintro e a x ⟨E2,T2,h2,D2,x2,hq2,st,hr⟩;exact⟨E2,sO ops T2,h2,D2,x2,hq2, {st with tmps:=uE ops.toList _ st.tmps},hr⟩) _ _ _ _ (key E w a hs)
end
end Go.AI.EV
namespace Go.AI
open Go
section
variable {P:Program} {rd:Option Nat} {nb:Nat} {all:Array Oper} {k:List It} {T:List AV} {h:Heap} {D:List AD} {Q:AX->List AV->Heap->List AD->Prop} {o:Oper} {rest:List Oper}
theorem aQ8 {P:Program} {w:World} {t:TypeId} {ox:Operand} {a b c} (ht:P.underlying t=some (.func a b c))(x:Value)(r:Bool)(hx:(x= .nilFunc/\r=true)\/(∃f u v,x= .func f u v)/\r=false):
  (do eqGuard .eql t ox (.const .nilFunc) x .nilFunc;binOp .eql t x .nilFunc:Sem Value).run P w= .ok (.bool r) w:=by
 have h1:∀d,(Op.equalIn (d+1) t .nilFunc .nilFunc).run P w= .ok true w:=by
  intro d;simp only[Op.equalIn,Sem.run_bind,run_underlying ht,Result.andThen_ok];rfl
 have h2:∀d f u v,(Op.equalIn (d+1) t (.func f u v) .nilFunc).run P w= .ok false w:=by
  intro d f u v;simp only[Op.equalIn,Sem.run_bind,run_underlying ht,Result.andThen_ok];rfl
 have e1:(Op.equal t .nilFunc .nilFunc).run P w= .ok true w:=h1 9999;have e2:∀f u v,(Op.equal t (.func f u v) .nilFunc).run P w= .ok false w:=h2 9999
 have g1:(eqGuard .eql t ox (.const .nilFunc) .nilFunc .nilFunc).run P w= .ok () w:=by
  unfold eqGuard;simp
 have g2:∀f u v,(eqGuard .eql t ox (.const .nilFunc) (.func f u v) .nilFunc).run P w= .ok () w:=by
  intro f u v;unfold eqGuard;rfl
 rcases hx with ⟨rfl,rfl⟩|⟨⟨f,u,v,rfl⟩,rfl⟩
 ·simp[g1,binOp,e1]
 ·simp[g2,binOp,e2]
theorem Run.funcNil (r:Bool) {t t2:TypeId} {x:Operand} (ho:o.op= .binOp .eql t x (.const .nilFunc) t2)(hw:awanted all T o=some true)(ht:∃a b c,P.underlying t=some (.func a b c))
  (hx:(aev T x= .p (.prim .nilFunc)/\r=true)\/(∃f u v,aev T x= .fn f u v)/\r=false)
  (n:Run P rd nb (.ops all rest::k) (tput T o.dst (.p (.prim (.bool r)))) h D Q):Run P rd nb (.ops all (o::rest)::k) T h D Q:=by
 refine Run.opR (R:=fun y h'=>y= .p (.prim (.bool r))/\h'=h) hw (fun c hc=>by rw[hc] at ho;cases ho) ?_ (by rintro y h' ⟨rfl,rfl⟩;exact n);obtain⟨a,b,c,ht⟩:=ht;intro E w ac s;have hr:=aev_rep s x;refine⟨_,_,E,w, .bool r,⟨rfl,rfl⟩,?_,s.rel,s.fresh,by simp[Rep,RepP,isPrim],Fr.refl _ _ _⟩
 have:((do eqGuard .eql t x (.const .nilFunc) (ac.eval x) .nilFunc;binOp .eql t (ac.eval x) .nilFunc:Sem Value)).run P w= .ok (.bool r) w:=by
  refine aQ8 ht _ _ ?_;rcases hx with ⟨e,rfl⟩|⟨⟨f,u,v,e⟩,rfl⟩
  ·rw[e] at hr;simp only[Rep,RepP] at hr;exact .inl ⟨hr.1,rfl⟩
  ·rw[e] at hr;simp only[Rep] at hr;obtain⟨vs,us,e2,_,_⟩:=hr;exact .inr ⟨⟨_,_,_,e2⟩,rfl⟩
 have hq:ac.eval (.const .nilFunc)= .nilFunc:=rfl;simp only[execOp,ho,hq];rw[Sem.run_bind,this]
 rfl
end
end Go.AI
