import Derived.Test.YtplomildbmcmfaaGreatZA0
import Derived.Test.YtplomildbmcmfaaGreatZFI
namespace Go.AI.NB
open Go Go.AI
def eF (pc:List Nat)(i:Nat)(o:Oper):Bool:=(isE o.op||pc.contains (i+1000))&& !(decide (i<1000)&& pc.contains i)
def still (pc:List Nat):Prop:=∀p∈pc,1000<=p
theorem still.note {pc:List Nat} (h:still pc) {i:Nat} {o:Oper} (he:eF pc i o=false):isE o.op=false:=by
 unfold eF at he
 have hc:(decide (i<1000)&& pc.contains i)=false:=by
  exact y56
 rw[hc] at he;simp only[bO8,Bool.and_true,bNn] at he;exact he.1
theorem still.nf {pc:List Nat} (h:still pc)(i:Nat):(decide (i<1000)&& pc.contains i)=false:=by
 exact y56
theorem still.eff {pc:List Nat} (h:still pc) {i:Nat} {o:Oper} (he:isE o.op=true):eF pc i o=true:=by
 unfold eF;rw[h.nf,he];rfl
theorem still.effM {pc:List Nat} (h:still pc) {i:Nat} {o:Oper} (he:pc.contains (i+1000)=true):eF pc i o=true:=by
 unfold eF;rw[h.nf,he];simp
def pv (P:Program)(T:List AV)(o:Oper)(x:AV)(g:Heap):Prop:=
 aop P (aev T) g o.op=some (x,g)\/∃c f args,o.op= .call c/\acallee T c=some (f,args)/\aK P f=true/\ACalls P f args g (fun o' g'=>o'= .ret x/\g'=g)
theorem aN9 {P:Program} {all:Array Oper} {T:List AV} {g:Heap} {o:Oper} {dst:Option Tmp} {y x:AV} (hd:∀d,dst=some d->d∉o.looksAt all):pv P (tput T dst y) o x g=pv P T o x g:=by
 apply propext;unfold pv;rw[oX hd];refine or_congr Iff.rfl ⟨?_,?_⟩
 ·rintro⟨c,f,args,h1,h2,h3⟩;exact⟨c,f,args,h1,by rwa [cL h1 hd] at h2,h3⟩
 ·rintro⟨c,f,args,h1,h2,h3⟩;exact⟨c,f,args,h1,by rwa [cL h1 hd],h3⟩
def stab (P:Program)(T:List AV)(x:AV)(o:Oper):List Heap->Prop
 |[]=>True
 |g::gs=>pv P T o x g/\stab P T x o gs
theorem stab_iff {P:Program} {T:List AV} {x:AV} {o:Oper} :∀ {l:List Heap},stab P T x o l↔∀g∈l,pv P T o x g
 |[]=>by simp[stab]
 |g::gs=>by simp[stab,stab_iff (l:=gs)]
def NStep (P:Program)(T:List AV)(o:Oper)(h:Heap)(R:AV->Heap->Prop):Prop:=
 (∃c f args,o.op= .call c/\acallee T c=some (f,args)/\aK P f=true/\ACalls P f args h (fun o' g=>∃v,o'= .ret v/\R v g))\/
 ((∀c,o.op≠ .defer c)/\∀T',(∀y∈o.op.operands,aev T' y=aev T y)->∀E w a D,St E w a T' h D->∃x h' E' w' v,R x h'/\(execOp a.eval o).run P w= .ok (.value v) w'/\Rel E' (Heap.at h') w'/\Fresh E' h'.length/\Rep E' w' x v/\Fr E (Heap.at h) w E' (Heap.at h') w')
theorem NStep.tput {P:Program} {all:Array Oper} {T:List AV} {o:Oper} {h:Heap} {R:AV->Heap->Prop} {dst:Option Tmp} {x:AV} (hd:∀d,dst=some d->d∉o.looksAt all)(s:NStep P T o h R):NStep P (AI.tput T dst x) o h R:=by
 have hop:∀y∈o.op.operands,aev (AI.tput T dst x) y=aev T y:=fun y hy=>lM fun d e hyd=>hd d e (by
  subst hyd;exact bNl _ (List.mem_filterMap.2 ⟨.tmp d,by simpa using hy,rfl⟩))
 rcases s with ⟨c,f,args,h1,h2,h3⟩|⟨h1,h2⟩
 ·exact .inl ⟨c,f,args,h1,by rw[cL h1 hd];exact h2,h3⟩
 ·exact .inr ⟨h1,fun T' hT=>h2 T' fun y hy=>by rw[hT y hy,hop y hy]⟩
theorem bDq {P:Program} {T:List AV} {o:Oper} {x y:AV} {g:Heap} (he:isE o.op=false)(h1:pv P T o x g)(h2:pv P T o y g):x=y:=by
 have key:∀z,pv P T o z g->aop P (aev T) g o.op=some (z,g):=by
  intro z hz;rcases hz with hz|⟨c,f,args,e1,e2,_⟩
  ·exact hz
  ·exfalso;rw[e1] at he;obtain⟨callee,a,t⟩:=c
   cases callee with
   |value v=>simp[isE] at he
   |invoke r m=>simp[acallee] at e2
   |builtin b=>simp[acallee] at e2
 have:=(key x h1).symm.trans (key y h2);simpa using this
section
variable (pc:List Nat) (P:Program) (ops:Array Oper) (lo:List Nat) (Kont:List AV->Heap->Prop)
def drStep (i:Nat)(next:List Heap->List AV->Heap->Prop)(hist:List Heap)(T:List AV)(h:Heap):Prop:=
 ∃o,ops[i]?=some o/\
  ((awanted ops T o=some false/\next (if eF pc i o then hist++[h] else hist) (tput T o.dst (.tup [])) h)\/
   (awanted ops T o=some true/\eF pc i o=false/\∃x,pv P T o x h/\stab P T x o (hist.drop (lo.getD i 0))/\next hist (tput T o.dst x) h)\/
   (awanted ops T o=some true/\eF pc i o=true/\∃x h',aop P (aev T) h o.op=some (x,h')/\next (hist++[h]) (tput T o.dst x) h')\/
   (awanted ops T o=some true/\eF pc i o=true/\∃c f args h',o.op= .call c/\acallee T c=some (f,args)/\aK P f=true/\
     ∃v,ACalls P f args h (fun o' g=>o'= .ret v/\g=h')/\next (hist++[h]) (tput T o.dst v) h')\/
   (awanted ops T o=some true/\eF pc i o=true/\still pc/\∃R,NStep P T o h R/\(∃x g,R x g)/\∀x g,R x g->next (hist++[h]) (tput T o.dst x) g))
def DR:List Nat->List Heap->List AV->Heap->Prop
 |[],_,T,h=>Kont T h
 |i::π,hist,T,h=>drStep pc P ops lo i (DR π) hist T h
end
section
variable {pc:List Nat} {P:Program} {ops:Array Oper} {lo:List Nat} {Kont:List AV->Heap->Prop}
theorem drStep_mono {i:Nat} {n n':List Heap->List AV->Heap->Prop} {hist:List Heap} {T:List AV} {h:Heap} (hn:∀hist' T' h',(∃t,hist'=hist++t/\t.length=if((ops[i]?).map fun o=>eF pc i o)=some true then 1 else 0)->n hist' T' h'->n' hist' T' h')
  (d:drStep pc P ops lo i n hist T h):drStep pc P ops lo i n' hist T h:=by
 obtain⟨o,ho,hd⟩:=d;refine⟨o,ho,?_⟩;simp only[ho,bN2,bM0] at hn;rcases hd with ⟨h1,h2⟩|⟨h1,h2,x,h3,h4,h5⟩|⟨h1,h2,x,h',h3,h4⟩|⟨h1,h2,c,f,args,h',h3,h4,h5,h6⟩|⟨h1,h2,h3,R,h4,h5,h6⟩
 ·refine .inl ⟨h1,hn _ _ _ ?_ h2⟩;exact y7z
 ·exact y80
 ·exact y7t
 ·exact y5t
 ·exact .inr (.inr (.inr (.inr ⟨h1,h2,h3,R,h4,h5,fun x g hx=>hn _ _ _ ⟨[h],rfl,by simp[h2]⟩ (h6 x g hx)⟩)))
theorem dr_swap {i j:Nat} {oi oj:Oper} (hi:ops[i]?=some oi)(hj:ops[j]?=some oj)(hap:oi.apart ops oj=true)(hE:eF pc i oi=false) {next:List Heap->List AV->Heap->Prop} {hist:List Heap} {T:List AV} {h:Heap}
  (hrank:eF pc j oj=true->lo.getD i 0<=hist.length)
  (d:drStep pc P ops lo j (drStep pc P ops lo i next) hist T h):drStep pc P ops lo i (drStep pc P ops lo j next) hist T h:=by
 obtain⟨a1,a2,a3⟩:=Oper.apart_spec hap;obtain⟨oj',hj',hd⟩:=d;rw[hj] at hj';cases hj'
 --what i does behind j,told of the slots ahead of j
 have inner:∀(hist':List Heap) (y:AV) (h':Heap),(eF pc j oj=false->h'=h/\hist'=hist)->(eF pc j oj=true->hist'=hist++[h])->drStep pc P ops lo i next hist' (tput T oj.dst y) h'->
   ∃x,((awanted ops T oi=some false/\x= .tup [])\/(awanted ops T oi=some true/\pv P T oi x h/\stab P T x oi (hist.drop (lo.getD i 0))))/\next hist' (tput (tput T oi.dst x) oj.dst y) h':=by
  intro hist' y h' e1 e2 di;obtain⟨o,ho,hd⟩:=di;rw[hi] at ho;cases ho;have hw:awanted ops (tput T oj.dst y) oi=awanted ops T oi:=dF a3;have hop:∀g x,pv P (tput T oj.dst y) oi x g=pv P T oi x g:=fun g x=>aN9 a3
  have hcm:∀x,tput (tput T oj.dst y) oi.dst x=tput (tput T oi.dst x) oj.dst y:=fun x=>aA5 _ _ fun d e e'=>a2 d e' e
  rw[hw] at hd;simp only[hE,bMe,false_and,and_false,or_false,if_false,hop,hcm] at hd;rcases hd with ⟨h1,h2⟩|⟨h1,_,x,h3,h4,h5⟩
  ·exact⟨.tup [], .inl ⟨h1,rfl⟩,h2⟩
  ·refine⟨x, .inr ⟨h1,?_⟩,h5⟩;rw[stab_iff] at h4;simp only[hop] at h4
   cases hEj:eF pc j oj with
   |false=>
    obtain⟨rfl,rfl⟩:=e1 hEj;exact⟨h3,stab_iff.2 h4⟩
   |true=>
    exact y4v
 --j ahead of which i has been done
 have outer:∀x,awanted ops (tput T oi.dst x) oj=awanted ops T oj/\(∀g,aop P (aev (tput T oi.dst x)) g oj.op=aop P (aev T) g oj.op)/\(∀c,oj.op= .call c->acallee (tput T oi.dst x) c=acallee T c)/\(∀y l,stab P (tput T oi.dst x) y oj l↔stab P T y oj l)/\(∀g y,pv P (tput T oi.dst x) oj y g=pv P T oj y g):=by
  intro x;have hop:∀g,aop P (aev (tput T oi.dst x)) g oj.op=aop P (aev T) g oj.op:=fun g=>oX a1
  have hpv:∀g y,pv P (tput T oi.dst x) oj y g=pv P T oj y g:=fun g y=>aN9 a1
  exact⟨dF a1,hop,fun c hc=>cL hc a1,fun y l=>by rw[stab_iff,stab_iff];simp only[hpv],hpv⟩
 have close:∀x,((awanted ops T oi=some false/\x= .tup [])\/(awanted ops T oi=some true/\pv P T oi x h/\stab P T x oi (hist.drop (lo.getD i 0))))->
   drStep pc P ops lo j next hist (tput T oi.dst x) h->drStep pc P ops lo i (drStep pc P ops lo j next) hist T h:=by
  intro x hx hdj;refine⟨oi,hi,?_⟩;rcases hx with ⟨h1,rfl⟩|⟨h1,h2,h3⟩
  ·exact .inl ⟨h1,by simpa [hE] using hdj⟩
  ·exact .inr (.inl ⟨h1,hE,x,h2,h3,hdj⟩)
 rcases hd with ⟨h1,h2⟩|⟨h1,h2,y,h3,h4,h5⟩|⟨h1,h2,y,h',h3,h4⟩|⟨h1,h2,c,f,args,h',h3,h4,h5,h6⟩|⟨h1,h2,h3,R,h4,⟨y0,g0,hR0⟩,h6⟩
 ·obtain⟨x,hx,hn⟩:=inner _ _ _ (fun e=>⟨rfl,by simp[e]⟩) (fun e=>by simp[e]) h2;obtain⟨o1,o2,o3,o4,o5⟩:=outer x;exact close x hx ⟨oj,hj, .inl ⟨by rw[o1];exact h1,hn⟩⟩
 ·obtain⟨x,hx,hn⟩:=inner hist y h (fun _=>⟨rfl,rfl⟩) (fun e=>by rw[h2] at e;cases e) h5;obtain⟨o1,o2,o3,o4,o5⟩:=outer x;exact close x hx ⟨oj,hj, .inr (.inl ⟨by rw[o1];exact h1,h2,y,by rw[o5];exact h3,(o4 y _).2 h4,hn⟩)⟩
 ·obtain⟨x,hx,hn⟩:=inner (hist++[h]) y h' (fun e=>by rw[h2] at e;cases e) (fun _=>rfl) h4;obtain⟨o1,o2,o3,o4,o5⟩:=outer x;exact y6x
 ·obtain⟨v,h7,h8⟩:=h6;obtain⟨x,hx,hn⟩:=inner (hist++[h]) v h' (fun e=>by rw[h2] at e;cases e) (fun _=>rfl) h8;obtain⟨o1,o2,o3,o4,o5⟩:=outer x;exact y5v
 ·have hEi:isE oi.op=false:=still.note h3 hE;obtain⟨x,hx,_⟩:=inner (hist++[h]) y0 g0 (fun e=>by rw[h2] at e;cases e) (fun _=>rfl) (h6 y0 g0 hR0);obtain⟨o1,o2,o3,o4,o5⟩:=outer x;refine close x hx ⟨oj,hj, .inr (.inr (.inr (.inr ⟨by rw[o1];exact h1,h2,h3,R,h4.tput a1,⟨y0,g0,hR0⟩,fun y g hR=>?_⟩)))⟩;obtain⟨x',hx',hn'⟩:=inner (hist++[h]) y g (fun e=>by rw[h2] at e;cases e) (fun _=>rfl) (h6 y g hR)
  have he:x'=x:=by
   rcases hx with ⟨k1,k2⟩|⟨k1,k2,_⟩<;>rcases hx' with ⟨l1,l2⟩|⟨l1,l2,_⟩
   ·rw[k2,l2]
   ·rw[k1] at l1;cases l1
   ·rw[k1] at l1;cases l1
   ·exact bDq hEi l2 k2
  rw[he] at hn';exact hn'
def Ranked (pc:List Nat)(ops:Array Oper)(rk:List Nat):List Nat->Nat->Prop
 |[],_=>True
 |i::π,n=>if((ops[i]?).map fun o=>eF pc i o)=some true then rk.getD i 0=n/\Ranked pc ops rk π (n+1) else Ranked pc ops rk π n
def Loose (pc:List Nat)(ops:Array Oper)(lo rk:List Nat)(j i:Nat):Prop:=
 ∃oi oj,ops[i]?=some oi/\ops[j]?=some oj/\oi.apart ops oj=true/\eF pc i oi=false/\(eF pc j oj=true->lo.getD i 0<=rk.getD j 0)
theorem dr_front {rk:List Nat} {i:Nat} :∀(π1 π2:List Nat)(hist:List Heap)(T:List AV)(h:Heap),(∀j∈π1,Loose pc ops lo rk j i)->Ranked pc ops rk (π1++i::π2) hist.length->DR pc P ops lo Kont (π1++i::π2) hist T h->DR pc P ops lo Kont (i::(π1++π2)) hist T h
 |[],π2,hist,T,h,_,_,d=>d
 |j::π1,π2,hist,T,h,hl,hr,d=>by
  obtain⟨oi,oj,hi,hj,hap,hE,hlo⟩:=hl j aA;simp only[bLz,Ranked,hj,bN2,bM0] at hr;simp only[bLz,DR] at d⊢
  have d1:drStep pc P ops lo j (DR pc P ops lo Kont (i::(π1++π2))) hist T h:=by
   refine drStep_mono ?_ d;rintro hist' T' h' ⟨t,rfl,ht⟩ dd;refine dr_front π1 π2 _ _ _ (fun k hk=>hl k (by simp[hk])) ?_ dd;simp only[hj,bN2,bM0] at ht
   cases hEj:eF pc j oj with
   |true=>simp only[hEj,if_true] at hr ht;rw[bM5,ht];exact hr.2
   |false=>simp only[hEj,bMe,if_false] at hr ht;rw[bM5,ht];exact hr
  exact y7a
end
structure Plan (pc:List Nat) (ops:Array Oper) (lo rk:List Nat) (pr:Nat->Nat->Bool) (fin:Option Nat) (listed:Array Bool) (π:List Nat) (n:Nat):Prop where
 size:listed.size=ops.size
 mem:∀i∈π,i<ops.size/\listed.getD i true=false
 all:∀i,i<ops.size->listed.getD i true=false->i∈π\/∃e,fin=some e/\e<ops.size/\listed.getD e true=false/\(i=e\/pr e i=true)
 finU:∀e,fin=some e->e<ops.size/\listed.getD e true=false
 nodup:π.Nodup
 closed:∀i j,i<ops.size->listed.getD i true=true->pr j i=true->listed.getD j true=true
 edge:∀i j,i<ops.size->pr j i=true->∃o e,ops[i]?=some o/\e∈o.after/\Region.binds .any e=true/\(e.on=j\/pr j e.on=true)/\e.on<ops.size
 pair:π.Pairwise fun j i=>pr j i=true\/Loose pc ops lo rk j i
 last:∀e,fin=some e->e∉π/\∀j∈π,pr j e=true\/∃oe oj,ops[e]?=some oe/\ops[j]?=some oj/\oj.apart ops oe=true/\eF pc j oj=false
 ready:∀π1 i π2,(π++fin.toList)=π1++i::π2->∀o,ops[i]?=some o->∀e∈o.after,Region.binds .any e=true->listed.getD e.on false=true\/e.on∈π1
 rank:Ranked pc ops rk π n
theorem Ranked.remove {pc:List Nat} {ops:Array Oper} {rk:List Nat} {i:Nat} (hE:((ops[i]?).map fun o=>eF pc i o)≠some true):∀(π1 π2:List Nat)(n:Nat),Ranked pc ops rk (π1++i::π2) n->Ranked pc ops rk (π1++π2) n
 |[],π2,n,h=>by simpa only[bM4,Ranked,hE,if_false] using h
 |j::π1,π2,n,h=>by
  simp only[bLz,Ranked] at h⊢;split
  ·rename_i hj;simp only[hj,if_true] at h;exact⟨h.1,Ranked.remove hE π1 π2 _ h.2⟩
  ·rename_i hj;simp only[hj,if_false] at h;exact Ranked.remove hE π1 π2 _ h
theorem split_insert (i k:Nat):∀(A B σ1 σ2:List Nat),A++B=σ1++k::σ2->∃τ1 τ2,A++i::B=τ1++k::τ2/\∀x∈τ1,x=i\/x∈σ1
 |[],B,σ1,σ2,hB=>by
  simp only[bM4] at hB
  exact⟨i::σ1,σ2,by simp[hB],fun x hx=>by
   rcases bMh.1 hx with h|h
   ·exact .inl h
   ·exact .inr h⟩
 |a::A,B,[],σ2,hB=>by
  simp only[bLz,bM4,bMz] at hB;obtain⟨rfl,hB⟩:=hB;exact⟨[],A++i::B,by simp,by simp⟩
 |a::A,B,s::σ1,σ2,hB=>by
  simp only[bLz,bMz] at hB;obtain⟨rfl,hB⟩:=hB;obtain⟨τ1,τ2,h1,h2⟩:=split_insert i k A B σ1 σ2 hB
  exact⟨a::τ1,τ2,by simp[h1],fun x hx=>by
   rcases bMh.1 hx with h|h
   ·exact .inr (by simp[h])
   ·rcases h2 x h with h|h
    ·exact .inl h
    ·exact .inr (by simp[h])⟩
theorem listed_true_of_false {l:Array Bool} {i:Nat} (h:l.getD i false=true):l.getD i true=true:=by
 exact y6u
theorem getD_set {l:Array Bool} {i j:Nat} (hi:i<l.size):(l.setIfInBounds i true).getD j true=if j=i then true else l.getD j true:=by
 exact y38
theorem getD_setF {l:Array Bool} {i j:Nat} (hi:i<l.size):(l.setIfInBounds i true).getD j false=if j=i then true else l.getD j false:=by
 exact y38
section
variable {pc:List Nat} {P:Program} {ops:Array Oper} {lo rk:List Nat} {pr:Nat->Nat->Bool} {fin:Option Nat} {listed:Array Bool} {π:List Nat} {n:Nat}
theorem Plan.below (p:Plan pc ops lo rk pr fin listed π n) {i:Nat} (hi:i∈Region.ready .any ops listed) {j:Nat} (hp:pr j i=true):listed.getD j true=true:=by
 exact y3r
theorem Plan.step (p:Plan pc ops lo rk pr fin listed π n) {i:Nat} (hi:i∈Region.ready .any ops listed) {π1 π2:List Nat} (hπ:π=π1++i::π2) {m:Nat} (hr:Ranked pc ops rk (π1++π2) m):
  Plan pc ops lo rk pr fin (listed.setIfInBounds i true) (π1++π2) m:=by
 exact y22
variable {D:List AD} {Q:AX->List AV->Heap->List AD->Prop}
theorem drStep_wp {rd:Option Nat} {i:Nat} {next:List Heap->List AV->Heap->Prop} {hist:List Heap} {T:List AV} {h:Heap} {E:Env} {w:World} {a:Act} {Qw:Exit->Act->World->Prop} {Kw:Act->World->Prop}
  (d:drStep pc P ops lo i next hist T h) (s:St E w a T h D)
  (hk:∀hist' T' h' E' w' a',(∃t,hist'=hist++t/\t.length=if((ops[i]?).map fun o=>eF pc i o)=some true then 1 else 0)->next hist' T' h'->St E' w' a' T' h' D->Fr E h.at w E' (Heap.at h') w'->Kw a' w'):
  wpOpIn (fen rd) 0 P ops Qw i Kw a w:=by
 obtain⟨o,ho,hd⟩:=d;simp only[ho,bN2,bM0] at hk;unfold wpOpIn;simp only[ho]
 have ops1:∀ {x h'},awanted ops T o=some true->aop P (aev T) h o.op=some (x,h')->(∀E' w' a',St E' w' a' (tput T o.dst x) h' D->Fr E h.at w E' (Heap.at h') w'->Kw a' w')->
   (if Region.wanted o (yielded ops a.tmps)=true then o.wpIn (fen rd) 0 P a w Kw Qw else(∀f,o.about P w a.eval=some f->(fen rd).fn f)/\Kw (a.put o.dst undef) w):=by
  intro x h' hw hop J;exact y3n
 rcases hd with ⟨h1,h2⟩|⟨h1,h2,x,h3,h4,h5⟩|⟨h1,h2,x,h',h3,h4⟩|⟨h1,h2,c,f,args,h',h3,h4,h5,v,h6,h7⟩|⟨h1,h2,h3,R,h4,_,h6⟩
 ·refine y1r ?_;refine⟨fun _ _=>trivial,?_⟩;refine hk _ _ _ E w _ ?_ h2 (s.put (by simp only[Rep,RepL];exact⟨[],rfl,rfl⟩) o.dst) (Fr.refl _ _ _);exact y7z
 ·rcases h3 with h3|⟨c,f,args,e1,e2,e3,e4⟩
  ·exact y7d
  ·refine yr ?_;obtain⟨vs,hrun,hvs⟩:=acallee_sound (P:=P) s e2 e3 e1;refine⟨fun _ _=>trivial,?_⟩;rw[Oper.semAt_eq _ _ _ (fun c hc=>by rw[hc] at e1;cases e1),hrun];refine⟨fun hd=>(by cases hd),callsIn_fen.2 (Calls.mono (e4 E w vs s.rel s.fresh hvs) ?_)⟩;rintro e w' ⟨out,h'',E',⟨rfl,rfl⟩,hrel,hf,hout,hfr⟩;simp only[RepO] at hout;obtain⟨u,rfl,hx⟩:=hout;exact y7g
 ·exact y7h
 ·exact y2z
 ·refine yr ?_;rcases h4 with ⟨c,f,args,e1,e2,e3,e4⟩|⟨e1,e2⟩
  ·obtain⟨vs,hrun,hvs⟩:=acallee_sound (P:=P) s e2 e3 e1;refine⟨fun _ _=>trivial,?_⟩;rw[Oper.semAt_eq _ _ _ (fun c hc=>by rw[hc] at e1;cases e1),hrun];refine⟨fun hd=>(by cases hd),callsIn_fen.2 (Calls.mono (e4 E w vs s.rel s.fresh hvs) ?_)⟩;rintro e w' ⟨out,h'',E',⟨v,rfl,hv⟩,hrel,hf,hout,hfr⟩;simp only[RepO] at hout;obtain⟨u,rfl,hx⟩:=hout;exact hk _ _ _ E' w' _ ⟨[h],rfl,by simp[h2]⟩ (h6 _ _ hv) ((s.move hfr hrel hf).put hx o.dst) hfr
  ·obtain⟨x,h',E',w',v,hR,hrun,hr,hf,hx,hfr⟩:=e2 T (fun _ _=>rfl) E w a D s;refine⟨fun _ _=>trivial,?_⟩;rw[Oper.semAt_eq _ _ _ e1,hrun];exact hk _ _ _ E' w' _ ⟨[h],rfl,by simp[h2]⟩ (h6 x h' hR) ((s.move hfr hr hf).put hx o.dst) hfr
def Agree (ops:Array Oper)(T T':List AV):Prop:=∀s,ops.all (fun o=>o.dst !=some s)=true->tget T' s=tget T s
def PanStep (P:Program)(ops:Array Oper)(Q:AX->List AV->Heap->List AD->Prop)(D:List AD)(e:Nat)(T:List AV)(h:Heap):Prop:=
 ∃o c f args v h',ops[e]?=some o/\awanted ops T o=some true/\o.op= .call c/\acallee T c=some (f,args)/\aK P f=true/\ACalls P f args h (fun o' g=>o'= .panic v/\g=h')/\∀T',Agree ops T T'->Q (.panic v) T' h' D
theorem panStep_back {e j:Nat} {oe oj:Oper} (he:ops[e]?=some oe)(hj:ops[j]?=some oj)(hap:oj.apart ops oe=true) {T:List AV} {h:Heap} {y:AV} (ps:PanStep P ops Q D e (tput T oj.dst y) h):PanStep P ops Q D e T h:=by
 obtain⟨a1,a2,a3⟩:=Oper.apart_spec hap;obtain⟨o,c,f,args,v,h',h1,h2,h3,h4,h5,h6,h7⟩:=ps;rw[he] at h1;cases h1;refine⟨oe,c,f,args,v,h',he,by rwa [dF a1] at h2,h3,by rwa [cL h3 a1] at h4,h5,h6,fun T' hT=>h7 T' fun s hs=>?_⟩;rw[hT s hs]
 have hne:oj.dst≠some s:=by
  exact y7o
 cases hd:oj.dst with
 |none=>rfl
 |some d=>
  exact y6o
theorem pan_front {e:Nat} {Kont:List AV->Heap->Prop} (J:∀T h,Kont T h->PanStep P ops Q D e T h):∀(π:List Nat)(hist:List Heap)(T:List AV)(h:Heap),
  (∀j∈π,∃oe oj,ops[e]?=some oe/\ops[j]?=some oj/\oj.apart ops oe=true/\eF pc j oj=false)->DR pc P ops lo Kont π hist T h->PanStep P ops Q D e T h
 |[],_,T,h,_,d=>J T h d
 |j::π,hist,T,h,hl,d=>by
  obtain⟨oe,oj,he,hj,hap,hE⟩:=hl j aA;obtain⟨o,ho,hd⟩:=d;rw[hj] at ho;cases ho;simp only[hE,bMe,false_and,and_false,or_false,if_false] at hd;rcases hd with ⟨_,h2⟩|⟨_,_,x,_,_,h5⟩
  ·exact panStep_back he hj hap (pan_front J π _ _ _ (fun k hk=>hl k (by simp[hk])) h2)
  ·exact panStep_back he hj hap (pan_front J π _ _ _ (fun k hk=>hl k (by simp[hk])) h5)
theorem wpAny_post {F:Fence} {n:Nat} {Q1 Q2:Exit->Act->World->Prop} (hq:∀e a w,Q1 e a w->Q2 e a w):∀(fuel:Nat)(listed:Array Bool)(a:Act)(w:World),wpAnyIn F n P .any ops Q1 fuel listed a w->wpAnyIn F n P .any ops Q2 fuel listed a w
 |0,listed,a,w,r=>⟨r.1,hq _ _ _ r.2⟩
 |fuel+1,listed,a,w,r=>by
  refine⟨fun h=>hq _ _ _ (r.1 h),fun i hi=>?_⟩;have:=r.2 i hi;unfold wpOpIn at this⊢;split
  ·rename_i hn;simp only[hn] at this;exact wpAny_post hq fuel _ _ _ this
  ·rename_i o ho;simp only[ho] at this;split
   ·rename_i hw;simp only[hw,if_true] at this;exact jP (wpAny_post hq fuel _) hq this
   ·rename_i hw;simp only[hw] at this;exact⟨this.1,wpAny_post hq fuel _ _ _ this.2⟩
theorem dr_sound {rd:Option Nat} {nb:Nat} {k:List It} {Kont:List AV->Heap->Prop} (J:fin=none->∀T h,Kont T h->Run P rd nb k T h D Q)(hP:∀e,fin=some e->∀T h,Kont T h->PanStep P ops Q D e T h):
  ∀(fuel:Nat) (π:List Nat) (listed:Array Bool) (hist:List Heap) (T:List AV) (h:Heap),Plan pc ops lo rk pr fin listed π hist.length->DR pc P ops lo Kont π hist T h->
   (fin=none->fuel=π.length)->(∀e,fin=some e->π.length<fuel)->∀E w a,St E w a T h D->wpAnyIn (fen rd) 0 P .any ops (K P rd (Post nb Q E h w) k) fuel listed a w:=by
 intro fuel
 induction fuel with
 |zero=>
  intro π listed hist T h p d hf0 hf1 E w a s
  cases hfin:fin with
  |some e=>exact absurd (hf1 e hfin) aB
  |none=>
   exact y3q
 |succ fuel ih=>
  intro π listed hist T h p d hf0 hf1 E w a s;refine⟨fun hnil=>?_,fun i hi=>?_⟩
  ·--the first of the order is ready
   exact y2m
  ·obtain⟨h0,o,ho,hall⟩:=mem_ready.1 hi;have hlt:=(bN9.1 ho).1
   have hin:i∈π\/fin=some i:=by
    exact y5e
   rcases hin with hin|hfin
   ·obtain⟨π1,π2,hπ⟩:=bNt hin
    have hloose:∀j∈π1,Loose pc ops lo rk j i:=by
     intro j hj;exact y4w
    have hrk:=p.rank;rw[hπ] at hrk d;have d':=dr_front π1 π2 hist T h hloose hrk d;simp only[DR] at d';refine drStep_wp d' s ?_;rintro hist' T' h' E' w' a' ⟨t,rfl,ht⟩ dn s' hfr
    have hr':Ranked pc ops rk (π1++π2) (hist++t).length:=by
     rw[bM5,ht]
     by_cases hE:((ops[i]?).map fun o=>eF pc i o)=some true
     ·exact y46
     ·exact y4t
    exact y3o
   ·--the one that panics
    have hl:=(p.last i hfin).2
    have ps:=pan_front (hP i hfin) π hist T h (fun j hj=>by
     rcases hl j hj with hp|hp
     ·have:=p.below hi hp;rw[(p.mem j hj).2] at this;cases this
     ·exact hp) d
    obtain⟨o',c,f,args,v,h',e1,e2,e3,e4,e5,e6,e7⟩:=ps;unfold wpOpIn;simp only[e1];rw[awanted_sound s e2];simp only[if_true];obtain⟨vs,hrun,hvs⟩:=acallee_sound (P:=P) s e4 e5 e3;refine⟨fun _ _=>trivial,?_⟩;rw[Oper.semAt_eq _ _ _ (fun c hc=>by rw[hc] at e3;cases e3),hrun];refine⟨fun hd=>(by cases hd),callsIn_fen.2 (Calls.mono (e6 E w vs s.rel s.fresh hvs) ?_)⟩;rintro e w' ⟨out,h'',E',⟨rfl,rfl⟩,hrel,hf,hout,hfr⟩;simp only[RepO] at hout;obtain⟨u,rfl,hx⟩:=hout;show K P rd (Post nb Q E h w) k (.panic _) a w';rw[K_panic];exact⟨E',T,h'',D, .panic v,e7 T (fun _ _=>rfl),s.move hfr hrel hf,hfr.toN _,u,rfl,hx⟩
end
def prB (tbl:List Nat)(n j i:Nat):Bool:=decide (j<n)&& (tbl.getD i 0).testBit j
def looseB (pc:List Nat)(ops:Array Oper)(lo rk:List Nat)(j i:Nat):Bool:=
 match ops[i]?,ops[j]? with
 |some oi,some oj=>oi.apart ops oj&& !eF pc i oi&& (!eF pc j oj||decide (lo.getD i 0<=rk.getD j 0))
 |_,_=>false
def pairB (pc:List Nat)(ops:Array Oper)(lo rk:List Nat)(pr:Nat->Nat->Bool):List Nat->Bool
 |[]=>true
 |j::π=>(π.all fun i=>j !=i&& (pr j i||looseB pc ops lo rk j i))&& pairB pc ops lo rk pr π
def readyB (ops:Array Oper)(done:List Nat):List Nat->Bool
 |[]=>true
 |i::π=>(match ops[i]? with
  |some o=>o.after.all fun e=>!Region.binds .any e||done.contains e.on
  |none=>true)&& readyB ops (i::done) π
def rankB (pc:List Nat)(ops:Array Oper)(rk:List Nat):List Nat->Nat->Bool
 |[],_=>true
 |i::π,n=>match ops[i]? with
  |some o=>if eF pc i o then rk.getD i 0==n&& rankB pc ops rk π (n+1) else rankB pc ops rk π n
  |none=>rankB pc ops rk π n
def edgeB (ops:Array Oper)(pr:Nat->Nat->Bool)(i:Nat):Bool:=
 (List.range ops.size).all fun j=>!pr j i||match ops[i]? with
  |some o=>o.after.any fun e=>Region.binds .any e&& (e.on==j||pr j e.on)&& decide (e.on<ops.size)
  |none=>false
def lastB (pc:List Nat)(ops:Array Oper)(pr:Nat->Nat->Bool)(π:List Nat):Option Nat->Bool
 |none=>true
 |some e=>decide (e<ops.size)&& !π.contains e&& π.all fun j=>pr j e||match ops[e]?,ops[j]? with
  |some oe,some oj=>oj.apart ops oe&& !eF pc j oj
  |_,_=>false
def okDraw (pc:List Nat)(ops:Array Oper)(lo rk tbl:List Nat)(fin:Option Nat)(π:List Nat):Bool:=
 (π.all fun i=>decide (i<ops.size))&&
 ((List.range ops.size).all fun i=>π.contains i||match fin with
  |some e=>i==e||prB tbl ops.size e i
  |none=>false)&&
 ((List.range ops.size).all fun i=>edgeB ops (prB tbl ops.size) i)&&
 pairB pc ops lo rk (prB tbl ops.size) π&& lastB pc ops (prB tbl ops.size) π fin&& readyB ops [] (π++fin.toList)&& rankB pc ops rk π 0
theorem looseB_sound {pc:List Nat} {ops:Array Oper} {lo rk:List Nat} {j i:Nat} (h:looseB pc ops lo rk j i=true):Loose pc ops lo rk j i:=by
 exact y4b
theorem pairB_sound {pc:List Nat} {ops:Array Oper} {lo rk:List Nat} {pr:Nat->Nat->Bool} :∀ {π:List Nat},pairB pc ops lo rk pr π=true->π.Nodup/\π.Pairwise fun j i=>pr j i=true\/Loose pc ops lo rk j i
 |[],_=>⟨List.nodup_nil,List.Pairwise.nil⟩
 |j::π,h=>by
  simp only[pairB,bM8,bMg,bne_iff_ne,ne_eq,bNe] at h;obtain⟨h1,h2⟩:=pairB_sound h.2;exact⟨bNd.2 ⟨fun hm=>(h.1 j hm).1 rfl,h1⟩,List.Pairwise.cons (fun i hi=>(h.1 i hi).2.imp id looseB_sound) h2⟩
theorem readyB_sound {ops:Array Oper} :∀ {σ done:List Nat},readyB ops done σ=true->∀π1 i π2,σ=π1++i::π2->∀o,ops[i]?=some o->∀e∈o.after,Region.binds .any e=true->e.on∈done\/e.on∈π1
 |[],_,_,π1,i,π2,hs,_,_,_,_,_=>by simp at hs
 |x::σ,done,h,π1,i,π2,hs,o,ho,e,he,hb=>by
  simp only[readyB,bM8] at h
  cases π1 with
  |nil=>
   simp only[bM4,bMz] at hs;obtain⟨rfl,rfl⟩:=hs;have h1:=h.1;simp only[ho] at h1;have:=bOe.1 h1 e he;simp[hb] at this;exact .inl this
  |cons y π1=>
   simp only[bLz,bMz] at hs;obtain⟨rfl,hs⟩:=hs;rcases readyB_sound h.2 π1 i π2 hs o ho e he hb with h'|h'
   ·rcases bMh.1 h' with h'|h'
    ·exact .inr (by simp[h'])
    ·exact .inl h'
   ·exact .inr (by simp[h'])
theorem rankB_sound {pc:List Nat} {ops:Array Oper} {rk:List Nat} :∀ {π:List Nat} {n:Nat},rankB pc ops rk π n=true->Ranked pc ops rk π n
 |[],_,_=>trivial
 |i::π,n,h=>by
  simp only[rankB] at h;simp only[Ranked];split at h
  ·rename_i o ho;simp only[ho,bN2,bM0];split at h
   ·rename_i hE;simp only[bM8,beq_iff_eq] at h;simp only[hE,if_true];exact⟨h.1,rankB_sound h.2⟩
   ·rename_i hE;rw[if_neg hE];exact rankB_sound h
  ·rename_i ho;simp only[ho,Option.map_none];exact rankB_sound h
theorem okDraw_sound {pc:List Nat} {ops:Array Oper} {lo rk tbl:List Nat} {fin:Option Nat} {π:List Nat} (h:okDraw pc ops lo rk tbl fin π=true):
  Plan pc ops lo rk (prB tbl ops.size) fin (Array.replicate ops.size false) π 0:=by
 exact y23
section
variable {pc:List Nat} {P:Program} {rd:Option Nat} {nb:Nat} {ops:Array Oper} {D:List AD} {Q:AX->List AV->Heap->List AD->Prop} {k:List It} {T:List AV} {h:Heap}
theorem draw_len {pc:List Nat} {ops:Array Oper} {lo rk tbl:List Nat} {π:List Nat} (p:Plan pc ops lo rk (prB tbl ops.size) none (Array.replicate ops.size false) π 0):ops.size=π.length:=by
 exact y39
theorem St.drew {E w a} (s:St E w a T h D):St E {w with drawn:=w.drawn+1} a T h D/\Fr E h.at w E h.at {w with drawn:=w.drawn+1} :=by
 exact y6k
theorem Run.drawP {id:Nat} (lo rk tbl π:List Nat)(hm:P.follows .mixedOrders=true)(hok:okDraw pc ops lo rk tbl none π=true)(d:DR pc P ops lo (fun T h=>Run P rd nb k T h D Q) π [] T h):Run P rd nb (.code (.region id ops true)::k) T h D Q:=by
 intro E w a s;exact y3f
def drOps (pc:List Nat)(P:Program)(ops:Array Oper)(lo:List Nat)(K:List Nat->List Heap->List AV->Heap->Prop):List Nat->List Heap->List AV->Heap->Prop
 |[],hist,T,h=>K [] hist T h
 |i::π,hist,T,h=>
  match ops[i]? with
  |none=>False
  |some o=>match awanted ops T o with
   |some false=>drOps pc P ops lo K π (if eF pc i o then hist++[h] else hist) (tput T o.dst (.tup [])) h
   |some true=>match aop P (aev T) h o.op with
    |some (x,h')=>if isE o.op then pc.contains i=false/\drOps pc P ops lo K π (hist++[h]) (tput T o.dst x) h' else if pc.contains (i+1000) then K (i::π) hist T h else stab P T x o (hist.drop (lo.getD i 0))/\drOps pc P ops lo K π hist (tput T o.dst x) h
    |none=>K (i::π) hist T h
   |none=>K (i::π) hist T h
theorem drOps_sound {lo:List Nat} {Kont:List AV->Heap->Prop} :∀(π:List Nat)(hist:List Heap)(T:List AV)(h:Heap),drOps pc P ops lo (DR pc P ops lo Kont) π hist T h->DR pc P ops lo Kont π hist T h
 |[],_,_,_,d=>d
 |i::π,hist,T,h,d=>by
  simp only[drOps] at d;split at d
  ·exact d.elim
  ·rename_i o ho;split at d
   ·rename_i hw;exact⟨o,ho, .inl ⟨hw,drOps_sound π _ _ _ d⟩⟩
   ·rename_i hw;split at d
    ·rename_i x h' hop;split at d
     ·rename_i hE;exact⟨o,ho, .inr (.inr (.inl ⟨hw,by unfold eF;rw[hE,d.1];simp,x,h',hop,drOps_sound π _ _ _ d.2⟩))⟩
     ·rename_i hE;have hE':isE o.op=false:=by simpa using hE
      split at d
      ·exact d
      ·rename_i hM;have hM':pc.contains (i+1000)=false:=by simpa using hM
       have:=gL hE' hop;subst this;exact⟨o,ho, .inr (.inl ⟨hw,by unfold eF;rw[hE',hM'];rfl,x, .inl hop,d.1,drOps_sound π _ _ _ d.2⟩)⟩
    ·exact d
   ·exact d
theorem DR.go {lo:List Nat} {Kont:List AV->Heap->Prop} {π:List Nat} {hist:List Heap} (r:∀K:List Nat->List Heap->List AV->Heap->Prop,(∀π hist T h,DR pc P ops lo Kont π hist T h->K π hist T h)->drOps pc P ops lo K π hist T h):DR pc P ops lo Kont π hist T h:=
 drOps_sound π hist T h (r _ fun _ _ _ _ h=>h)
theorem DR.call {lo:List Nat} {Kont:List AV->Heap->Prop} {π:List Nat} {hist:List Heap} {i:Nat} {o:Oper} {c:Call} {f:FuncId} {args:List AV} {v:AV} {h':Heap} (hi:ops[i]?=some o)(ho:o.op= .call c)(hw:awanted ops T o=some true)
  (hc:acallee T c=some (f,args)) (he:aK P f=true) (hpc:pc.contains i=false) (hR:ACalls P f args h (fun o' g=>o'= .ret v/\g=h')) (d:DR pc P ops lo Kont π (hist++[h]) (tput T o.dst v) h'):DR pc P ops lo Kont (i::π) hist T h:=by
 refine⟨o,hi, .inr (.inr (.inr (.inl ⟨hw,?_,c,f,args,h',ho,hc,he,v,hR,d⟩)))⟩;unfold eF;rw[ho,hpc];obtain⟨callee,a,t⟩:=c
 cases callee with
 |value x=>simp[isE]
 |invoke r m=>simp[acallee] at hc
 |builtin b=>simp[acallee] at hc
theorem DR.callR {lo:List Nat} {Kont:List AV->Heap->Prop} {π:List Nat} {hist:List Heap} {i:Nat} {o:Oper} {c:Call} {f:FuncId} {args:List AV} {R:AV->Heap->Prop} (hi:ops[i]?=some o)(ho:o.op= .call c)(hw:awanted ops T o=some true)
  (hc:acallee T c=some (f,args)) (he:aK P f=true) (hpc:still pc) (hR:ACalls P f args h (fun o' g=>∃v,o'= .ret v/\R v g)) (hne:∃v g,R v g) (d:∀v g,R v g->DR pc P ops lo Kont π (hist++[h]) (tput T o.dst v) g):DR pc P ops lo Kont (i::π) hist T h:=by
 refine⟨o,hi, .inr (.inr (.inr (.inr ⟨hw,?_,hpc,R, .inl ⟨c,f,args,ho,hc,he,hR⟩,hne,d⟩)))⟩;refine still.eff hpc ?_;rw[ho];obtain⟨callee,a,t⟩:=c
 cases callee with
 |value x=>rfl
 |invoke r m=>simp[acallee] at hc
 |builtin b=>simp[acallee] at hc
theorem DR.opR {lo:List Nat} {Kont:List AV->Heap->Prop} {π:List Nat} {hist:List Heap} {i:Nat} {o:Oper} {R:AV->Heap->Prop} (hi:ops[i]?=some o)(hE:isE o.op=true)(hw:awanted ops T o=some true)(hpc:still pc)(hR:NStep P T o h R)(hne:∃v g,R v g)
  (d:∀v g,R v g->DR pc P ops lo Kont π (hist++[h]) (tput T o.dst v) g):DR pc P ops lo Kont (i::π) hist T h:=by
 refine⟨o,hi, .inr (.inr (.inr (.inr ⟨hw,?_,hpc,R,hR,hne,d⟩)))⟩;exact still.eff hpc hE
theorem DR.opM {lo:List Nat} {Kont:List AV->Heap->Prop} {π:List Nat} {hist:List Heap} {i:Nat} {o:Oper} {R:AV->Heap->Prop} (hi:ops[i]?=some o)(hE:pc.contains (i+1000)=true)(hw:awanted ops T o=some true)(hpc:still pc)(hR:NStep P T o h R)(hne:∃v g,R v g)
  (d:∀v g,R v g->DR pc P ops lo Kont π (hist++[h]) (tput T o.dst v) g):DR pc P ops lo Kont (i::π) hist T h:=by
 refine⟨o,hi, .inr (.inr (.inr (.inr ⟨hw,still.effM hpc hE,hpc,R,hR,hne,d⟩)))⟩
theorem DR.pcall {lo:List Nat} {Kont:List AV->Heap->Prop} {π:List Nat} {hist:List Heap} {i:Nat} {o:Oper} {c:Call} {f:FuncId} {args:List AV} {v:AV} (hi:ops[i]?=some o)(ho:o.op= .call c)(hw:awanted ops T o=some true)
  (hc:acallee T c=some (f,args)) (he:aK P f=true) (hpc:pc.contains i=true) (hR:∀g∈h::hist.drop (lo.getD i 0),ACalls P f args g (fun o' g'=>o'= .ret v/\g'=g)) (d:DR pc P ops lo Kont π hist (tput T o.dst v) h) (hi1:i<1000:=by decide):DR pc P ops lo Kont (i::π) hist T h:=by
 refine⟨o,hi, .inr (.inl ⟨hw,by unfold eF;rw[hpc];simp[hi1],v, .inr ⟨c,f,args,ho,hc,he,hR h aA⟩,stab_iff.2 fun g hg=> .inr ⟨c,f,args,ho,hc,he,hR g (bNr _ hg)⟩,d⟩)⟩
end
theorem drOps_nil (pc:List Nat)(P:Program)(ops:Array Oper)(lo:List Nat)(K:List Nat->List Heap->List AV->Heap->Prop)(hist:List Heap)(T:List AV)(h:Heap):drOps pc P ops lo K [] hist T h=K [] hist T h:=by simp only[drOps]<;>rfl
theorem drOps_cons (pc:List Nat)(P:Program)(ops:Array Oper)(lo:List Nat)(K:List Nat->List Heap->List AV->Heap->Prop)(i:Nat)(π:List Nat)(hist:List Heap)(T:List AV)(h:Heap):drOps pc P ops lo K (i::π) hist T h=
  (match ops[i]? with
  |none=>False
  |some o=>match awanted ops T o with
   |some false=>drOps pc P ops lo K π (if eF pc i o then hist++[h] else hist) (tput T o.dst (.tup [])) h
   |some true=>match aop P (aev T) h o.op with
    |some (x,h')=>if isE o.op then pc.contains i=false/\drOps pc P ops lo K π (hist++[h]) (tput T o.dst x) h' else if pc.contains (i+1000) then K (i::π) hist T h else stab P T x o (hist.drop (lo.getD i 0))/\drOps pc P ops lo K π hist (tput T o.dst x) h
    |none=>K (i::π) hist T h
   |none=>K (i::π) hist T h):=by simp only[drOps]<;>rfl
theorem aSc (P:Program)(T:List AV)(x:AV)(o:Oper):stab P T x o []=True:=by simp only[stab]
theorem aNt (P:Program)(T:List AV)(x:AV)(o:Oper)(g:Heap)(gs:List Heap):stab P T x o (g::gs)=(pv P T o x g/\stab P T x o gs):=by simp only[stab]
theorem bDp (P:Program)(T:List AV)(o:Oper)(x:AV)(g:Heap):pv P T o x g=(aop P (aev T) g o.op=some (x,g)\/∃c f args,o.op= .call c/\acallee T c=some (f,args)/\aK P f=true/\ACalls P f args g (fun o' g'=>o'= .ret x/\g'=g)):=by simp only[pv]
attribute [simp] drOps_nil drOps_cons aSc aNt bDp eF
section
variable {pc:List Nat} {P:Program} {ops:Array Oper} {lo rk:List Nat} {D:List AD} {Q:AX->List AV->Heap->List AD->Prop}
theorem wpOps_post {F:Fence} {n:Nat} {Q1 Q2:Exit->Act->World->Prop} (hq:∀e a w,Q1 e a w->Q2 e a w):∀(τ:List Nat)(a:Act)(w:World),wpOpsIn F n P ops Q1 τ a w->wpOpsIn F n P ops Q2 τ a w
 |[],a,w,h=>by
  simp only[wpOpsIn] at h⊢;exact hq _ _ _ h
 |i::τ,a,w,h=>by
  rw[wpOpsIn_cons] at h⊢;unfold wpOpIn at h⊢;split
  ·rename_i ho;simp only[ho] at h;exact wpOps_post hq τ _ _ h
  ·rename_i o ho;simp only[ho] at h;split
   ·rename_i hw;rw[if_pos hw] at h;exact jP (fun a w=>wpOps_post hq τ a w) hq h
   ·rename_i hw;rw[if_neg hw] at h;exact⟨h.1,wpOps_post hq τ _ _ h.2⟩
theorem yZ {rd:Option Nat} {nb:Nat} {k:List It} {Kont:List AV->Heap->Prop} {pr:Nat->Nat->Bool} (J:∀T h,Kont T h->Run P rd nb k T h D Q):
  ∀(τ π:List Nat) (hist:List Heap) (T:List AV) (h:Heap),π.Perm τ->τ.Pairwise (fun i j=>pr j i=false)->π.Pairwise (fun j i=>pr j i=true\/Loose pc ops lo rk j i)->Ranked pc ops rk π hist.length->
   DR pc P ops lo Kont π hist T h->∀E w a,St E w a T h D->wpOpsIn (fen rd) 0 P ops (K P rd (Post nb Q E h w) k) τ a w
 |[],π,hist,T,h,hp,_,_,_,d,E,w,a,s=>by
  have:=hp.eq_nil;subst this;simp only[wpOpsIn];exact J T h d E w a s
 |i::τ,π,hist,T,h,hp,hτ,hπp,hrk,d,E,w,a,s=>by
  have hin:i∈π:=hp.mem_iff.2 aA;obtain⟨π1,π2,hπ⟩:=bNt hin;subst hπ;have hp':(π1++π2).Perm τ:=(List.perm_middle.symm.trans hp).cons_inv;rw[List.pairwise_cons] at hτ
  have hloose:∀j∈π1,Loose pc ops lo rk j i:=by
   intro j hj;exact y5b
  have d':=dr_front π1 π2 hist T h hloose hrk d;simp only[DR] at d';rw[wpOpsIn_cons];refine drStep_wp d' s ?_;rintro hist' T' h' E' w' a' ⟨t,rfl,ht⟩ dn s' hfr
  have hr':Ranked pc ops rk (π1++π2) (hist++t).length:=by
   rw[bM5,ht]
   by_cases hE:((ops[i]?).map fun o=>eF pc i o)=some true
   ·exact y3s
   ·exact y4t
  have hsub:List.Sublist (π1++π2) (π1++i::π2):=List.Sublist.append (List.Sublist.refl _) (List.sublist_cons_self _ _);have:=yZ J τ (π1++π2) (hist++t) T' h' hp' hτ.2 (hπp.sublist hsub) hr' dn E' w' a' s';exact y82
def unl (ops:Array Oper)(listed:Array Bool):List Nat:=(List.range ops.size).filter fun i=>!(listed.getD i true)
theorem unl_mem {listed:Array Bool} {i:Nat} :i∈unl ops listed↔i<ops.size/\listed.getD i true=false:=by
 simp only[unl,List.mem_filter,bN6,bN0]
theorem unl_nodup (listed:Array Bool):(unl ops listed).Nodup:=List.Pairwise.filter _ List.nodup_range
theorem unl_set {listed:Array Bool} {i:Nat} (hs:listed.size=ops.size)(hi:i∈unl ops listed):(unl ops (listed.setIfInBounds i true)).length+1=(unl ops listed).length:=by
 exact y3d
structure Lin (ops:Array Oper) (listed:Array Bool) (τ:List Nat):Prop where
 mem:∀i,i∈τ↔i∈unl ops listed
 nodup:τ.Nodup
 ready:∀τ1 i τ2,τ=τ1++i::τ2->∀o,ops[i]?=some o->∀e∈o.after,Region.binds .any e=true->listed.getD e.on false=true\/e.on∈τ1
theorem lin_spec {π0:List Nat} (hcov:∀i,i<ops.size->i∈π0)(hlt:∀i∈π0,i<ops.size)(hready:∀π1 i π2,π0=π1++i::π2->∀o,ops[i]?=some o->∀e∈o.after,Region.binds .any e=true->e.on∈π1):
  ∀(fuel t:Nat) (listed:Array Bool),listed.size=ops.size->(unl ops listed).length=fuel->Lin ops listed (Region.linearise.go .any ops fuel t listed [])
 |0,t,listed,hs,hl=>by
  have h0:unl ops listed=[]:=bOq.1 hl;simp only[Region.linearise.go,List.reverse_nil];exact⟨fun i=>by rw[h0],List.nodup_nil,fun τ1 i τ2 h=>by simp at h⟩
 |fuel+1,t,listed,hs,hl=>by
  have hne:Region.ready .any ops listed≠[]:=by
   --the first of the order that is not listed
   exact y2d
  simp only[Region.linearise.go]
  change Lin ops listed (match (Region.ready .any ops listed)[t%(Region.ready .any ops listed).length]? with
   |some i=>Region.linearise.go .any ops fuel (t/(Region.ready .any ops listed).length) (listed.setIfInBounds i true) [i]
   |none=>[].reverse)
  cases hi:(Region.ready .any ops listed)[t%(Region.ready .any ops listed).length]? with
  |none=>
   exact y53
  |some i=>
   exact y2f
theorem before_of {pr:Nat->Nat->Bool} {art:List (Nat×Nat)} {τ:List Nat} (hlt:∀i∈τ,i<ops.size)
  (hE:∀i j,i<ops.size->pr j i=true->(∃o e,ops[i]?=some o/\e∈o.after/\Region.binds .any e=true/\(e.on=j\/pr j e.on=true))\/∃u,(u,i)∈art/\(u=j\/pr j u=true))
  (hR:∀τ1 i τ2,τ=τ1++i::τ2->∀o,ops[i]?=some o->∀e∈o.after,Region.binds .any e=true->e.on∈τ1) (hA:∀u v,(u,v)∈art->∀τ1 τ2,τ=τ1++v::τ2->u∈τ1):
  ∀(n:Nat) τ1 i τ2,τ1.length<=n->τ=τ1++i::τ2->∀j,pr j i=true->j∈τ1:=by
 intro n
 induction n with
 |zero=>
  intro τ1 i τ2 hn hτ j hj;exact y3z
 |succ n ih=>
  intro τ1 i τ2 hn hτ j hj;exact y2v
theorem split_unique {α:Type} {x:α} :∀ {a b c d:List α},(a++x::b).Nodup->a++x::b=c++x::d->a=c
 |[],b,[],d,_,_=>rfl
 |[],b,y::c,d,hn,h=>by
  simp only[bM4,bLz,bMz] at h;obtain⟨rfl,rfl⟩:=h;simp at hn
 |y::a,b,[],d,hn,h=>by
  simp only[bM4,bLz,bMz] at h;obtain⟨rfl,rfl⟩:=h;simp at hn
 |y::a,b,z::c,d,hn,h=>by
  simp only[bLz,bMz] at h;obtain⟨rfl,h⟩:=h;rw[bLz,bNd] at hn;rw[split_unique hn.2 h]
theorem pairwise_of_before {pr:Nat->Nat->Bool} {τ:List Nat} (hn:τ.Nodup)(hb:∀τ1 i τ2,τ=τ1++i::τ2->∀j,pr j i=true->j∈τ1):τ.Pairwise (fun i j=>pr j i=false):=by
 rw[List.pairwise_iff_forall_sublist];intro i j hs
 cases hp:pr j i with
 |false=>rfl
 |true=>
  exfalso;have hi:i∈τ:=hs.subset aA;obtain⟨a,b,hab⟩:=bNt hi;have hj:j∈a:=hb a i b hab j hp
  --i stands ahead of j
  obtain⟨c,d,hcd⟩:=bNt hj;subst hcd;subst hab
  have hij:i≠j:=by
   have:=hn.sublist hs;simp at this;exact this
  have h1:List.Sublist [i,j] (c++j::(d++i::b)):=by simpa using hs
  have hn2:(c++j::(d++i::b)).Nodup:=by simpa using hn
  rw[List.sublist_append_iff] at h1;obtain⟨l1,l2,he,s1,s2⟩:=h1;rw[List.nodup_append] at hn2;obtain⟨n1,n2,n3⟩:=hn2
  match l1,he with
  |[],he=>
   exact y4a
  |x::l1,he=>
   exact y5s
end
def edgeM (ops:Array Oper)(pr:Nat->Nat->Bool)(art:List (Nat×Nat))(i:Nat):Bool:=
 (List.range ops.size).all fun j=>!pr j i||(match ops[i]? with
  |some o=>o.after.any fun e=>Region.binds .any e&& (e.on==j||pr j e.on)
  |none=>false)||art.any fun p=>p.2==i&& (p.1==j||pr j p.1)
def dP (pc:List Nat)(ops:Array Oper)(lo rk tbl:List Nat)(art:List (Nat×Nat))(π:List Nat):Bool:=
 (π.all fun i=>decide (i<ops.size))&& ((List.range ops.size).all fun i=>π.contains i)&& ((List.range ops.size).all fun i=>edgeM ops (prB tbl ops.size) art i)&&
 pairB pc ops lo rk (prB tbl ops.size) π&& readyB ops [] π&& rankB pc ops rk π 0
section
variable {pc:List Nat} {P:Program} {rd:Option Nat} {nb:Nat} {ops:Array Oper} {D:List AD} {Q:AX->List AV->Heap->List AD->Prop} {k:List It} {T:List AV} {h:Heap}
theorem bV {lo rk tbl:List Nat} {art:List (Nat×Nat)} {π τ:List Nat} (hok:dP pc ops lo rk tbl art π=true)(L:Lin ops (Array.replicate ops.size false) τ)(hA:∀u v,(u,v)∈art->∀τ1 τ2,τ=τ1++v::τ2->u∈τ1)
  (d:DR pc P ops lo (fun T h=>Run P rd nb k T h D Q) π [] T h):∀E w a,St E w a T h D->wpOpsIn (fen rd) 0 P ops (K P rd (Post nb Q E h w) k) τ a w:=by
 simp only[dP,bM8,bMg,bMi,bN6] at hok;obtain⟨⟨⟨⟨⟨h1,h2⟩,h3⟩,h4⟩,h5⟩,h6⟩:=hok;obtain⟨hnd,hpw⟩:=pairB_sound h4
 have hun:∀i,i∈τ↔i<ops.size:=fun i=>by
  exact y7v
 have hperm:π.Perm τ:=by
  exact y62
 have hR:∀τ1 i τ2,τ=τ1++i::τ2->∀o,ops[i]?=some o->∀e∈o.after,Region.binds .any e=true->e.on∈τ1:=by
  intro τ1 i τ2 hτ o ho e he hb;exact y6d
 have hE:∀i j,i<ops.size->prB tbl ops.size j i=true->(∃o e,ops[i]?=some o/\e∈o.after/\Region.binds .any e=true/\(e.on=j\/prB tbl ops.size j e.on=true))\/∃u,(u,i)∈art/\(u=j\/prB tbl ops.size j u=true):=by
  intro i j hi hp;exact y2q
 have hb:=fun τ1 i τ2 hτ=>before_of (fun i hi=>(hun i).1 hi) hE hR hA τ1.length τ1 i τ2 (bLx _) hτ
 exact yZ (fun T h r=>r) τ π [] T h hperm (pairwise_of_before L.nodup hb) hpw (rankB_sound h6) d
theorem qU {lo rk tbl:List Nat} {art:List (Nat×Nat)} {π:List Nat} (hok:dP pc ops lo rk tbl art π=true)(t:Nat):Lin ops (Array.replicate ops.size false) (Region.linearise.go .any ops ops.size t (Array.replicate ops.size false) []):=by
 simp only[dP,bM8,bMg,bMi,bN6] at hok;exact y3b
end
section
variable {pc:List Nat} {P:Program} {rd:Option Nat} {nb:Nat} {ops:Array Oper} {D:List AD} {Q:AX->List AV->Heap->List AD->Prop} {k:List It} {T:List AV} {h:Heap} {o:Oper}
theorem uW {s x:Operand} {t:TypeId} (ho:o.op= .call ⟨.builtin .append,#[s,x],#[t,t]⟩):s∈o.op.operands/\x∈o.op.operands:=by
 rw[ho];simp[Op.operands,Call.operands]
variable {lo:List Nat} {Kont:List AV->Heap->Prop} {π:List Nat} {hist:List Heap} {i:Nat}
def Bef (τ:List Nat)(u v:Nat):Prop:=∀τ1 τ2,τ=τ1++v::τ2->u∈τ1
theorem aDs {τ:List Nat} {u v:Nat} (hn:τ.Nodup)(hu:u∈τ)(hv:v∈τ)(hne:u≠v):Bef τ u v\/Bef τ v u:=by
 obtain⟨a1,b1,hab⟩:=bNt hv;rw[hab] at hu;rcases bMo.1 hu with h|h
 ·left;intro τ1 τ2 hτ;rw[<-split_unique (by rw[<-hab];exact hn) (hab.symm.trans hτ)];exact h
 ·right;rcases bMh.1 h with e|h
  ·exact absurd e hne
  intro τ1 τ2 hτ;obtain⟨c,d,hcd⟩:=bNt h;have hab2:τ=(a1++v::c)++u::d:=by rw[hab,hcd];simp
  rw[<-split_unique (by rw[<-hab2];exact hn) (hab2.symm.trans hτ)];simp
theorem Run.draw3 {id:Nat} (x y z:Nat)(lo1 rk1 tbl1 π1 lo2 rk2 tbl2 π2 lo3 rk3 tbl3 π3 lo4 rk4 tbl4 π4 lo5 rk5 tbl5 π5 lo6 rk6 tbl6 π6:List Nat)(hm:P.follows .mixedOrders=true)
  (hxy:(decide (x<ops.size)&& decide (y<ops.size)&& decide (z<ops.size)&& (x !=y)&& (x !=z)&& (y !=z))=true)
  (hok1:dP pc ops lo1 rk1 tbl1 [(x,y),(y,z)] π1=true) (hok2:dP pc ops lo2 rk2 tbl2 [(x,z),(z,y)] π2=true) (hok3:dP pc ops lo3 rk3 tbl3 [(y,x),(x,z)] π3=true)
  (hok4:dP pc ops lo4 rk4 tbl4 [(y,z),(z,x)] π4=true) (hok5:dP pc ops lo5 rk5 tbl5 [(z,x),(x,y)] π5=true) (hok6:dP pc ops lo6 rk6 tbl6 [(z,y),(y,x)] π6=true)
  (d1:DR pc P ops lo1 (fun T h=>Run P rd nb k T h D Q) π1 [] T h) (d2:DR pc P ops lo2 (fun T h=>Run P rd nb k T h D Q) π2 [] T h) (d3:DR pc P ops lo3 (fun T h=>Run P rd nb k T h D Q) π3 [] T h)
  (d4:DR pc P ops lo4 (fun T h=>Run P rd nb k T h D Q) π4 [] T h) (d5:DR pc P ops lo5 (fun T h=>Run P rd nb k T h D Q) π5 [] T h) (d6:DR pc P ops lo6 (fun T h=>Run P rd nb k T h D Q) π6 [] T h):Run P rd nb (.code (.region id ops true)::k) T h D Q:=by
 intro E w a s;refine wpIn_region_draw fun t=>?_
 simp only[Region.schedule,hm,bOs,if_true];obtain⟨s',hfr⟩:=s.drew;have L:=qU hok1 t;simp only[bM8,bMi,bne_iff_ne,ne_eq] at hxy;obtain⟨⟨⟨⟨⟨hx,hy⟩,hz⟩,hne1⟩,hne2⟩,hne3⟩:=hxy;refine yy ?_;generalize Region.linearise.go .any ops ops.size t (Array.replicate ops.size false) []=τ at L;have hmem:∀x,x<ops.size->x∈τ:=fun x hx=>(L.mem x).2 (unl_mem.2 ⟨hx,by simp[hx]⟩)
 have fin:(∀E w a,St E w a T h D->wpOpsIn (fen rd) 0 P ops (K P rd (Post nb Q E h w) k) τ a w)->wpOpsIn (fen rd) 0 P ops (K P rd (Post nb Q E h w) k) τ a {w with drawn:=w.drawn+1} :=fun hall=>
  wpOps_post (K_mono (P:=P) (rd:=rd) (Post.of_fr (Q:=Q) hfr) k) τ _ _ (hall E _ a s')
 have two:∀ {a b c d:Nat},Bef τ a b->Bef τ c d->∀u v,(u,v)∈[(a,b),(c,d)]->∀τ1 τ2,τ=τ1++v::τ2->u∈τ1:=by
  intro a b c d h1 h2 u v hp;simp only[bMh,bMf,List.not_mem_nil,or_false] at hp;rcases hp with ⟨rfl,rfl⟩|⟨rfl,rfl⟩
  ·exact h1
  ·exact h2
 rcases aDs L.nodup (hmem x hx) (hmem y hy) hne1 with b1|b1<;>rcases aDs L.nodup (hmem y hy) (hmem z hz) hne3 with b2|b2
 ·exact fin (bV hok1 L (two b1 b2) d1)
 ·rcases aDs L.nodup (hmem x hx) (hmem z hz) hne2 with b3|b3
  ·exact fin (bV hok2 L (two b3 b2) d2)
  ·exact fin (bV hok5 L (two b3 b1) d5)
 ·rcases aDs L.nodup (hmem x hx) (hmem z hz) hne2 with b3|b3
  ·exact fin (bV hok3 L (two b1 b3) d3)
  ·exact fin (bV hok4 L (two b2 b3) d4)
 ·exact fin (bV hok6 L (two b2 b1) d6)
end
end Go.AI.NB
