import Derived.Test.YtplomildbmcmfaaGreatZA0
import Derived.Test.YtplomildbmcmfaaGreatZFQ
import Derived.Test.YtplomildbmcmfaaGreatZEVy
namespace Go.AI.EV
open Go Go.AI
mutual
def mR:AV->Bool
 | .p _=>true
 | .agg cs=>nE cs
 | .tup cs=>nE cs
 | .fn f xs ys=>(match f with| .func _=>true|_=>false)&& nE xs&& nE ys
 | .ifc _ x=>mR x
 |_=>false
def nE:List AV->Bool
 |[]=>true
 |x::l=>mR x&& nE l
end
mutual
theorem aLw (ks:Ks):∀ {x:AV},mR x=true->io ks x=x
 | .p x,_=>by simp
 | .agg cs,h=>by simp only[mR] at h;simp only[io];rw[oF ks h]
 | .tup cs,h=>by simp only[mR] at h;simp only[io];rw[oF ks h]
 | .fn f xs ys,h=>by
  simp only[mR,bM8] at h;obtain⟨⟨h1,h2⟩,h3⟩:=h;simp only[io];rw[oF ks h2,oF ks h3]
  cases f<;>simp only[iof]<;>cases h1
 | .ifc t x,h=>by simp only[mR] at h;simp only[io];rw[aLw ks h]
 | .ptr _ _,h=>by simp[mR] at h
 | .sm _ _ _ _ _,h=>by simp[mR] at h
 | .own _ _ _,h=>by simp[mR] at h
 | .mp _,h=>by simp[mR] at h
 | .vec _ _,h=>by simp[mR] at h
 | .junk,h=>by simp[mR] at h
theorem oF (ks:Ks):∀ {l:List AV},nE l=true->ioL ks l=l
 |[],_=>by simp only[ioL]
 |x::l,h=>by
  simp only[nE,bM8] at h;simp only[ioL];rw[aLw ks h.1,oF ks h.2]
end
mutual
theorem aNc {E E':Env} {w:World} (hr:∀b off,E.ro b off->E'.ro b off):∀ {x:AV} {v:Value},mR x=true->Rep E w x v->Rep E' w x v
 | .p x,v,_,r=>by simp only[Rep] at r⊢;exact r.roMono hr
 | .agg cs,v,h,r=>by
  simp only[mR] at h;simp only[Rep] at r⊢;obtain⟨vs,e,r⟩:=r;exact⟨vs,e,nO hr h r⟩
 | .tup cs,v,h,r=>by
  simp only[mR] at h;simp only[Rep] at r⊢;obtain⟨vs,e,r⟩:=r;exact⟨vs,e,nO hr h r⟩
 | .fn f xs ys,v,h,r=>by
  simp only[mR,bM8] at h;obtain⟨⟨h1,h2⟩,h3⟩:=h;simp only[Rep] at r⊢;obtain⟨vs,us,e,r1,r2⟩:=r;exact⟨vs,us,e,nO hr h2 r1,nO hr h3 r2⟩
 | .ifc t x,v,h,r=>by
  simp only[mR] at h;simp only[Rep] at r⊢;obtain⟨u,e,r⟩:=r;exact⟨u,e,aNc hr h r⟩
 | .ptr _ _,_,h,_=>by simp[mR] at h
 | .sm _ _ _ _ _,_,h,_=>by simp[mR] at h
 | .own _ _ _,_,h,_=>by simp[mR] at h
 | .mp _,_,h,_=>by simp[mR] at h
 | .vec _ _,_,h,_=>by simp[mR] at h
 | .junk,_,h,_=>by simp[mR] at h
theorem nO {E E':Env} {w:World} (hr:∀b off,E.ro b off->E'.ro b off):∀ {l:List AV} {vs:List Value},nE l=true->RepL E w l vs->RepL E' w l vs
 |[],vs,_,r=>by simpa only[RepL] using r
 |x::l,vs,h,r=>by
  simp only[nE,bM8] at h;simp only[RepL] at r⊢;obtain⟨v,us,e,r1,r2⟩:=r;exact⟨v,us,e,aNc hr h.1 r1,nO hr h.2 r2⟩
end
theorem ACalls.alone {P:Program} {f:FuncId} {args:List AV} {h:Heap} {v:AV} (ha:nE args=true)(hv:mR v=true)(hc:ACalls P f args [] fun o h'=>o= .ret v/\h'=[]):ACalls P f args h fun o h'=>o= .ret v/\h'=h:=by
 intro E w vs hrel hfr hrep
 have no:∀(ro:Nat->Nat->Prop) b,¬InG {ro:=ro,g:=fun _=>none,t:=fun _=>none} (Heap.at []) b:=by
  rintro ro b ⟨id,h⟩;rcases h with ⟨o,h1,_⟩|⟨o,x,c,m,h1,_⟩<;>simp[Heap.at] at h1
 have rel0:Rel {ro:=E.ro,g:=fun _=>none,t:=fun _=>none} (Heap.at []) w:=
  ⟨fun id o h=>by simp[Heap.at] at h,fun id o n sz m cs h=>by simp[Heap.at] at h,fun id id' b h _=>absurd ⟨id,h⟩ (no _ b),fun id o b off h=>by simp[Heap.at] at h,fun id o n sz m cs b c k off h=>by simp[Heap.at] at h,hrel.lt⟩
 refine(hc _ w vs rel0 (fun _ _=>⟨rfl,rfl⟩) (nO (E:=E) (E':= {ro:=E.ro,g:=fun _=>none,t:=fun _=>none}) (fun _ _ h=>h) ha hrep)).mono fun e w1 ⟨out,h',E',⟨ho,hh⟩,hr,hf,hre,hfr'⟩=>?_
 subst ho;subst hh;simp only[RepO] at hre;obtain⟨u,rfl,hu⟩:=hre;obtain⟨r1,f1⟩:=hrel.later (fun b hb=>hfr'.same b hb (no _ b)) hfr'.size hfr'.kp;have hx:Ext E w1 {E with ro:=E'.ro} w1:=⟨hfr'.ext.ro,fun _ _ _=>rfl,fun _ _ h=>h,fun _ L h=>⟨L,h,bLx _,fun _=>rfl⟩⟩;have hnew:∀b off,E'.ro b off->E.ro b off\/w.heap.size<=b:=fun b off ho=>(hfr'.roNew b off ho).elim .inl fun h=>h.elim (fun h=>absurd h (no _ b)) .inr
 refine⟨.ret v,h, {E with ro:=E'.ro},⟨rfl,rfl⟩,?_,fun id hid=>hfr id hid,⟨u,rfl,aNc (E:=E') (E':= {E with ro:=E'.ro}) (fun _ _ h=>h) hv hu⟩,?_⟩
 ·refine⟨fun id o h1 h2=>?_,fun id o n sz m cs h1 h2=>?_,fun id id' b h1 h2=>r1.inj id id' b h1 h2,fun id o b off h1 h2 g ho=>?_,fun id o n sz m cs b c k off h1 h2 g hm ho=>?_,hr.lt⟩
  ·obtain⟨b,g,hb⟩:=r1.objsO id o h1 h2;exact⟨b,g,hb.move hx rfl⟩
  ·obtain⟨blk,cap,g1,g2,g3,g4⟩:=r1.toks id o n sz m cs h1 h2;refine⟨blk,cap,g1,g2,g3,fun b hb=>?_⟩;obtain⟨vs,k1,k2,k3⟩:=g4 b hb;exact⟨vs,k1,k2,k3.ext hx⟩
  ·rcases hnew b off ho with q|q
   ·exact r1.sepO id o b off h1 h2 g q
   ·obtain⟨b',g',hb⟩:=hrel.objsO id o h1 h2;have e:b'=b:=bNg (g'.symm.trans g);have:=hb.lt;omega
  ·rcases hnew b off ho with q|q
   ·exact r1.sepT id o n sz m cs b c k off h1 h2 g hm q
   ·obtain⟨blk,cap,g1,g2,g3,g4⟩:=hrel.toks id o n sz m cs h1 h2;have e:(⟨blk,cap,n⟩:Loc)=⟨some b,c,k⟩:=bNg (g1.symm.trans g);have e1:blk=some b:=congrArg Loc.blk e;obtain⟨vs,k1,_⟩:=g4 b e1;have:=k1.lt;omega
 ·exact⟨f1.same,⟨hfr'.ext.ro,f1.ext.cells,fun _ _ h=>h,fun _ L h=>⟨L,h,bLx _,fun _=>rfl⟩⟩,fun b off ho=>(hnew b off ho).imp id .inr,f1.size,f1.inG,f1.kp⟩
theorem ACalls.given {P:Program} {f:FuncId} {args:List AV} {ks:Ks} {H:HX} {R:AOut->Heap->Prop} (hH:0<H.length)(hc:ACalls P f ((paL H (H.length-1) args).map (io ks)) (iH ks (H.take (H.length-1)++[.dead])) R):ACalls P f (args.map (io ks)) (iH ks H) R:=by
 intro E w vs hrel hfr hrep;have hm:H.length-1<=(iH ks H).length:=by rw[bJ];omega
 obtain⟨r1,f1⟩:=mH hrel (H.length-1) hm
 have e:iH ks (H.take (H.length-1)++[.dead])=aC0 (iH ks H) (H.length-1):=by
  unfold aC0;have e1:(iH ks H).length-(H.length-1)=1:=by rw[bJ];omega
  rw[e1];simp[iH,List.map_take,iO]
 rw[e] at hc;have hrep':=nM (m:=H.length-1) hrel args vs (by rw[fB];exact hrep);rw[fB] at hrep';refine(hc _ w vs r1 (fun id hid=>hfr id (by rw[vJ _ _ hm] at hid;exact hid)) hrep').mono fun e w1 ⟨out,h',E',hR,hr,hf,hre,hfr'⟩=>⟨out,h',E',hR,hr,hf,hre,f1.trans hfr'⟩
abbrev KT:=TB (List (List AV×AV))
def aQt:List (List AV×AV)->List AV->Option AV
 |[],_=>none
 |e::l,args=>if aAm e.1 args=true then some e.2 else aQt l args
noncomputable def aWr (M:KT)(f:FuncId)(args:List AV):Option AV:=match M.get f with
 |some l=>aQt l args
 |none=>none
def aO (P:Program)(f:FuncId)(args:List AV)(v:AV):Prop:=(aK P f=true/\nE args=true/\mR v=true)/\ACalls P f args [] fun o h'=>o= .ret v/\h'=[]
def aIl (P:Program)(M:KT):Prop:=M.All fun f l=>∀e∈l,aO P f e.1 e.2
theorem yU:∀ {l:List (List AV×AV)} {args:List AV} {v:AV},aQt l args=some v->(args,v)∈l
 |[],_,_,h=>by cases h
 |e::l,args,v,h=>by
  simp only[aQt] at h;split at h
  ·rename_i hc;have:=gF hc;subst this;simp only[bM0] at h;subst h;exact List.mem_cons_self
  ·exact bNr _ (yU h)
theorem aQu {P:Program} {M:KT} (hM:aIl P M) {f:FuncId} {args:List AV} {v:AV} (h:aWr M f args=some v):aO P f args v:=by
 unfold aWr at h;split at h
 ·rename_i l hl;exact TB.get_all hM hl _ (yU h)
 ·cases h
noncomputable def aSk (M:KT)(bd0:List AV->Option (AOut×HX×Nat))(bd:List AV->HX->Nat->Option (AOut×HX×Nat))(keep:Bool)(f:FuncId)(args:List AV)(H:HX)(j:Nat):Option (AOut×HX×Nat):=
 if(!keep&& nE args)=true then
  match aWr M f args with
  |some v=>some (.ret v,H,j)
  |none=>match bd0 args with
   |some (.ret v,[],0)=>if mR v=true then some (.ret v,H,j) else bd args H j
   |_=>bd args H j
 else bd args H j
noncomputable def aXl (M:KT)(fz:FuncId->Bool)(bd0:List AV->Option (AOut×HX×Nat))(bd:List AV->HX->Nat->Option (AOut×HX×Nat))(keep:Bool)(f:FuncId)(args:List AV)(H:HX)(j:Nat):Option (AOut×HX×Nat):=
 if(fz f&& Nat.blt 0 H.length)=true then aSk M bd0 bd keep f (paL H (H.length-1) args) (H.take (H.length-1)++[.dead]) j
 else aSk M bd0 bd keep f args H j
theorem aF0 {P:Program} {G:Kn} {f:FuncId} {args:List AV} {v:AV} (h:aO P f args v)(H:HX)(j:Nat):aK P f=true/\j<=j/\∀ks,G j ks->ACalls P f (args.map (io ks)) (iH ks H) (oS ks j (.ret v) H j):=by
 obtain⟨⟨h1,h2,h3⟩,h4⟩:=h;refine⟨h1,bLx _,fun ks _=>?_⟩;have e:args.map (io ks)=args:=by rw[<-fB];exact oF ks h2
 rw[e];refine(ACalls.alone (h:=iH ks H) h2 h3 h4).mono ?_;rintro o g ⟨rfl,rfl⟩;exact⟨ks,fun _ _=>rfl,fun _=>rfl,by simp only[ioR];rw[aLw ks h3],rfl⟩
theorem aFe {P:Program} {G:Kn} {M:KT} (hM:aIl P M) {bd0:List AV->Option (AOut×HX×Nat)} {bd:List AV->HX->Nat->Option (AOut×HX×Nat)} {keep:Bool} {f:FuncId}
  (h0:∀args out H' j',bd0 args=some (out,H',j')->aK P f=true/\0<=j'/\∀ks,Gl [] 0 ks->ACalls P f (args.map (io ks)) (iH ks []) (oS ks 0 out H' j'))
  (hb:∀args H j out H' j',bd args H j=some (out,H',j')->aK P f=true/\j<=j'/\∀ks,G j ks->ACalls P f (args.map (io ks)) (iH ks H) (oS ks j out H' j'))
  {args:List AV} {H:HX} {j:Nat} {out:AOut} {H':HX} {j':Nat} (h:aSk M bd0 bd keep f args H j=some (out,H',j')):aK P f=true/\j<=j'/\∀ks,G j ks->ACalls P f (args.map (io ks)) (iH ks H) (oS ks j out H' j'):=by
 unfold aSk at h;split at h
 ·rename_i hc;simp only[bM8] at hc;split at h
  ·rename_i v hv;simp only[bM0,bMf] at h;obtain⟨rfl,rfl,rfl⟩:=h;exact aF0 (aQu hM hv) H j
  ·split at h
   ·rename_i v hv;split at h
    ·rename_i hpv;simp only[bM0,bMf] at h;obtain⟨rfl,rfl,rfl⟩:=h;obtain⟨c1,_,c3⟩:=h0 _ _ _ _ hv;refine aF0 ⟨⟨c1,hc.2,hpv⟩,?_⟩ H j;have:=c3 (fun _=>(0,⟨[],#[], .skip, .skip⟩)) (fun _ he=>by cases he);have e:args.map (io fun _=>(0,⟨[],#[], .skip, .skip⟩))=args:=by rw[<-fB];exact oF _ hc.2
     rw[e] at this;refine this.mono ?_;rintro o g ⟨ks',_,_,rfl,rfl⟩;exact⟨by simp only[ioR];rw[aLw ks' hpv],rfl⟩
    ·exact hb _ _ _ _ _ _ h
   ·exact hb _ _ _ _ _ _ h
 ·exact hb _ _ _ _ _ _ h
theorem aSl {P:Program} {G:Kn} {M:KT} (hM:aIl P M) {fz:FuncId->Bool} {bd0:List AV->Option (AOut×HX×Nat)} {bd:List AV->HX->Nat->Option (AOut×HX×Nat)} {keep:Bool} {f:FuncId}
  (h0:∀args out H' j',bd0 args=some (out,H',j')->aK P f=true/\0<=j'/\∀ks,Gl [] 0 ks->ACalls P f (args.map (io ks)) (iH ks []) (oS ks 0 out H' j'))
  (hb:∀args H j out H' j',bd args H j=some (out,H',j')->aK P f=true/\j<=j'/\∀ks,G j ks->ACalls P f (args.map (io ks)) (iH ks H) (oS ks j out H' j'))
  {args:List AV} {H:HX} {j:Nat} {out:AOut} {H':HX} {j':Nat} (h:aXl M fz bd0 bd keep f args H j=some (out,H',j')):aK P f=true/\j<=j'/\∀ks,G j ks->ACalls P f (args.map (io ks)) (iH ks H) (oS ks j out H' j'):=by
 unfold aXl at h;split at h
 ·rename_i hc;simp only[bM8] at hc;obtain⟨c1,c2,c3⟩:=aFe hM h0 hb h;exact⟨c1,c2,fun ks hg=>ACalls.given (Nat.le_of_ble_eq_true hc.2) (c3 ks hg)⟩
 ·exact aFe hM h0 hb h
noncomputable def evN (S:Seat)(P:Program)(M:KT)(fz:FuncId->Bool):Nat->(Bool->LT->bF)×(LT->cF)
 |0=>(fun _ _ _ _ _ _=>none,fun _ _ _ _ _=>none)
 | n +1=>(fun keep lt f args H j=>aXl M fz
     (fun args=>aCk 0 (tU S P (fun b lt' g=>(evN S P M fz n).1 (b&& S.keep f g) lt' g) ((evN S P M fz n).2 []) false [] f args [] 0))
     (fun args H j=>aCk j (tU S P (fun b lt' g=>(evN S P M fz n).1 (b&& S.keep f g) lt' g) ((evN S P M fz n).2 lt) keep lt f args H j)) keep f args H j,
  fun lt=>bH0 S P (fun f b lt' g=>(evN S P M fz n).1 (b&& S.keep f g) lt' g) ((evN S P M fz n).2 lt) lt)
theorem aTg {S:Seat} {P:Program} (hS:SeatOk P S) {M:KT} (hM:aIl P M)(fz:FuncId->Bool):∀n,(∀keep lt,aFk S lt->gJ P (Gl lt) ((evN S P M fz n).1 keep lt))/\∀lt,aFk S lt->jD P (Gl lt) ((evN S P M fz n).2 lt)
 |0=>⟨fun keep lt _ f args H j out H' j' h=>by simp[evN] at h,fun lt _ i args H j out H' j' h=>by simp[evN] at h⟩
 |n+1=>by
  obtain⟨ih1,ih2⟩:=aTg hS hM fz n;have hc:∀f b lt,aFk S lt->gJ P (Gl lt) ((fun f b lt' g=>(evN S P M fz n).1 (b&& S.keep f g) lt' g) f b lt):=fun f b lt hl g args H j out H' j' h=>ih1 (b&& S.keep f g) lt hl g args H j out H' j' h
  have hnil:aFk S []:=fun _ he=>by cases he
  refine⟨fun keep lt hlt f args H j out H' j' h=>?_,fun lt hlt=>?_⟩
  ·simp only[evN] at h;refine aSl (G:=Gl lt) hM (fun args out H' j' h=>?_) (fun args H j out H' j' h=>?_) h
   ·exact aTf (cf:=fun b lt' g=>(evN S P M fz n).1 (b&& S.keep f g) lt' g) hS hnil (fun b lt hl=>hc f b lt hl) (ih2 [] hnil) f args [] 0 out H' j' (yS h)
   ·exact aTf (cf:=fun b lt' g=>(evN S P M fz n).1 (b&& S.keep f g) lt' g) hS hlt (fun b lt hl=>hc f b lt hl) (ih2 lt hlt) f args H j out H' j' (yS h)
  ·exact aWe (cfk:=fun f b lt' g=>(evN S P M fz n).1 (b&& S.keep f g) lt' g) hS hlt (fun f b lt hl=>hc f b lt hl) (ih2 lt hlt)
def bDt (x:Option (AOut×HX×Nat))(v:AV):Bool:=match x with
 |some (.ret v',H',_)=>eqA v' v&& (match H' with|[]=>true|_=>false)
 |_=>false
theorem aH {S:Seat} {P:Program} (hS:SeatOk P S) {M:KT} (hM:aIl P M)(fz:FuncId->Bool)(n:Nat) {f:FuncId} {args:List AV} {v:AV} (h:(nE args&& mR v&& bDt ((evN S P M fz n).1 false [] f args [] 0) v)=true):aO P f args v:=by
 simp only[bM8] at h;obtain⟨⟨h1,h2⟩,h⟩:=h;unfold bDt at h;split at h
 ·rename_i v' H' _ hr;simp only[bM8] at h;have e:=xZ h.1;subst e;split at h
  ·obtain⟨c1,_,c3⟩:=(aTg hS hM fz n).1 false [] (fun _ he=>by cases he) _ _ _ _ _ _ _ hr;refine⟨⟨c1,h1,h2⟩,?_⟩;have:=c3 (fun _=>(0,⟨[],#[], .skip, .skip⟩)) (fun _ he=>by cases he);have e:args.map (io fun _=>(0,⟨[],#[], .skip, .skip⟩))=args:=by rw[<-fB];exact oF _ h1
   rw[e] at this;refine this.mono ?_;rintro o g ⟨ks',_,_,rfl,rfl⟩;exact⟨by simp only[ioR];rw[aLw ks' h2],rfl⟩
  ·simp at h
 ·cases h
end Go.AI.EV
