import Derived.Test.YtplomildbmcmfaaGreatZA0
import Derived.Test.YtplomildbmcmfaaGreatZEVq
namespace Go.AI.EV
open Go Go.AI
def lN (P:Program)(T:List AV)(H:HX):List ResultVar->Option (List AV)
 |[]=>some []
 | .tmp t::rs=>(lN P T H rs).map fun l=>tget T t::l
 | .cell a t::rs=>match aDe P t (tget T a) H,lN P T H rs with
  |some x,some l=>some (x::l)
  |_,_=>none
theorem aresX_io {P:Program} {ks:Ks} {T:List AV} {H:HX} :∀ {rs:List ResultVar} {l:List AV},lN P T H rs=some l->aX P (T.map (io ks)) (iH ks H) rs=some (l.map (io ks))
 |[],l,h=>by simp only[lN,bM0] at h;subst h;rfl
 | .tmp t::rs,l,h=>by
  simp only[lN] at h;obtain⟨l',h1,rfl⟩:=bMb.1 h;simp only[aX,aresX_io h1,bN2,rO,bMd]
 | .cell a t::rs,l,h=>by
  simp only[lN] at h;split at h
  ·rename_i x l' h1 h2;simp only[bM0] at h;subst h;simp only[aX,rO,aFf h1,aresX_io h2,bMd]
  ·cases h
theorem atuple_io (ks:Ks)(l:List AV):bR (l.map (io ks))=io ks (bR l):=by
 match l with
 |[]=>simp[bR]
 |[x]=>simp[bR]
 |x::y::l=>simp[bR]
def settle (lt:LT)(keep:Bool)(n0:Nat)(v:AV)(H:HX):Option (AV×HX):=
 if keep=true then(if(v.under H.length&& H.all (fV lt H.length))=true then some (v,H) else none)
 else
  if((pa H n0 v).under n0&& (H.take n0).all (fV lt n0))=true then some (pa H n0 v,H.take n0)
  else if(v.under H.length&& H.all (fV lt H.length))=true then some (v,H) else none
theorem iN {lt:LT} {keep:Bool} {n0 j:Nat} {v y:AV} {H H':HX} (hn:n0<=H.length)(h:settle lt keep n0 v H=some (y,H')) {ks:Ks} (hG:Gl lt j ks):
  ∃h' m,Settles (io ks v) (iH ks H) (io ks y) h'/\n0<=m/\m<=h'.length/\(io ks y).under m=true/\(h'.take m).all (AO.under m)=true/\h'.take m=iH ks H':=by
 have full:∀ {y H'},(if(v.under H.length&& H.all (fV lt H.length))=true then some (v,H) else none)=some (y,H')->∃h' m,Settles (io ks v) (iH ks H) (io ks y) h'/\n0<=m/\m<=h'.length/\(io ks y).under m=true/\(h'.take m).all (AO.under m)=true/\h'.take m=iH ks H':=by
  intro y H' h;split at h
  ·rename_i hc;simp only[bM8] at hc;simp only[bM0,bMf] at h;obtain⟨rfl,rfl⟩:=h;have e:(iH ks H).take H.length=iH ks H:=by rw[<-bJ ks H,bMm]
   refine⟨iH ks H,H.length,Settles.refl _ _,hn,by rw[bJ];exact bLx _,by rw[mM];exact hc.1,?_,e⟩;rw[e];exact mQ hG hc.2
  ·cases h
 unfold settle at h;split at h
 ·exact full h
 ·split at h
  ·rename_i hc;simp only[bM8] at hc;simp only[bM0,bMf] at h;obtain⟨rfl,rfl⟩:=h;have hn':n0<=(iH ks H).length:=by rw[bJ];exact hn
   have e:(aC0 (iH ks H) n0).take n0=iH ks (H.take n0):=by
    rw[aLg _ _ hn'];simp[iH,List.map_take]
   refine⟨aC0 (iH ks H) n0,n0,aI1 ks H n0 hn v,bLx _,by rw[vJ _ _ hn'];exact hn',by rw[mM];exact hc.1,?_,e⟩;rw[e];exact mQ hG hc.2
  ·exact full h
def iX:List AD->HX->Option HX
 |[],H=>some H
 |(.yield id,_,_)::D,H=>match H[id]? with
  |some .dblk=>iX D (H.set id .dead)
  |_=>none
 |_,_=>none
theorem uL:∀ {D:List AD} {H H':HX},iX D H=some H'->H'.length=H.length
 |[],H,H',h=>by simp only[iX,bM0] at h;rw[h]
 |(f,x,y)::D,H,H',h=>by
  cases f with
  |yield id=>
   simp only[iX] at h;split at h
   ·rw[uL h,bNu]
   ·cases h
  |_=>simp[iX] at h
theorem aBy {P:Program} {fn:Func} {n:Nat} {R:AOut->Heap->Prop} {x:AX} {T:List AV} {ks:Ks} :∀ {D:List AD} {H H':HX},iX D H=some H'->Fin P fn n R x T (iH ks H') []->FinM P fn n R x T (iH ks H) (D.map (ioD ks))
 |[],H,H',h,f=>by
  simp only[iX,bM0] at h;subst h;exact f
 |(g,a,b)::D,H,H',h,f=>by
  cases g with
  |yield id=>
   simp only[iX] at h;split at h
   ·rename_i hd;simp only[bMd,ioD,FinM];refine⟨by rw[lC hd];rfl,?_⟩;have:=aBy h f;rw[<-jK] at this;exact this
   ·cases h
  |_=>simp[iX] at h
def evA (P:Program)(all:Array Oper):List Oper->List AV->HX->Option (List AV×HX)
 |[],T,H=>some (T,H)
 |o::l,T,H=>match awanted all T o with
  |none=>none
  |some false=>evA P all l (tput T o.dst (.tup [])) H
  |some true=>match sC P (aev T) H o.op with
   |some (x,H')=>evA P all l (tput T o.dst x) H'
   |none=>none
theorem aBr {P:Program} {all:Array Oper} {ks:Ks} {K:List Oper->List AV->Heap->Prop} :∀ {l:List Oper} {T T':List AV} {H H':HX},evA P all l T H=some (T',H')->K [] (T'.map (io ks)) (iH ks H')->bY P all K l (T.map (io ks)) (iH ks H)
 |[],T,T',H,H',h,k=>by
  simp only[evA,bM0,bMf] at h;obtain⟨rfl,rfl⟩:=h;exact k
 |o::l,T,T',H,H',h,k=>by
  simp only[evA] at h;split at h
  ·cases h
  ·rename_i hw;simp only[bY,cI all T o hw];have:=aBr (ks:=ks) h k;rw[<-tput_io,io_tup,bNb] at this;exact this
  ·rename_i hw;split at h
   ·rename_i x H1 hx;simp only[bY,cI all T o hw,jW (ks:=ks) (fun y=>aev_io ks T y) hx];have:=aBr (ks:=ks) h k;rw[<-tput_io] at this;exact this
   ·cases h
def slots (args:List AV)(n:Nat):List AV:=args++List.replicate (n-args.length) (.tup [])
theorem pF (ks:Ks)(args:List AV)(n:Nat):(slots args n).map (io ks)=args.map (io ks)++List.replicate (n-(args.map (io ks)).length) (.tup []):=by
 unfold slots;rw[bMy,List.map_replicate,io_tup,bMp];rfl
def aWk:AX->Bool
 | .normal| .ret=>true
 |_=>false
def aL3 (S:Seat)(P:Program)(cf:Bool->LT->bF)(yf:cF)(lt:LT)(d:FuncId)(args:List AV)(m:Option AV)(H:HX)(j:Nat):Option HX:=
 match S.fn d with
 |some fn=>match fn.body with
  |some (.seq (.region _ ⟨o0::os⟩ false) c)=>match o0.op,o0.guard with
   | .call ⟨.builtin .recover,⟨[]⟩,_⟩,none=>match evA P ⟨o0::os⟩ os (tput (slots args fn.ntmps) o0.dst (recA m)) H with
    |some (T1,H1)=>match ev S P d cf yf lt false 100000 [.code c] T1 H1 j [] with
     | some (x,T2,H2,j2,[])=>if(Nat.beq j2 j&& aWk x&& decide (H.length<=H2.length))=true then
       (match lN P T2 H2 fn.results.toList with
       |some l=>(settle lt false H.length (bR l) H2).map (·.2)
       |none=>none) else none
     |_=>none
    |none=>none
   |_,_=>none
  |_=>none
 |none=>none
structure SeatOk (P:Program) (S:Seat):Prop where
 fns:∀f fn,S.fn f=some fn->P.funcs[f]?=some fn/\aK P f=true
 draws:∀f fn c,S.fn f=some fn->fn.body=some c->OkD S f (bG c)
 mixed:P.follows .mixedOrders=true
theorem aBs {S:Seat} {P:Program} (hS:SeatOk P S) {cf:Bool->LT->bF} {yf:cF} {lt:LT} (hlt:aFk S lt)(hcf:∀b lt,aFk S lt->gJ P (Gl lt) (cf b lt))(hyf:jD P (Gl lt) yf) {d:FuncId} {args:List AV} {m:Option AV} {H H':HX} {j:Nat} (h:aL3 S P cf yf lt d args m H j=some H') {ks:Ks} (hG:Gl lt j ks):
  ADef P d (args.map (io ks)) (m.map (io ks)) (iH ks H) (iH ks H'):=by
 unfold aL3 at h;split at h
 ·rename_i fn hfn;obtain⟨hf,_⟩:=hS.fns d fn hfn;split at h
  ·rename_i rid o0 os c hb;split at h
   ·rename_i ts hop hgd;split at h
    ·rename_i T1 H1 hA;split at h
     ·rename_i x T2 H2 j2 hev;split at h
      ·rename_i hc;simp only[bM8,bMi] at hc;obtain⟨⟨hj,hx⟩,hlen⟩:=hc;have hj:=Nat.eq_of_beq_eq_true hj;subst hj;split at h
       ·rename_i l hl;obtain⟨q,hs,rfl⟩:=bMb.1 h;obtain⟨y,H3⟩:=q;refine ADef.of_run (id:=rid) (o0:=o0) (os:=os) (c:=c) hf hb hop hgd ?_;intro K J;have hrec:recA (m.map (io ks))=io ks (recA m):=by cases m<;>simp[recA]
        rw[hrec,<-pF,tput_io];refine aBr (ks:=ks) hA (J _ _ ?_);obtain⟨_,b2⟩:=iE (S:=S) (rd:=none) (nb:=(iH ks H).length) hS.mixed hlt hcf hyf (fun _=>rfl) _ _ _ _ _ _ _ _ _ _ _ hev ((hS.draws d fn _ hfn hb).sub fun e he=>by simpa [iU,bG] using he);refine(b2 ks hG).mono ?_;rintro x2 T2' h2 D2 ⟨ks',a1,a2,rfl,rfl,rfl,rfl⟩;have e:=a2 rfl;subst e;obtain⟨h',mm,s1,s2,s3,s4,s5,s6⟩:=iN hlen hs hG
        have fin:∀ax,(ax=AX.normal\/ax=AX.ret)->Fin P fn (iH ks' H).length (fun o g=>(∃v,o= .ret v)/\g=iH ks' H3) ax (T2.map (io ks')) (iH ks' H2) []:=by
         intro ax hax;rw[bJ];rcases hax with rfl|rfl
         ·exact y75
         ·exact y75
        cases x with
        |normal=>exact fin _ (.inl rfl)
        |ret=>exact fin _ (.inr rfl)
        |panic v=>simp[aWk] at hx
        |exit i=>simp[aWk] at hx
       ·cases h
      ·cases h
     ·cases h
    ·cases h
   ·cases h
  ·cases h
 ·cases h
def vH:HX->Nat->Nat->Option Nat
 |[],_,_=>none
 | .loop i _ _::H,n,k=>if Nat.beq i k=true then some n else vH H (n+1) k
 |_::H,n,k=>vH H (n+1) k
def jokR (j:Nat):AOut->Bool
 | .ret v=>jok j v
 | .panic v=>jok j v
def aCk (j:Nat)(x:Option (AOut×HX×Nat)):Option (AOut×HX×Nat):=
 match x with
 |some (out,H',j1)=>if Nat.beq j1 j=true then some (out,H',j1) else if(jokR j out&& H'.all (aC7 j))=true then some (out,H',j) else some (out,H',j1)
 |none=>none
theorem aS7 {P:Program} {G:Kn} {f:FuncId} {args:List AV} {H:HX} {j j':Nat} {out:AOut} {H':HX} {x:Option (AOut×HX×Nat)} (h:aCk j x=some (out,H',j'))
  (c:∀j1,x=some (out,H',j1)->aK P f=true/\j<=j1/\∀ks,G j ks->ACalls P f (args.map (io ks)) (iH ks H) (oS ks j out H' j1)):
  aK P f=true/\j<=j'/\∀ks,G j ks->ACalls P f (args.map (io ks)) (iH ks H) (oS ks j out H' j'):=by
 unfold aCk at h;split at h
 ·rename_i o1 H1 j1;split at h
  ·exact y7l
  ·split at h
   ·rename_i hc;simp only[bM8] at hc;simp only[bM0,bMf] at h;obtain⟨rfl,rfl,rfl⟩:=h;obtain⟨c1,c2,c3⟩:=c _ rfl;refine⟨c1,bLx _,fun ks hG=>(c3 ks hG).mono ?_⟩;rintro o g ⟨ks',a1,a2,rfl,rfl⟩;refine⟨ks,Agree.refl _ _,fun _=>rfl,?_,pB a1 hc.2⟩
    cases o1 with
    |ret v=>simp only[ioR];rw[pC a1 hc.1]
    |panic v=>simp only[ioR];rw[pC a1 hc.1]
   ·exact y7l
 ·cases h
open Go Go.AI
inductive TB (α:Type) where
 |nil
 |nd (k:Nat) (x:α) (l r:TB α)
noncomputable def TB.get {α:Type} (t:TB α)(f:Nat):Option α:=
 TB.rec (motive:=fun _=>Option α) none (fun k x _ _ il ir=>Bool.rec (motive:=fun _=>Option α) (Bool.rec (motive:=fun _=>Option α) ir il (Nat.blt f k)) (some x) (Nat.beq f k)) t
def TB.All {α:Type} (p:Nat->α->Prop):TB α->Prop
 | .nil=>True
 | .nd k x l r=>p k x/\l.All p/\r.All p
theorem TB.get_all {α:Type} {p:Nat->α->Prop} {f:Nat} {x:α} :∀ {t:TB α},t.All p->t.get f=some x->p f x
 | .nil,_,h=>by cases h
 | .nd k y l r,ha,h=>by
  obtain⟨h1,h2,h3⟩:=ha;have e:TB.get (.nd k y l r) f=Bool.rec (motive:=fun _=>Option α) (Bool.rec (motive:=fun _=>Option α) (r.get f) (l.get f) (Nat.blt f k)) (some y) (Nat.beq f k):=rfl;rw[e] at h
  cases hb:Nat.beq f k with
  |true=>
   rw[hb] at h;have:=Nat.eq_of_beq_eq_true hb;subst this;simp only[bM0] at h;rw[<-h];exact h1
  |false=>
   rw[hb] at h
   cases hl:Nat.blt f k with
   |true=>rw[hl] at h;exact TB.get_all h2 h
   |false=>rw[hl] at h;exact TB.get_all h3 h
noncomputable def zW (fs:TB Func)(pl:TB (List Nat×List Nat×List Nat×List Nat))(pf:TB Pl)(p2:TB Pl2)(pe:TB (List (Nat×List Nat×List Nat×List Nat×List Nat)))(rows:FuncId->Bool)(keep:FuncId->FuncId->Bool):Seat:=
 ⟨fs.get,fun f r=>pl.get (Nat.add (Nat.mul f 4096) r),fun f r=>pf.get (Nat.add (Nat.mul f 4096) r),fun f r=>p2.get (Nat.add (Nat.mul f 4096) r),fun f r=>match pe.get (Nat.add (Nat.mul f 4096) r) with|some l=>l|none=>[],rows,keep⟩
def bGl (S:Seat)(f:FuncId)(fn:Func):Bool:=match fn.body with
 |some c=>(bG c).all fun e=>(match S.plan f e.1 with|some (lo,rk,tbl,π)=>okDraw e.2 lo rk tbl none π|none=>true)&& (match S.planF f e.1 with|some p=>aMi e.2 p|none=>true)&& (match S.plan2 f e.1 with|some p=>aR2 e.2 p|none=>true)&& (S.planE f e.1).all fun q=>okDraw e.2 q.2.1 q.2.2.1 q.2.2.2.1 (some q.1) q.2.2.2.2
 |none=>true
def aQ (P:Program)(S:Seat)(f:Nat)(fn:Func):Prop:=(P.funcs[f]?=some fn/\aK P f=true)/\bGl S f fn=true
theorem aUk {S:Seat} {f:FuncId} {fn:Func} {c:Code} (h:bGl S f fn=true)(hb:fn.body=some c):OkD S f (bG c):=by
 unfold bGl at h;rw[hb] at h;intro e he;have:=bMg.1 h e he;simp only[bM8] at this;refine⟨fun lo rk tbl π hp=>?_,fun p hp=>?_,fun p hp=>?_,fun q hq=>bMg.1 this.2 q hq⟩
 ·have h1:=this.1.1.1;rw[hp] at h1;exact h1
 ·have h1:=this.1.1.2;rw[hp] at h1;exact h1
 ·have h1:=this.1.2;rw[hp] at h1;exact h1
theorem aXe {P:Program} {fs:TB Func} {pl:TB (List Nat×List Nat×List Nat×List Nat)} {pf:TB Pl} {p2:TB Pl2} {pe:TB (List (Nat×List Nat×List Nat×List Nat×List Nat))} {rows:FuncId->Bool} {keep:FuncId->FuncId->Bool} (hm:P.follows .mixedOrders=true)
  (h:fs.All (aQ P (zW fs pl pf p2 pe rows keep))):SeatOk P (zW fs pl pf p2 pe rows keep) where
 fns:=fun _f _fn hf=>(TB.get_all (p:=aQ P (zW fs pl pf p2 pe rows keep)) h hf).1
 draws:=fun _f _fn _c hf hb=>aUk (TB.get_all (p:=aQ P (zW fs pl pf p2 pe rows keep)) h hf).2 hb
 mixed:=hm
open Go Go.AI
def evG (S:Seat) (P:Program) (cf:Bool->LT->bF) (yf:cF) (keep:Bool) (lt:LT):bF:=fun f args H j=>aCk j (match S.fn f with
    |some fn=>match fn.body with
     |some c=>match ev S P f cf yf lt false 100000 [.code c] (slots args fn.ntmps) H j [] with
      |some (x,T,H1,j1,D)=>if H.length<=H1.length then(match D with
       |(.func d,cap,dargs)::[]=>match x with
        | .exit _=>none
        |x=>if(S.fn d).isSome=true then(match aL3 S P cf yf lt d (dargs++cap) (match x with| .panic v=>some v|_=>none) H1 j1 with
         |some H2=>if H.length<=H2.length then(match lN P T H2 fn.results.toList with
          |some l=>(settle lt keep H.length (bR l) H2).map fun q=>(.ret q.1,q.2,j1)
          |none=>none) else none
         |none=>none) else none
       |D=>match iX D H1 with
        |some H2=>match x with
         | .exit _=>none
         | .panic v=>(settle lt keep H.length v H2).map fun q=>(.panic q.1,q.2,j1)
         |_=>match lN P T H2 fn.results.toList with
          |some l=>(settle lt keep H.length (bR l) H2).map fun q=>(.ret q.1,q.2,j1)
          |none=>none
        |none=>none) else none
      |none=>none
     |none=>none
    |none=>none)
theorem aTf {S:Seat} {P:Program} (hS:SeatOk P S) {cf:Bool->LT->bF} {yf:cF} {keep:Bool} {lt:LT} (hlt:aFk S lt)(hcf:∀b lt,aFk S lt->gJ P (Gl lt) (cf b lt))(hyf:jD P (Gl lt) yf):gJ P (Gl lt) (evG S P cf yf keep lt):=by
 intro f args H j out H' j' h;simp only[evG] at h;refine aS7 h fun j' h=>?_
 split at h
 ·rename_i fn hfn;obtain⟨hf,hen⟩:=hS.fns f fn hfn;split at h
  ·rename_i c hb;split at h
   ·rename_i x T H1 j1 D hev;obtain⟨b1,b2⟩:=iE (S:=S) (rd:=none) (nb:=H.length) hS.mixed hlt hcf hyf (fun _=>rfl) _ _ _ _ _ _ _ _ _ _ _ hev ((hS.draws f fn _ hfn hb).sub fun e he=>by simpa [iU] using he);split at h
    ·rename_i hlen;split at h
     ·--a deferred call
      rename_i d cap dargs;split at h
      ·cases h
      ·rename_i hne;split at h
       ·rename_i hd;obtain⟨fnd,hfnd⟩:=Option.isSome_iff_exists.1 hd;split at h
        ·rename_i H2 hdef;split at h
         ·rename_i hlen2;split at h
          ·rename_i l hl;obtain⟨q,hs,hq⟩:=bMb.1 h;obtain⟨y,H3⟩:=q;simp only[bMf] at hq;obtain⟨rfl,rfl,rfl⟩:=hq;refine⟨hen,b1,fun ks hG=>ACalls.of_runD hf hb ?_⟩;rw[<-pF,bJ];refine(b2 ks hG).mono ?_;rintro x2 T2' h2 D2 ⟨ks',a1,a2,rfl,rfl,rfl,rfl⟩;have hG':=Gl.closed lt _ _ _ _ hG a1 b1;have hdd:=aBs hS hlt hcf hyf hdef hG';obtain⟨h',mm,s1,s2,s3,s4,s5,s6⟩:=iN hlen2 hs hG';simp only[bMd,bNb,ioD,wX];refine⟨fun i e=>?_,(hS.fns d fnd hfnd).2,iH ks' H2,?_,?_⟩
           ·cases x<;>simp[ioX] at e
            exact hne _ rfl
           ·rw[bMy] at hdd
            cases x<;>first|exact hdd|exact(hne _ rfl).elim
           ·exact⟨rfl,_,_,h',mm,aresX_io hl,by rw[atuple_io];exact s1,s2,s3,s4,s5,ks',a1,a2,rfl,s6⟩
          ·cases h
         ·cases h
        ·cases h
       ·cases h
     ·rename_i hnd;split at h
      ·rename_i H2 hun;have hl2:=uL hun;split at h
       ·cases h
       ·rename_i v;obtain⟨q,hs,hq⟩:=bMb.1 h;obtain⟨y,H3⟩:=q;simp only[bMf] at hq;obtain⟨rfl,rfl,rfl⟩:=hq;refine⟨hen,b1,fun ks hG=>ACalls.of_runM hf hb ?_⟩;rw[<-pF,bJ];refine(b2 ks hG).mono ?_;rintro x2 T2' h2 D2 ⟨ks',a1,a2,rfl,rfl,rfl,rfl⟩;have hG':=Gl.closed lt _ _ _ _ hG a1 b1;obtain⟨h',mm,s1,s2,s3,s4,s5,s6⟩:=iN aB hs hG';exact aBy hun ⟨rfl,_,h',mm,s1,s2,s3,s4,s5,ks',a1,a2,rfl,s6⟩
       ·rename_i hne1 hne2;split at h
        ·rename_i l hl;obtain⟨q,hs,hq⟩:=bMb.1 h;obtain⟨y,H3⟩:=q;simp only[bMf] at hq;obtain⟨rfl,rfl,rfl⟩:=hq;refine⟨hen,b1,fun ks hG=>ACalls.of_runM hf hb ?_⟩;rw[<-pF,bJ];refine(b2 ks hG).mono ?_;rintro x2 T2' h2 D2 ⟨ks',a1,a2,rfl,rfl,rfl,rfl⟩;have hG':=Gl.closed lt _ _ _ _ hG a1 b1;obtain⟨h',mm,s1,s2,s3,s4,s5,s6⟩:=iN aB hs hG';refine aBy hun ?_
         cases x with
         |normal=>exact⟨rfl,_,_,h',mm,aresX_io hl,by rw[atuple_io];exact s1,s2,s3,s4,s5,ks',a1,a2,rfl,s6⟩
         |ret=>exact⟨rfl,_,_,h',mm,aresX_io hl,by rw[atuple_io];exact s1,s2,s3,s4,s5,ks',a1,a2,rfl,s6⟩
         |panic v=>exact(hne2 _ rfl).elim
         |exit i=>exact(hne1 _ rfl).elim
        ·cases h
      ·cases h
    ·cases h
   ·cases h
  ·cases h
 ·cases h
def bH0 (S:Seat) (P:Program) (cfk:FuncId->Bool->LT->bF) (yf:cF) (lt:LT):cF:=fun i args H j=>match tK lt i,vH H 0 i with
    |some e,some id=>match H[id]? with
     | some (.loop i1 .ready none)=>if(Nat.beq i1 i&& Nat.beq args.length e.ps.size)=true then
       (match ev S P e.fid (cfk e.fid) yf lt true 100000 [.code e.asg] (eH e.T e.ps.toList args) H j [] with
       |some (.normal,T1,H1,j1,[])=>match H1[id]? with
        | some (.loop i2 .ready none)=>if Nat.beq i2 i=true then
          (match ev S P e.fid (cfk e.fid) yf lt true 100000 [.code e.bd] T1 (H1.set id (.loop i .busy none)) j1 [] with
          |some (x,_,H2,j2,[])=>match oH x,H2[id]? with
           | some jj,some (.loop i3 .busy none)=>if(Nat.beq i3 i&& decide (H.length<=H2.length))=true then
             (if((H2.set id (.loop i (stOf jj) jj)).take H.length).all (fV lt H.length)=true then some (.ret (.p (.prim (.bool jj.isNone))),(H2.set id (.loop i (stOf jj) jj)).take H.length,j2)
             else if(H2.set id (.loop i (stOf jj) jj)).all (fV lt H2.length)=true then some (.ret (.p (.prim (.bool jj.isNone))),H2.set id (.loop i (stOf jj) jj),j2) else none) else none
           |_,_=>none
          |_=>none) else none
        |_=>none
       |_=>none) else none
     |_=>none
    |_,_=>none
theorem aWe {S:Seat} {P:Program} (hS:SeatOk P S) {cfk:FuncId->Bool->LT->bF} {yf:cF} {lt:LT} (hlt:aFk S lt)(hcf:∀g b lt,aFk S lt->gJ P (Gl lt) (cfk g b lt))(hyf:jD P (Gl lt) yf):jD P (Gl lt) (bH0 S P cfk yf lt):=by
 intro i args H j out H' j' h;simp only[bH0] at h;split at h
 ·rename_i e id he hid;obtain⟨hem,rfl⟩:=nA he;have hcf:=hcf e.fid;split at h
  ·rename_i i1 h1;split at h
   ·rename_i hc;simp only[bM8] at hc;obtain⟨hi1,hargs⟩:=hc;have hi1:=Nat.eq_of_beq_eq_true hi1;have hargs:=Nat.eq_of_beq_eq_true hargs;subst hi1;split at h
    ·rename_i T1 H1 j1 hev1;split at h
     ·rename_i i2 h2;split at h
      ·rename_i hi2;have hi2:=Nat.eq_of_beq_eq_true hi2;subst hi2;split at h
       ·rename_i x T3 H2 j2 hev2;split at h
        ·rename_i jj i3 hjj h3;split at h
         ·rename_i hc3;simp only[bM8,bMi] at hc3;obtain⟨hi3,hlen⟩:=hc3;have hi3:=Nat.eq_of_beq_eq_true hi3;subst hi3;have g1:=(iE (S:=S) (fid:=e.fid) (rd:=some 0) (nb:=0) hS.mixed hlt hcf hyf (fun q=>by cases q) _ _ _ _ _ _ _ _ _ _ _ hev1 ((hlt e hem).1.sub fun e he=>by simpa [iU] using he)).1;have g2:=(iE (S:=S) (fid:=e.fid) (rd:=some 0) (nb:=0) hS.mixed hlt hcf hyf (fun q=>by cases q) _ _ _ _ _ _ _ _ _ _ _ hev2 ((hlt e hem).2.sub fun e he=>by simpa [iU] using he)).1
          --where the round ends
          have main:∀(m:Nat) (H3:HX),H.length<=m->m<=H2.length->H3=(H2.set id (.loop e.j (stOf jj) jj)).take m->H3.all (fV lt m)=true->out= .ret (.p (.prim (.bool jj.isNone)))->H'=H3->j'=j2->
            j<=j'/\∀ks,Gl lt j ks->AYield P (ks e.j).1 (args.map (io ks)) (iH ks H) (oS ks j out H' j'):=by
           rintro m H3 hm1 hm2 rfl hun rfl rfl rfl;refine⟨bNs g1 g2,fun ks hG=>?_⟩;obtain⟨q1,q2,q3⟩:=hG e hem
           have hat:∀ {ks':Ks} {G:HX} {st:LoopState} {pend:Option Code},ks' e.j=ks e.j->G[id]?=some (.loop e.j st pend)->(iH ks' G).at id=some (.aux (.loop (ks e.j).1 st pend (e.T.map (io ks)) e.ps e.asg e.bd)):=by
            intro ks' G st pend hk hg;rw[lC hg];simp only[iO,hk,q3]
           have hset:∀ {ks':Ks} {G:HX} (st:LoopState) (pend:Option Code),ks' e.j=ks e.j->(iH ks' G).set id (some (.aux (.loop (ks e.j).1 st pend (e.T.map (io ks)) e.ps e.asg e.bd)))=iH ks' (G.set id (.loop e.j st pend)):=by
            intro ks' G st pend hk;rw[<-jK];simp only[iO,hk,q3]
           refine AYield.of_run (hat rfl h1) (by rw[bMp];exact hargs) ?_;obtain⟨_,r1⟩:=iE (S:=S) (fid:=e.fid) (rd:=some (ks e.j).1) (nb:=(iH ks H).length) hS.mixed hlt hcf hyf (fun q=>by cases q) _ _ _ _ _ _ _ _ _ _ _ hev1 ((hlt e hem).1.sub fun e he=>by simpa [iU] using he)
           have hpm:∀(ps:List Tmp) (xs T:List AV),eH (T.map (io ks)) ps (xs.map (io ks))=(eH T ps xs).map (io ks):=by
            intro ps
            induction ps with
            |nil=>intro xs T;cases xs<;>simp[eH]
            |cons p ps ih=>
             intro xs T
             cases xs with
             |nil=>simp[eH]
             |cons x xs=>simp only[bMd,eH];rw[<-List.map_set,ih]
           rw[hpm];refine(r1 ks hG).mono ?_;rintro x2 T2' h2' D2 ⟨ks1,a1,a2,rfl,rfl,rfl,rfl⟩;have k1:ks1 e.j=ks e.j:=a1 _ q1;refine⟨rfl,rfl,hat k1 h2,?_⟩;rw[hset .busy none k1];obtain⟨_,r2⟩:=iE (S:=S) (fid:=e.fid) (rd:=some (ks e.j).1) (nb:=(iH ks H).length) hS.mixed hlt hcf hyf (fun q=>by cases q) _ _ _ _ _ _ _ _ _ _ _ hev2 ((hlt e hem).2.sub fun e he=>by simpa [iU] using he);have hG1:=Gl.closed lt _ _ _ _ hG a1 g1;refine(r2 ks1 hG1).mono ?_;rintro x3 T3' h3' D3 ⟨ks2,b1,b2,rfl,rfl,rfl,rfl⟩;have hG2:=Gl.closed lt _ _ _ _ hG1 b1 g2;have k2:ks2 e.j=ks e.j:=(b1 _ aB).trans k1
           have hjx:oH (ioX ks2 x)=some jj:=by
            cases x with
            |panic v=>simp[oH] at hjj
            |_=>exact hjj
           have htk:(iH ks2 (H2.set id (.loop e.j (stOf jj) jj))).take m=iH ks2 ((H2.set id (.loop e.j (stOf jj) jj)).take m):=by simp[iH,List.map_take]
           refine⟨jj,m,hjx,rfl,by rw[bJ];exact hm1,by rw[bJ];exact hm2,hat k2 h3,?_,?_⟩
           ·rw[hset (stOf jj) jj k2,htk];exact mQ hG2 hun
           ·rw[hset (stOf jj) jj k2,htk];refine⟨ks2,a1.trans g1 b1,fun q=>?_,by simp[ioR],rfl⟩;have e1:j1=j:=aB;rw[b2 aB,a2 e1]
          split at h
          ·rename_i hun;simp only[bM0,bMf] at h;obtain⟨rfl,rfl,rfl⟩:=h;exact main H.length _ (bLx _) hlen rfl hun rfl rfl rfl
          ·split at h
           ·rename_i hun;simp only[bM0,bMf] at h;obtain⟨rfl,rfl,rfl⟩:=h
            have e1:(H2.set id (.loop e.j (stOf jj) jj)).take H2.length=H2.set id (.loop e.j (stOf jj) jj):=by
             rw[bM7 aA]
            exact main H2.length _ hlen (bLx _) e1.symm hun rfl rfl rfl
           ·cases h
         ·cases h
        ·cases h
       ·cases h
      ·cases h
     ·cases h
    ·cases h
   ·cases h
  ·cases h
 ·cases h
structure Ent where
 f:FuncId
 args:List AV
 H:HX
 j:Nat
 out:AOut
 H':HX
 j':Nat
def look:List Ent->bF
 |[],_,_,_,_=>none
 |e::l,f,args,H,j=>if(Nat.beq e.f f&& Nat.beq e.j j&& Nat.beq e.H.length H.length&& aAm e.args args&& eqH e.H H)=true then some (e.out,e.H',e.j') else look l f args H j
open Go Go.AI
inductive Tr where
 |nil
 |nd (x:AV) (l r:Tr)
noncomputable def Tr.get (t:Tr):Nat->AV:=
 Tr.rec (motive:=fun _=>Nat->AV) (fun _=> .tup [])
  (fun x _ _ il ir n=>Nat.rec (motive:=fun _=>AV) x (fun m _=>Bool.rec (motive:=fun _=>AV) (ir (Nat.div m 2)) (il (Nat.div m 2)) (Nat.beq (Nat.mod m 2) 0)) n) t
noncomputable def Tr.put (y:AV)(fuel:Nat):Tr->Nat->Tr:=
 Nat.rec (motive:=fun _=>Tr->Nat->Tr) (fun t _=>t) (fun _ ih t n=>Tr.rec (motive:=fun _=>Tr)
  (Nat.rec (motive:=fun _=>Tr) (.nd y .nil .nil) (fun m _=>Bool.rec (motive:=fun _=>Tr) (.nd (.tup []) .nil (ih .nil (Nat.div m 2))) (.nd (.tup []) (ih .nil (Nat.div m 2)) .nil) (Nat.beq (Nat.mod m 2) 0)) n)
  (fun x l r _ _=>Nat.rec (motive:=fun _=>Tr) (.nd y l r) (fun m _=>Bool.rec (motive:=fun _=>Tr) (.nd x l (ih r (Nat.div m 2))) (.nd x (ih l (Nat.div m 2)) r) (Nat.beq (Nat.mod m 2) 0)) n) t) fuel
theorem Tr.get_nil (n:Nat):Tr.get .nil n= .tup []:=rfl
theorem Tr.get_succ (x:AV)(l r:Tr)(m:Nat):Tr.get (.nd x l r) (m+1)=if m%2=0 then l.get (m/2) else r.get (m/2):=by
 have e:Tr.get (.nd x l r) (m+1)=Bool.rec (motive:=fun _=>AV) (r.get (m/2)) (l.get (m/2)) (Nat.beq (m%2) 0):=rfl;exact y5g
def Tr.val:Tr->AV
 | .nil=> .tup []
 | .nd x _ _=>x
def Tr.lt:Tr->Tr
 | .nil=> .nil
 | .nd _ l _=>l
def Tr.rt:Tr->Tr
 | .nil=> .nil
 | .nd _ _ r=>r
theorem Tr.put_zero (y:AV)(k:Nat)(t:Tr):Tr.put y (k+1) t 0= .nd y t.lt t.rt:=by cases t<;>rfl
theorem Tr.put_succ (y:AV)(k:Nat)(t:Tr)(m:Nat):Tr.put y (k+1) t (m+1)=if m%2=0 then .nd t.val (Tr.put y k t.lt (m/2)) t.rt else .nd t.val t.lt (Tr.put y k t.rt (m/2)):=by
 have e:Tr.put y (k+1) t (m+1)=Bool.rec (motive:=fun _=>Tr) (.nd t.val t.lt (Tr.put y k t.rt (m/2))) (.nd t.val (Tr.put y k t.lt (m/2)) t.rt) (Nat.beq (m%2) 0):=by cases t<;>rfl
 exact y5g
theorem Tr.get_eq (t:Tr)(n:Nat):t.get n=match n with|0=>t.val|m+1=>if m%2=0 then t.lt.get (m/2) else t.rt.get (m/2):=by
 cases t with
 |nil=>cases n<;>simp[Tr.get_nil,Tr.val,Tr.lt,Tr.rt]
 |nd x l r=>cases n with
  |zero=>rfl
  |succ m=>rw[Tr.get_succ];rfl
theorem Tr.get_put (y:AV):∀(k:Nat)(t:Tr)(d e:Nat),d+1<2^k->(Tr.put y k t d).get e=if e=d then y else t.get e
 |0,t,d,e,h=>by simp at h
 |k+1,t,0,e,_=>by
  rw[Tr.put_zero,Tr.get_eq,Tr.get_eq t e]
  cases e with
  |zero=>rfl
  |succ m=>simp[Tr.lt,Tr.rt]
 |k+1,t,d+1,e,h=>by
  have hd:d/2+1<2^k:=by rw[Nat.pow_succ] at h;omega
  rw[Tr.put_succ,Tr.get_eq t e]
  cases e with
  |zero=>split<;>rw[Tr.get_eq]<;>simp[Tr.val]
  |succ m=>
   have ih:=fun t=>Tr.get_put y k t (d/2) (m/2) hd
   simp only[Nat.add_right_cancel_iff];split
   ·rename_i hp;rw[Tr.get_eq];simp only[Tr.lt,Tr.rt,ih]
    by_cases hm:m%2=0
    ·simp only[hm,if_true]
     by_cases e1:m=d
     ·subst e1;simp
     ·rw[if_neg e1,if_neg aB]
    ·simp only[hm,if_false];rw[if_neg aB]
   ·rename_i hp;rw[Tr.get_eq];simp only[Tr.lt,Tr.rt,ih]
    by_cases hm:m%2=0
    ·simp only[hm,if_true];rw[if_neg aB]
    ·simp only[hm,if_false]
     by_cases e1:m=d
     ·subst e1;simp
     ·rw[if_neg e1,if_neg aB]
noncomputable def toL (n:Nat)(t:Tr):List AV:=(List.range n).map t.get
theorem aXj (n:Nat)(t:Tr):(toL n t).length=n:=by simp[toL]
theorem aXi (n:Nat)(t:Tr) {d:Nat} (h:d<n):tget (toL n t) d=t.get d:=by
 rw[tget_eq];simp[toL,List.getD,h]
theorem aXk (n:Nat)(t:Tr)(y:AV) {d k:Nat} (h:d+1<2^k):toL n (Tr.put y k t d)=(toL n t).set d y:=by
 apply bNj;intro i;refine y1t ?_;simp only[toL,bO4,bMp,List.length_range]
 by_cases hi:i<n
 ·rw[List.getElem?_range hi];simp only[bN2,Tr.get_put y k t d i h]
  by_cases e:d=i
  ·subst e;simp[hi]
  ·rw[if_neg e,if_neg (fun q=>e q.symm)]
 ·rw[bNz (by simpa using hi)]
  by_cases e:d=i
  ·subst e;simp[hi]
  ·rw[if_neg e];rfl
noncomputable def aZa (n:Nat)(T:Tr)(d:Nat):AV:=Bool.rec (motive:=fun _=>AV) .junk (T.get d) (Nat.blt d n)
theorem vM (n:Nat)(T:Tr)(d:Nat):aZa n T d=tget (toL n T) d:=by
 unfold aZa
 cases h:Nat.blt d n with
 |true=>
  have:d<n:=by simpa [Nat.blt_eq] using h
  rw[aXi n T this]
 |false=>
  have hn:¬d<n:=fun q=>by rw[<-Nat.blt_eq,h] at q;cases q
  rw[tget_eq];simp[toL,List.getD,hn]
noncomputable def oK (n:Nat)(T:Tr)(dst:Option Nat)(x:AV):Tr:=Option.rec (motive:=fun _=>Tr) T (fun d=>Bool.rec (motive:=fun _=>Tr) T (Tr.put x 12 T d) (Nat.blt d n)) dst
theorem kput_eq {n:Nat} (hn:n<4095)(T:Tr)(dst:Option Nat)(x:AV):toL n (oK n T dst x)=tput (toL n T) dst x:=by
 cases dst with
 |none=>rfl
 |some d=>
  show toL n (Bool.rec (motive:=fun _=>Tr) T (Tr.put x 12 T d) (Nat.blt d n))=(toL n T).set d x
  cases h:Nat.blt d n with
  |true=>
   have hd:d+1<=n:=Nat.le_of_ble_eq_true h;have h12:(2:Nat)^12=4096:=rfl;exact aXk n T x (by rw[h12];omega)
  |false=>
   have hd:¬d+1<=n:=fun q=>by
    have:=Nat.ble_eq_true_of_le q;rw[show Nat.ble (d+1) n=Nat.blt d n from rfl,h] at this;cases this
   rw[List.set_eq_of_length_le (by rw[aXj];omega)]
noncomputable def kev (n:Nat)(T:Tr):Operand->AV
 | .tmp t=>aZa n T t
 | .const v=>sS v
 | .global _=> .junk
 | .func f=> .p (.prim (.func (.func f) #[] #[]))
theorem mD (n:Nat)(T:Tr):kev n T=aev (toL n T):=by
 funext y
 cases y with
 |tmp t=>exact vM n T t
 |_=>rfl
noncomputable def nI (all:Array Oper)(n:Nat)(T:Tr)(o:Oper):Option Bool:=
 match o.guard with
 |none=>some true
 |some (j,want)=>match (all[j]?).bind (·.dst) with
  |some d=>match aZa n T d with
   | .p (.prim (.bool b))=>some (b==want)
   | .tup []=>some false
   |_=>none
  |none=>some false
theorem kB (all:Array Oper)(n:Nat)(T:Tr)(o:Oper):nI all n T o=awanted all (toL n T) o:=by
 unfold nI awanted;simp only[vM]
 rfl
noncomputable def nG (n:Nat)(T:Tr)(c:Call):Option (FuncId×List AV):=
 match c.callee with
 | .value f=>match kev n T f with
  | .p (.prim (.func (.func i) _ _))=>some (i,c.args.toList.map (kev n T))
  | .fn (.func i) first cap=>some (i,first++c.args.toList.map (kev n T)++cap)
  |_=>none
 |_=>none
theorem kA (n:Nat)(T:Tr)(c:Call):nG n T c=acallee (toL n T) c:=by
 unfold nG acallee;rw[mD]
 rfl
noncomputable def vL (n:Nat)(T:Tr)(c:Call):Option (Nat×List AV):=
 match c.callee with
 | .value f=>match kev n T f with
  | .fn (.yield l) [] []=>some (l,c.args.toList.map (kev n T))
  |_=>none
 |_=>none
theorem aCa (n:Nat)(T:Tr)(c:Call):vL n T c=eJ (toL n T) c:=by
 unfold vL eJ;rw[mD]
 rfl
open Go Go.AI
inductive KOR where
 |norm (T:Tr) (H:HX) (j:Nat) (D:List AD)
 |pan (v:AV) (T:Tr) (H:HX) (j:Nat) (D:List AD)
noncomputable def KOR.un (n:Nat):KOR->OR
 | .norm T H j D=> .norm (toL n T) H j D
 | .pan v T H j D=> .pan v (toL n T) H j D
noncomputable def aWn (n:Nat)(P:Program)(rows:Bool)(cf:bF)(yf:cF)(rnd:Bool)(o:Oper)(T:Tr)(H:HX)(j:Nat)(D:List AD):Option KOR:=
 match o.op with
 | .call ⟨.value f,args,types⟩=>match nG n T ⟨.value f,args,types⟩ with
  |some (f,args)=>match cf f args H j with
   |some (.ret v,H',j')=>if kR j j' (toL n T) D=true then some (.norm (oK n T o.dst v) H' j' D) else none
   |some (.panic v,H',j')=>if kR j j' (toL n T) D=true then some (.pan v T H' j' D) else none
   |none=>none
  |none=>match vL n T ⟨.value f,args,types⟩ with
   |some (i,args)=>match yf i args H j with
    |some (.ret v,H',j')=>if kR j j' (toL n T) D=true then some (.norm (oK n T o.dst v) H' j' D) else none
    |_=>none
   |none=>none
 | .panic x=>match kev n T x with
  | .p (.ifc t y)=>some (.pan (.p (.ifc t y)) T H j D)
  |_=>none
 | .defer ⟨.value f,args,_⟩=>if rnd=true then none else match kev n T f with
  | .fn (.func i) first cap=>some (.norm (oK n T o.dst (.tup [])) H j ((.func i,cap,first++args.toList.map (kev n T))::D))
  |_=>none
 | .mapUpdate t m ix x=>match bGh P t (kev n T m) (kev n T ix) (kev n T x) H with
  |some H'=>some (.norm (oK n T o.dst (.tup [])) H' j D)
  |none=>match aSt P t (kev n T m) (kev n T ix) (kev n T x) H with
   |some H'=>some (.norm (oK n T o.dst (.tup [])) H' j D)
   |none=>none
 |op=>match xsp P rows (kev n T) H j op with
  |some (x,H',j')=>if kR j j' (toL n T) D=true then some (.norm (oK n T o.dst x) H' j' D) else none
  |none=>match sC P (kev n T) H op with
   |some (x,H')=>some (.norm (oK n T o.dst x) H' j D)
   |none=>none
noncomputable def oI (n:Nat)(P:Program)(rows:Bool)(cf:bF)(yf:cF)(rnd:Bool)(all:Array Oper):List Oper->Tr->HX->Nat->List AD->Option KOR
 |[],T,H,j,D=>some (.norm T H j D)
 |o::l,T,H,j,D=>match nI all n T o with
  |none=>none
  |some false=>oI n P rows cf yf rnd all l (oK n T o.dst (.tup [])) H j D
  |some true=>match aWn n P rows cf yf rnd o T H j D with
   |some (.norm T' H' j' D')=>oI n P rows cf yf rnd all l T' H' j' D'
   |some (.pan v T' H' j' D')=>some (.pan v T' H' j' D')
   |none=>none
theorem aEm {n:Nat} (hn:n<4095) {P:Program} {rows:Bool} {cf:bF} {yf:cF} {rnd:Bool} {o:Oper} {T:Tr} {H:HX} {j:Nat} {D:List AD} {r:KOR} (h:aWn n P rows cf yf rnd o T H j D=some r):
  bCc P rows cf yf rnd o (toL n T) H j D=some (r.un n):=by
 unfold aWn at h;simp only[kA,aCa,mD] at h;unfold bCc;split at h
 ·rename_i ho;rw[ho];split at h
  ·rename_i e1;simp only[e1];split at h
   ·rename_i e2;simp only[e2];exact y6p
   ·rename_i e2;simp only[e2];split at h
    ·rename_i e3;simp only[bM0] at h;subst h;simp only[e3,if_true,KOR.un]
    ·cases h
   ·cases h
  ·rename_i e1;simp only[e1];split at h
   ·rename_i e2;simp only[e2];split at h
    ·rename_i e3;simp only[e3];split at h
     ·rename_i e4;simp only[bM0] at h;subst h;simp only[e4,if_true,KOR.un,kput_eq hn]
     ·cases h
    ·cases h
   ·cases h
 ·rename_i ho;rw[ho];split at h
  ·rename_i e1;simp only[bM0] at h;subst h;simp only[e1,KOR.un]
  ·cases h
 ·rename_i ho;rw[ho];split at h
  ·cases h
  ·rename_i e1;simp only[e1,if_false,bMe];exact y4m
 ·rename_i ho;rw[ho];split at h
  ·rename_i e1;simp only[bM0] at h;subst h;simp only[e1,KOR.un,kput_eq hn]
  ·rename_i e1;simp only[e1];exact y4m
 ·rename_i n1 n2 n3 n4;split
  ·rename_i ho;exact(n1 _ _ _ ho).elim
  ·rename_i ho;exact(n2 _ ho).elim
  ·rename_i ho;exact(n3 _ _ _ ho).elim
  ·rename_i ho;exact(n4 _ _ _ _ ho).elim
  split at h
  ·rename_i e1;simp only[e1];exact y6p
  ·rename_i e1;simp only[e1];exact y4m
theorem mC {n:Nat} (hn:n<4095) {P:Program} {rows:Bool} {cf:bF} {yf:cF} {rnd:Bool} {all:Array Oper} :∀ {l:List Oper} {T:Tr} {H:HX} {j:Nat} {D:List AD} {r:KOR},oI n P rows cf yf rnd all l T H j D=some r->
  qB P rows cf yf rnd all l (toL n T) H j D=some (r.un n)
 |[],T,H,j,D,r,h=>by
  simp only[oI,bM0] at h;subst h
  rfl
 |o::l,T,H,j,D,r,h=>by
  simp only[oI,kB] at h;simp only[qB];split at h
  ·cases h
  ·rename_i hw;simp only[hw];rw[<-kput_eq hn];exact mC hn h
  ·rename_i hw;simp only[hw];split at h
   ·rename_i e1;simp only[aEm hn e1,KOR.un];exact mC hn h
   ·rename_i e1;simp only[bM0] at h;subst h;simp only[aEm hn e1,KOR.un]
   ·cases h
end Go.AI.EV
