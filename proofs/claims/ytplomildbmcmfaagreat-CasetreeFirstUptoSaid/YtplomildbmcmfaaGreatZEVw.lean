import Derived.Test.YtplomildbmcmfaaGreatZA0
import Derived.Test.YtplomildbmcmfaaGreatZEVe
import Derived.Test.YtplomildbmcmfaaGreatZFG
import Derived.Test.YtplomildbmcmfaaGreatZEVc
namespace Go.AI.EV
open Go Go.AI
def nX (n0 j:Nat):Nat:=2*(n0+1048576*j)+1
theorem lZ (ks:Ks) {n0:Nat} (j:Nat)(h:n0<1048576):qH ks (nX n0 j)=n0+(ks j).1:=by
 unfold qH nX;have e1:(2*(n0+1048576*j)+1)/2=n0+1048576*j:=aB;rw[if_neg aB,e1];have e2:(n0+1048576*j)%1048576=n0:=aB;have e3:(n0+1048576*j)/1048576=j:=aB;rw[e2,e3]
def bCi:AV->Bool
 | .sm _ _ _ _ _=>true
 |_=>false
def aTp (sz:Nat)(x:AV)(H:HX):Option (Nat×List AV):=
 match x with
 | .sm id off len _ s=>if s=sz then(match (H[id]?).bind cellsOf with
   |some cs=>if off+len*sz<=cs.length/\((cs.drop off).take (len*sz)).all lI=true then some (len,(cs.drop off).take (len*sz)) else none
   |none=>none) else none
 |x=>if srcSz sz x=true then(sI x).map fun es=>(es.length,es.flatten.map .p) else none
section
variable {P:Program} {ks:Ks} {E:Env} {w:World} {H:HX}
theorem wG (x:AV):sI (io ks x)=sI x:=by
 cases x with
 |p x=>simp only[eV]
 |own a b c=>simp only[mA]
 |_=>simp[sI]
theorem pG (sz:Nat)(x:AV):srcSz sz (io ks x)=srcSz sz x:=by
 cases x with
 |p x=>simp only[eV]
 |own a b c=>simp only[mA]
 |_=>simp[srcSz]
theorem aF7 {sz m:Nat} {x:AV} {us:List AV} {v:Value} (h:aTp sz x H=some (m,us))(hm:0<m)(r:Rel E (iH ks H).at w)(hx:Rep E w (io ks x) v):Src E w v m sz (us.map (io ks)):=by
 have pv:∀x,(if srcSz sz x=true then(sI x).map fun es=>(es.length,es.flatten.map AV.p) else none)=some (m,us)->Rep E w (io ks x) v->Src E w v m sz (us.map (io ks)):=by
  intro x h hx;split at h
  ·rename_i h2;obtain⟨es,h1,h3⟩:=bMb.1 h;simp only[bMf] at h3;obtain⟨rfl,rfl⟩:=h3;rw[bOr,show io ks∘AV.p=AV.p from funext (eV ks)];exact bDu (by rw[wG];exact h1) (by rw[pG];exact h2) hx hm
  ·cases h
 unfold aTp at h;split at h
 ·rename_i id off len cap s;split at h
  ·rename_i hs;subst hs;split at h
   ·rename_i cs hb;split at h
    ·rename_i hc;simp only[bM0,bMf] at h;obtain⟨rfl,rfl⟩:=h;obtain⟨o,h2,h3⟩:=gM hb;obtain⟨R,h4,_⟩:=iF (ks:=ks) h3;have hat:=lC (ks:=ks) h2;rw[h4] at hat;have he:=eQ (f:=io ks) (R:=R) hc.1;rw[<-he];refine bDv r hat (by simpa using hx) (by simp;omega) ?_;rw[he,sY];exact hc.2
    ·cases h
   ·cases h
  ·cases h
 ·exact pv _ h hx
theorem aA1 {sz:Nat} {x:AV} {us:List AV} {v:Value} (h:aTp sz x H=some (0,us))(hx:Rep E w (io ks x) v):∃a c,v= .slice a 0 c:=by
 unfold aTp at h;split at h
 ·rename_i id off len cap s;split at h
  ·split at h
   ·split at h
    ·simp only[bM0,bMf] at h;obtain⟨rfl,rfl⟩:=h;simp only[io_sm,Rep] at hx;obtain⟨b,_,rfl⟩:=hx;exact⟨_,_,rfl⟩
    ·cases h
   ·cases h
  ·cases h
 ·split at h
  ·rename_i h2;obtain⟨es,h1,h3⟩:=bMb.1 h;simp only[bMf] at h3;have hX:=iR (by rw[wG];exact h1) (by rw[pG];exact h2) hx;simp only[RepP] at hX;obtain⟨a,c,rfl,_⟩:=hX;rw[h3.1];exact⟨a,c,rfl⟩
  ·cases h
def aXp (P:Program)(t:TypeId)(s x:AV)(H:HX):Option (AV×HX):=
 match elT P t with
 |some e=>match szT P e,byT P e,aS P e,sI x with
  | some sz,some by_,some _,some ys=>if srcSz sz x=true/\0<sz then
    match s with
    | .p (.prim (.slice none 0 0))=>if ys.length*by_<=140737488355328/\ys.length<=9223372036854775807 then some (.own H.length sz ys,H++[.tok ys.length sz]) else none
    | .own tok s' es=>match H[tok]? with
     | some (.tok n s2)=>if s'=sz/\s2=sz/\n=es.length/\(es.length+ys.length)*by_<=140737488355328/\es.length+ys.length<=9223372036854775807 then
       some (.own tok sz (es++ys),H.set tok (.tok (es.length+ys.length) sz)) else none
     |_=>none
    |_=>none
   else none
  |_,_,_,_=>none
 |none=>none
theorem aSr {t:TypeId} {s x:AV} {H H':HX} {sz:Nat} {ys:List (List PV)} (h:aXp P t s x H=some (.own H.length sz ys,H'))(hl:H'.length=H.length+1):∃n,H'=H++[.tok n sz]:=by
 unfold aXp at h
 cases h1:elT P t with
 |none=>simp only[h1] at h;cases h
 |some e=>
  simp only[h1] at h;split at h
  ·split at h
   ·split at h
    ·split at h
     ·simp only[bM0,bMf,AV.own.injEq] at h;obtain⟨⟨_,rfl,rfl⟩,rfl⟩:=h;exact⟨_,rfl⟩
     ·cases h
    ·split at h
     ·split at h
      ·simp only[bM0,bMf] at h;obtain⟨_,rfl⟩:=h;rw[bNu] at hl;omega
      ·cases h
     ·cases h
    ·cases h
   ·cases h
  ·cases h
theorem aXq {t:TypeId} {s x y:AV} {H':HX} (h:aXp P t s x H=some (y,H')):mS P t (io ks s) (io ks x) (iH ks H)=some (io ks y,iH ks H'):=by
 unfold aXp at h;unfold mS;rw[wG]
 cases h1:elT P t with
 |none=>simp only[h1] at h;cases h
 |some e=>
  cases h2:szT P e with
  |none=>simp only[h1,h2] at h;cases h
  |some sz=>
   cases h3:byT P e with
   |none=>simp only[h1,h2,h3] at h;cases h
   |some by_=>
    cases h4:aS P e with
    |none=>simp only[h1,h2,h3,h4] at h;cases h
    |some z=>
     cases h5:sI x with
     |none=>simp only[h1,h2,h3,h4,h5] at h;cases h
     |some ys=>
      simp only[h1,h2,h3,h4,h5,pG] at h⊢;split at h
      ·rename_i hc;rw[if_pos hc]
       cases s with
       |p q=>cases q with
        |prim v=>
         cases v with
         |slice a b c=>
          cases a with
          |none=>cases b with
           |zero=>cases c with
            |zero=>
             simp only[eV] at h⊢;split at h
             ·rename_i hc2;rw[if_pos hc2];simp only[bM0,bMf] at h;obtain⟨rfl,rfl⟩:=h;rw[fA,bJ,mA];rfl
             ·cases h
            |succ c=>simp at h
           |succ b=>simp at h
          |some a=>simp at h
         |_=>simp at h
        |_=>simp at h
       |own tok s' es=>
        simp only[mA] at h⊢
        cases h6:H[tok]? with
        |none=>rw[h6] at h;cases h
        |some o=>
         rw[h6] at h
         cases o with
         |tok n s2=>
          simp only at h;have hat:=lC (ks:=ks) h6;rw[hat];simp only[iO];split at h
          ·rename_i hc2;rw[if_pos hc2];simp only[bM0,bMf] at h;obtain⟨rfl,rfl⟩:=h;rw[mA,<-jK];rfl
          ·cases h
         |_=>cases h
       |_=>simp at h
      ·cases h
def bGg (P:Program)(rows:Bool)(t:TypeId)(s x:AV)(H:HX)(j:Nat):Option (AV×HX×Nat):=
 match elT P t with
 |some e=>match szT P e,byT P e,aS P e with
  |some sz,some by_,some _=>match aTp sz x H with
   |some (m,us)=>
    match s with
    | .p (.prim (.slice none 0 0))=>
     if(rows||bCi x)=true/\0<m/\us.length=m*sz/\m<1048576/\m*by_<=140737488355328 then
      some (.sm H.length 0 m (nX m j) sz,H++[.row m j sz us],j+1) else none
    | .sm id off len code s'=>
     if s'=sz/\len<=room code then
      if m=0 then some (s,H,j)
      else match H[id]? with
       |some o=>match cellsOf o with
        |some cs=>
         if off=0/\len+m<=room code/\len*sz+us.length<=cs.length then some (.sm id 0 (len+m) code sz,H.set id (kD o (patch cs (len*sz) us)),j)
         else if code%2=0 then
          if off+len*sz<=cs.length/\room code<len+m/\us.length=m*sz/\len+m<1048576/\(len+m)*by_<=140737488355328 then
           some (.sm H.length 0 (len+m) (nX (len+m) j) sz,H++[.row (len+m) j sz ((cs.drop off).take (len*sz)++us)],j+1) else none
         else match o with
          | .row n0 i s2 cs=>if s2=sz/\off=0/\code=nX n0 i/\n0<1048576/\cs.length=n0*sz/\us.length=m*sz/\len+m<1048576/\(len+m)*by_<=140737488355328 then
            some (.sm H.length 0 (len+m) (nX (len+m) j) sz,H.set id .dead++[.row (len+m) j sz (cs.take (len*sz)++us)],j+1) else none
          |_=>none
        |none=>none
       |none=>none
     else none
    | .p (.sl s' es)=>if m=0 then some (.p (.sl s' es),H,j) else none
    |_=>none
   |none=>none
  |_,_,_=>none
 |none=>none
def aSi (ks:Ks)(j c:Nat)(l:LD):Ks:=fun i=>if i=j then(c,l) else ks i
def upd (ks:Ks)(j c:Nat):Ks:=aSi ks j c (ks j).2
theorem uM (ks:Ks)(j c:Nat)(l:LD):Agree j ks (aSi ks j c l):=fun i hi=>by unfold aSi;rw[if_neg aB]
theorem fU (ks:Ks)(j c:Nat):Agree j ks (upd ks j c):=uM ks j c _
theorem rU (ks:Ks)(j c:Nat)(l:LD):aSi ks j c l j=(c,l):=if_pos rfl
theorem aFb (ks:Ks)(j c:Nat):(upd ks j c j).1=c:=by unfold upd;rw[rU]
def OutX (P:Program)(o:Oper)(E:Env)(w:World)(a:Act)(ks:Ks)(H:HX)(j:Nat)(x:AV)(H':HX)(j':Nat):Prop:=
 ∃ks',Agree j ks ks'/\(j'=j->ks'=ks)/\j<=j'/\Out P o E w a (iH ks H) (io ks' x) (iH ks' H')
theorem pR {j id:Nat} {cs:List AV} (hj:H.all (aC7 j)=true) {o:XO} (h1:H[id]?=some o)(h2:cellsOf o=some cs):qL j cs=true:=by
 have hjo:=bMg.1 hj o (bMa h1)
 cases o<;>simp only[cellsOf,bM0] at h2<;>try (cases h2;done)
 ·subst h2;exact hjo
 ·subst h2;simp only[aC7,bM8] at hjo;exact hjo.2
theorem aI4 {sz m j:Nat} {x:AV} {us:List AV} {ks':Ks} (h5:aTp sz x H=some (m,us))(hj:H.all (aC7 j)=true)(ha:Agree j ks ks'):us.map (io ks')=us.map (io ks):=by
 unfold aTp at h5;split at h5
 ·split at h5
  ·split at h5
   ·rename_i cs hb;split at h5
    ·simp only[bM0,bMf] at h5;obtain⟨rfl,rfl⟩:=h5;obtain⟨o',q1,q2⟩:=gM hb;rw[List.map_take,List.map_drop,bX ha (pR hj q1 q2),List.map_take,List.map_drop]
    ·cases h5
   ·cases h5
  ·cases h5
 ·split at h5
  ·obtain⟨es,_,q3⟩:=bMb.1 h5;simp only[bMf] at q3;obtain⟨_,rfl⟩:=q3;rw[bOr,bOr,show io ks∘AV.p=AV.p from funext (eV ks),show io ks'∘AV.p=AV.p from funext (eV _)]
  ·cases h5
theorem aLp {ks:Ks} {n0 j sz c:Nat} (cs:List AV)(hc:n0<=c):iO (upd ks j (c-n0)) (.row n0 j sz cs)=some (.cells (cs.map (io (upd ks j (c-n0)))++List.replicate (c*sz-cs.length) .junk)):=by
 simp only[iO,aFb,show n0+(c-n0)=c by omega]
theorem aSo {rows:Bool} {t:TypeId} {s x:Operand} {o:Oper} {T T2:List AV} {D:List AD} {a:Act} {y:AV} {H':HX} {j j':Nat} (st:St E w a T2 (iH ks H) D)(ho:o.op= .call ⟨.builtin .append,#[s,x],#[t,t]⟩)(hr:∀y∈o.op.operands,aev T2 y=io ks (aev T y))
  (hj:j'=j\/H.all (aC7 j)=true) (h:bGg P rows t (aev T s) (aev T x) H j=some (y,H',j')):OutX P o E w a ks H j y H' j':=by
 unfold bGg at h
 cases h1:elT P t with
 |none=>simp only[h1] at h;cases h
 |some e=>
  cases h2:szT P e with
  |none=>simp only[h1,h2] at h;cases h
  |some sz=>
   cases h3:byT P e with
   |none=>simp only[h1,h2,h3] at h;cases h
   |some by_=>
    cases h4:aS P e with
    |none=>simp only[h1,h2,h3,h4] at h;cases h
    |some z=>
     cases h5:aTp sz (aev T x) H with
     |none=>simp only[h1,h2,h3,h4,h5] at h;cases h
     |some q=>
      obtain⟨m,us⟩:=q;simp only[h1,h2,h3,h4,h5] at h;have hxr:=aev_rep st x;rw[hr x (by rw[ho];simp[Op.operands,Call.operands])] at hxr;have hsx:aev T2 s=io ks (aev T s):=hr s (by rw[ho];simp[Op.operands,Call.operands]);obtain⟨i,zv,hi,_⟩:=aN h4;have husj:H.all (aC7 j)=true->∀c,us.map (io (upd ks j c))=us.map (io ks):=fun hj c=>aI4 h5 hj (fU ks j c)
      have hHj:H.all (aC7 j)=true->∀c,iH (upd ks j c) H=iH ks H:=fun hj c=>pB (fU ks j c) hj
      split at h
      ·--nil
       rename_i hs;split at h
       ·rename_i hc;obtain⟨_,c2,c3,c4,c5⟩:=hc;simp only[bM0,bMf] at h;obtain⟨rfl,rfl,rfl⟩:=h
        replace hj:=hj.resolve_left aB
        replace husj:=husj hj
        replace hHj:=hHj hj
        have src:=aF7 (ks:=ks) h5 c2 st.rel hxr;obtain⟨c',k1,k2⟩:=aUb st ho h1 h2 h3 h4 (by rw[hsx,hs,eV]) src c2 c5 aB;refine⟨upd ks j (c'-m),fU _ _ _,fun e=>by omega,by omega,?_⟩
        have e1:iH (upd ks j (c'-m)) (H++[XO.row m j sz us])=iH ks H++[some (.cells (us.map (io ks)++List.replicate (c'*sz-(us.map (io ks)).length) .junk))]:=by
         rw[fA,hHj]
         congr 1
         show [iO _ _]=_;rw[aLp us k1,husj,bMp]
        rw[e1,io_sm,lZ _ _ c4,aFb,show m+(c'-m)=c' by omega,<-bJ ks H];exact k2
       ·cases h
      ·--a named row
       rename_i id off len code s' hs;have hs0:aev T2 s= .sm id off len (qH ks code) s':=by rw[hsx,hs,io_sm]
       split at h
       ·rename_i hc0;obtain⟨rfl,hroom⟩:=hc0;have hle:len<=qH ks code:=bNs hroom (vX ks code);split at h
        ·--nothing
         rename_i hm0;subst hm0;simp only[bM0,bMf] at h;obtain⟨rfl,rfl,rfl⟩:=h;obtain⟨ad2,c2,hv2⟩:=aA1 (ks:=ks) h5 hxr;have hsr:=aev_rep st s;have hsr':=hsr;rw[hs0] at hsr;simp only[Rep] at hsr;obtain⟨b,_,hv⟩:=hsr;refine⟨ks,Agree.refl _ _,fun _=>rfl,bLx _,E,w,a.eval s,?_,st.rel,st.fresh,by rw[hs,io_sm,<-hs0];exact hsr',Fr.refl _ _ _⟩;refine exec_append ho ?_;rw[hv,hv2];exact fJ (eZ h1) hi _ ad2 len _ c2 hle
        ·rename_i hm0;have hm:0<m:=aB;have src:=aF7 (ks:=ks) h5 hm st.rel hxr
         cases h6:H[id]? with
         |none=>rw[h6] at h;cases h
         |some ob=>
          simp only[h6] at h
          cases h7:cellsOf ob with
          |none=>rw[h7] at h;cases h
          |some cs=>
           simp only[h7] at h;obtain⟨R,h8,h9⟩:=iF (ks:=ks) h7;have hat:=lC (ks:=ks) h6;have hat':=hat;rw[h8] at hat;split at h
           ·--in its room
            rename_i hc;obtain⟨rfl,c2,c3⟩:=hc;simp only[bM0,bMf] at h;obtain⟨rfl,rfl,rfl⟩:=h;have k:=aDr st ho h1 h2 h4 hs0 hat src (by simp;omega) (bNs c2 (vX ks code));refine⟨ks,Agree.refl _ _,fun _=>rfl,bLx _,?_⟩;rw[io_sm,<-jK,h9 _ (by rw[patch_length]),jR,<-patch_app _ _ _ _ (by simp;exact c3)];exact k
           ·split at h
            ·--a new row for sure
             rename_i hev;split at h
             ·rename_i hc;obtain⟨c1,c2,c3,c4,c5⟩:=hc;simp only[bM0,bMf] at h;obtain⟨rfl,rfl,rfl⟩:=h
              replace hj:=hj.resolve_left aB
              replace husj:=husj hj
              replace hHj:=hHj hj
              have hcap:qH ks code=room code:=by unfold qH room;rw[if_pos hev,if_pos hev]
              obtain⟨c',k1,k2⟩:=aDq st ho h1 h2 h3 h4 hs0 hat (by simp;omega) src hm aB c5 aB hle;refine⟨upd ks j (c'-(len+m)),fU _ _ _,fun e=>by omega,by omega,?_⟩;have hcj:=pR hj h6 h7;have e0:(((cs.map (io ks)++R).drop off).take (len*s'))=((cs.drop off).take (len*s')).map (io ks):=eQ c1;rw[e0] at k2
              have e1:iH (upd ks j (c'-(len+m))) (H++[XO.row (len+m) j s' ((cs.drop off).take (len*s')++us)])=iH ks H++[some (.cells (((cs.drop off).take (len*s')).map (io ks)++us.map (io ks)++List.replicate (c'*s'-(len+m)*s') .junk))]:=by
               rw[fA,hHj]
               congr 1
               show [iO _ _]=_;rw[aLp _ k1,bMy,husj]
               have e2:((cs.drop off).take (len*s')).map (io (upd ks j (c'-(len+m))))=((cs.drop off).take (len*s')).map (io ks):=by
                rw[List.map_take,List.map_drop,bX (fU ks j _) hcj,List.map_take,List.map_drop]
               have e3:((cs.drop off).take (len*s')++us).length=(len+m)*s':=by
                rw[bM5,c3,bMn,bN1,bO3];omega
               rw[e2,e3]
              rw[e1,io_sm,lZ _ _ c4,aFb,show len+m+(c'-(len+m))=c' by omega,<-bJ ks H];exact k2
             ·cases h
            ·--it goes on under a new name
             split at h
             ·rename_i n0 i' s2 cs';simp only[cellsOf,bM0] at h7;subst h7;split at h
              ·rename_i hc;obtain⟨rfl,rfl,c3,c4,c5,c6,c7,c8⟩:=hc;simp only[bM0,bMf] at h;obtain⟨rfl,rfl,rfl⟩:=h
               replace hj:=hj.resolve_left aB
               replace husj:=husj hj
               replace hHj:=hHj hj
               subst c3;have hcap:qH ks (nX n0 i')=n0+(ks i').1:=lZ ks i' c4;rw[hcap] at hs0 hle;have hat2:(iH ks H).at id=some (.cells (cs'.map (io ks)++List.replicate ((n0+(ks i').1)*s2-cs'.length) .junk)):=by rw[hat'];rfl
               have hle2:n0*s2<=(n0+(ks i').1)*s2:=bNk _ aB;obtain⟨c',k1,k2⟩:=aPa st ho h1 h2 h3 h4 hs0 hat2 (by simp;omega) hle src hm c8 aB;refine⟨upd ks j (c'-(len+m)),fU _ _ _,fun e=>by omega,by omega,?_⟩;have hcj:=pR (o:= .row n0 i' s2 cs') hj h6 rfl
               have hln:len<=n0:=by
                unfold room nX at hroom;rw[if_neg aB] at hroom;omega
               have hlc:len*s2<=cs'.length:=by rw[c5];exact bNk _ hln
               have e0:(cs'.map (io ks)++List.replicate ((n0+(ks i').1)*s2-cs'.length) AV.junk).take (len*s2)=(cs'.take (len*s2)).map (io ks):=by
                rw[bMx (by simp;exact hlc),List.map_take]
               rw[e0] at k2
               have e1:iH (upd ks j (c'-(len+m))) (H.set id .dead++[XO.row (len+m) j s2 (cs'.take (len*s2)++us)])=(iH ks H).set id none++[some (.cells ((cs'.take (len*s2)).map (io ks)++us.map (io ks)++List.replicate (c'*s2-(len+m)*s2) .junk))]:=by
                rw[fA,<-jK,hHj]
                congr 1
                show [iO _ _]=_;rw[aLp _ k1,bMy,husj]
                have e2:(cs'.take (len*s2)).map (io (upd ks j (c'-(len+m))))=(cs'.take (len*s2)).map (io ks):=by
                 rw[List.map_take,bX (fU ks j _) hcj,List.map_take]
                have e3:(cs'.take (len*s2)++us).length=(len+m)*s2:=by
                 rw[bM5,c6,bMn,bO3];omega
                rw[e2,e3]
               rw[e1,io_sm,lZ _ _ c7,aFb,show len+m+(c'-(len+m))=c' by omega,<-bJ ks H];exact k2
              ·cases h
             ·cases h
       ·cases h
      ·--a slice that is only read
       rename_i s' es hs;split at h
       ·rename_i hm0;subst hm0;simp only[bM0,bMf] at h;obtain⟨rfl,rfl,rfl⟩:=h;obtain⟨ad2,c2,hv2⟩:=aA1 (ks:=ks) h5 hxr;have hsr:=aev_rep st s;have hsr':=hsr;rw[hsx,hs,eV] at hsr hsr';simp only[Rep,RepP] at hsr;obtain⟨ad,cap,hv,hc,_⟩:=hsr;refine⟨ks,Agree.refl _ _,fun _=>rfl,bLx _,E,w,a.eval s,?_,st.rel,st.fresh,by rw[eV];exact hsr',Fr.refl _ _ _⟩;refine exec_append ho ?_;rw[hv,hv2];exact fJ (eZ h1) hi ad ad2 es.length cap c2 hc
       ·cases h
      ·cases h
end
open Go Go.AI Go.MapKept
def kQ (n:Int):Value->Bool
 | .int .i64 a=>decide (a=n)
 |_=>false
def aQi:Value->Bool
 | .int .i64 _=>true
 |_=>false
def bLu (P:Program)(t:TypeId):Option Value:=if zeroB P t=true then some (.bool false) else if aXt P t=true then some (.int .i64 0) else none
def aRb (ok:Bool)(v:Value)(b:Bool):AV:=if ok=true then .tup [.p (.prim v), .p (.prim (.bool b))] else .p (.prim v)
def aXn (P:Program)(t:TypeId)(m ix:AV)(ok:Bool)(H:HX):Option AV:=
 match P.underlying t with
 |some (.map kt et)=>match P.underlying kt with
  |some (.int .i64)=>match bLu P et with
   |some z=>match m,ix with
    | .mp id, .p (.prim (.int .i64 n))=>match H[id]? with
     |some (.map kvs)=>if kvs.all (fun e=>aQi e.1)=true then(match kvs.filter (fun e=>kQ n e.1) with
      |[]=>some (aRb ok z false)
      |[e]=>if isPrim e.2=true then some (aRb ok e.2 true) else none
      |_=>none) else none
     |_=>none
    |_,_=>none
   |none=>none
  |_=>none
 |_=>none
def bGh (P:Program)(t:TypeId)(m ix x:AV)(H:HX):Option HX:=
 match P.underlying t with
 |some (.map kt _)=>match P.underlying kt with
  |some (.int .i64)=>match m,ix,x with
   | .mp id, .p (.prim (.int .i64 n)), .p (.prim v)=>match H[id]? with
    |some (.map kvs)=>if kvs.all (fun e=>aQi e.1)=true then(match kvs.filter (fun e=>kQ n e.1) with
     |[]=>some (H.set id (.map (kvs++[(.int .i64 n,v)])))
     |_=>none) else none
    |_=>none
   |_,_,_=>none
  |_=>none
 |_=>none
def aSt (P:Program)(t:TypeId)(m ix x:AV)(H:HX):Option HX:=
 if tP P t=true then match m,ix,x with
  | .mp id, .p (.prim (.int .i64 n)), .p (.prim (.int .i64 v))=>match H[id]? with
   |some (.map kvs)=>(aQp kvs).map fun om=>H.set id (.map ((aP2 om n v).map ikv))
   |_=>none
  |_,_,_=>none
 else none
def aXr (H:HX)(sz k:Nat)(x:AV):Option (List PV):=match x with
 | .sm id off len _ s=>if s=sz/\k<=len then(match (H[id]?).bind cellsOf with
  |some cs=>if off+k*sz<=cs.length then(match aH4 ((cs.drop off).take (k*sz)) with
   |some l=>if l.length=k*sz then some l else none
   |none=>none) else none
  |none=>none) else none
 |x=>match sI x with
  |some ys=>if srcSz sz x=true/\k<=ys.length then some (ys.take k).flatten else none
  |none=>none
def bG7 (H:HX)(id off:Nat)(l:List PV):Option HX:=match H[id]? with
 |some o=>match cellsOf o with
  |some cs=>if off+l.length<=cs.length then some (H.set id (kD o (patch cs off (l.map .p)))) else none
  |none=>none
 |none=>none
def aXm (P:Program)(t:TypeId)(d x:AV)(H:HX):Option (AV×HX):=
 match elT P t with
 |some e=>match szT P e with
  |some sz=>match d,aTj x with
   | .sm id off n _ s,some m=>if s=sz then(match aXr H sz (Nat.min m n) x with
    |some l=>(bG7 H id off l).map fun H'=>(.p (.prim (.int .i64 (Nat.min m n:Nat))),H')
    |none=>none) else none
   |_,_=>none
  |none=>none
 |none=>none
def aOm (P:Program)(t:TypeId)(d:AV)(H:HX):Option (AV×HX):=
 match elT P t with
 |some e=>match szT P e,aS P e with
  |some sz,some z=>match d with
   | .sm id off n _ s=>if s=sz/\0<n then(bG7 H id off (List.replicate n (z.map .prim)).flatten).map fun H'=>(.tup [],H') else none
   |_=>none
  |_,_=>none
 |none=>none
section
variable {P:Program} {ks:Ks} {E:Env} {w:World} {H:HX} {o:Oper} {T T2:List AV} {D:List AD} {a:Act}
theorem yN {kvs:List (Value×Value)} (h:kvs.all (fun e=>aQi e.1)=true):∀x∈kvs,IsKey (.int .i64) x.1:=by
 intro x hx;have:=bMg.1 h x hx;unfold aQi at this;split at this
 ·rename_i e;rw[e];rfl
 ·cases this
theorem qD {kvs:List (Value×Value)} {n:Int} {z v:Value} {b:Bool} (h:(kvs.filter (fun e=>kQ n e.1)=[]/\b=false/\v=z)\/∃e,kvs.filter (fun e=>kQ n e.1)=[e]/\b=true/\v=e.2):aAp kvs (.int .i64 n) z v b:=by
 have mem:∀v',(Value.int .i64 n,v')∈kvs->(Value.int .i64 n,v')∈kvs.filter (fun e=>kQ n e.1):=fun v' hv=>List.mem_filter.2 ⟨hv,by simp[kQ]⟩
 rcases h with ⟨h1,rfl,rfl⟩|⟨e,h1,rfl,rfl⟩
 ·refine .inr ⟨rfl,fun hm=>?_,rfl⟩;obtain⟨x,hx,hk⟩:=bMr.1 hm;have:=mem x.2 (by rw[<-hk];exact hx);rw[h1] at this;cases this
 ·have he:e∈kvs.filter (fun e=>kQ n e.1):=by rw[h1];simp
  obtain⟨m1,m2⟩:=List.mem_filter.1 he
  have hk:e.1= .int .i64 n:=by
   simp only[kQ] at m2;split at m2
   ·rename_i q;rw[q,of_decide_eq_true m2]
   ·cases m2
  refine .inl ⟨rfl,fun v' hv=>?_,bMr.2 ⟨e,m1,hk⟩⟩;have:=mem v' hv;rw[h1,List.mem_singleton] at this;rw[<-this]
theorem aOy {t:TypeId} {z:Value} (h:bLu P t=some z):aAf P t z/\isPrim z=true:=by
 unfold bLu at h;split at h
 ·rename_i hb;simp only[bM0] at h;subst h;exact⟨aSy hb,rfl⟩
 ·split at h
  ·rename_i hb;simp only[bM0] at h;subst h;exact⟨aSz hb,rfl⟩
  ·cases h
theorem aWu {h:Heap} {t:TypeId} (st:St E w a T2 h D)(ho:o.op= .makeMap t none):Out P o E w a h (.mp h.length) (h++[some (.aux (.map []))]):=by
 obtain⟨g1,g2,g3⟩:=Rel.allocO st.rel st.fresh (o:= .aux (.map [])) (ob:= .map #[] 0) rfl (fun _ _ _ e=>by cases e) (fun _=>⟨#[],0,alloc_new _,rfl,by simp[Stamped]⟩);refine⟨_,_, .map (some w.heap.size),?_,g1,by simpa using g3,?_,g2⟩
 ·simp only[execOp,ho]
  rfl
 ·exact y7i
theorem aQv {t:TypeId} {m ix:Operand} {ok:Bool} {x:AV} (hr:∀y∈o.op.operands,aev T2 y=io ks (aev T y))(st:St E w a T2 (iH ks H) D)(ho:o.op= .lookup t m ix ok)(h:aXn P t (aev T m) (aev T ix) ok H=some x):
  Out P o E w a (iH ks H) (io ks x) (iH ks H):=by
 unfold aXn at h;split at h
 ·rename_i kt et ht;split at h
  ·rename_i hd;split at h
   ·rename_i z hz;split at h
    ·rename_i id n hm hk;split at h
     ·rename_i kvs hid;split at h
      ·rename_i hall
       have key:∀v b,aAp kvs (.int .i64 n) z v b->isPrim v=true->Out P o E w a (iH ks H) (io ks (aRb ok v b)) (iH ks H):=by
        intro v b hf hp;have hmr:=aev_rep st m;rw[hr m (by rw[ho];simp[Op.operands]),hm] at hmr;simp only[io,Rep] at hmr;obtain⟨g,hg,hmv⟩:=hmr;have hkr:=aev_rep st ix;rw[hr ix (by rw[ho];simp[Op.operands]),hk,eV] at hkr;simp only[Rep,RepP] at hkr;have hid':(iH ks H).at id=some (.aux (.map kvs)):=lC hid;obtain⟨g',hg',ho'⟩:=st.rel.objsO id _ hid' rfl;rw[hg] at hg';cases hg';obtain⟨es,c,hh,he,hst⟩:=ho';have hrun:=aHv (P:=P) ok ht hd (aOy hz).1 hh he (yN hall) (key:= .int .i64 n) rfl hf;refine⟨E,w,if ok=true then .tuple #[v, .bool b] else v,?_,st.rel,st.fresh,?_,Fr.refl _ _ _⟩
        ·simp only[execOp,ho];rw[hmv,hkr.1];simp[hrun]
        ·unfold aRb;cases ok
         ·simp only[bMe,if_false,eV,Rep,RepP,true_and];exact hp
         ·simp only[if_true,io_tup,bMd,bNb,eV,Rep,RepL,RepP];exact⟨_,rfl,_,_,rfl,⟨rfl,hp⟩,_,_,rfl,⟨rfl,rfl⟩,rfl⟩
       split at h
       ·rename_i hfl;simp only[bM0] at h;subst h;exact key z false (qD (.inl ⟨hfl,rfl,rfl⟩)) (aOy hz).2
       ·rename_i e hfl;split at h
        ·rename_i hp;simp only[bM0] at h;subst h;exact key e.2 true (qD (.inr ⟨e,hfl,rfl,rfl⟩)) hp
        ·cases h
       ·cases h
      ·cases h
     ·cases h
    ·cases h
   ·cases h
  ·cases h
 ·cases h
theorem aSu {t:TypeId} {m ix x:AV} {H':HX} (h:aSt P t m ix x H=some H'):mT P t (io ks m) (io ks ix) (io ks x) (iH ks H)=some (iH ks H'):=by
 unfold aSt at h;unfold mT;split at h
 ·rename_i hi;rw[hi];simp only[if_true];split at h
  ·rename_i id n v;split at h
   ·rename_i kvs hid;obtain⟨om,h1,h2⟩:=bMb.1 h;subst h2;have hid':(iH ks H).at id=some (.aux (.map kvs)):=lC hid;simp only[io,hid',h1,bN2];rw[<-jK];rfl
   ·cases h
  ·cases h
 ·cases h
theorem aSv {rd:Option Nat} {nb:Nat} {k:List It} {all:Array Oper} {rest:List Oper} {Q:AX->List AV->Heap->List AD->Prop} {t:TypeId} {m ix x:Operand} {H':HX} (ho:o.op= .mapUpdate t m ix x)(hw:awanted all (T.map (io ks)) o=some true)(h:bGh P t (aev T m) (aev T ix) (aev T x) H=some H')
  (r:Run P rd nb (.ops all rest::k) (tput (T.map (io ks)) o.dst (.tup [])) (iH ks H') D Q):Run P rd nb (.ops all (o::rest)::k) (T.map (io ks)) (iH ks H) D Q:=by
 unfold bGh at h;split at h
 ·rename_i kt et ht;split at h
  ·rename_i hd;split at h
   ·rename_i id n v hm hk hx;split at h
    ·rename_i kvs hid;split at h
     ·rename_i hall;split at h
      ·rename_i hfl;simp only[bM0] at h;subst h;have hid':(iH ks H).at id=some (.aux (.map kvs)):=lC hid;refine Run.mapUpdate ho hw ht hd (by rw[aev_io,hm];rfl) hid' (yN hall) (by rw[aev_io,hk,eV]) (key:= .int .i64 n) rfl ?_ (by rw[aev_io,hx,eV]) ?_
       ·intro hmem;obtain⟨e,he,hk⟩:=bMr.1 hmem;have:e∈kvs.filter (fun e=>kQ n e.1):=List.mem_filter.2 ⟨he,by rw[hk];simp[kQ]⟩;rw[hfl] at this;cases this
       ·rw[<-jK] at r;exact r
      ·cases h
     ·cases h
    ·cases h
   ·cases h
  ·cases h
 ·cases h
theorem aWq (x:AV):aTj (io ks x)=aTj x:=by
 cases x<;>simp only[io]<;>rfl
theorem aSs {sz k:Nat} {x:AV} {l:List PV} (h:aXr H sz k x=some l):gC (iH ks H) sz k (io ks x)=some l:=by
 unfold aXr at h;split at h
 ·rename_i id off len code s;split at h
  ·rename_i hc;split at h
   ·rename_i cs hb;split at h
    ·rename_i ho;split at h
     ·rename_i l' hf;split at h
      ·rename_i hl;simp only[bM0] at h;subst h;obtain⟨o,h1,h2⟩:=gM hb;obtain⟨R,h3,_⟩:=iF (ks:=ks) h2;have e1:=vI hf
       have e2:(((cs.map (io ks)++R).drop off).take (k*sz))=(cs.drop off).take (k*sz):=by
        rw[eQ ho,e1,bOr];exact List.map_congr_left fun y _=>eV ks y
       unfold gC;rw[io_sm];simp only[lC h1,h3,e2,hf,hl,if_true];rw[if_pos hc]
      ·cases h
     ·cases h
    ·cases h
   ·cases h
  ·cases h
 ·rename_i hn
  have:gC (iH ks H) sz k (io ks x)=match sI (io ks x) with
    |some ys=>if srcSz sz (io ks x)=true/\k<=ys.length then some (ys.take k).flatten else none
    |none=>none:=by
   unfold gC;split
   ·rename_i e
    cases x<;>simp only[io] at e<;>try (cases e;done)
    exact absurd rfl (hn _ _ _ _ _)
   ·rfl
  rw[this,wG,pG];exact h
theorem aN8 {id off:Nat} {l:List PV} {H':HX} (h:bG7 H id off l=some H'):aX7 (iH ks H) id off l=some (iH ks H'):=by
 unfold bG7 at h
 cases h1:H[id]? with
 |none=>rw[h1] at h;cases h
 |some o=>
  cases h2:cellsOf o with
  |none=>simp only[h1,h2] at h;cases h
  |some cs=>
   simp only[h1,h2] at h;split at h
   ·rename_i hc;simp only[bM0] at h;subst h;obtain⟨R,h4,h5⟩:=iF (ks:=ks) h2;unfold aX7;simp only[lC h1,h4];have e1:(l.map AV.p).map (io ks)=l.map AV.p:=by rw[bOr];exact List.map_congr_left fun y _=>eV ks y
    rw[if_pos (by simp;omega),<-jK,h5 _ (by rw[patch_length]),patch_app _ _ _ _ (by simp;exact hc)];have e2:=jR (io ks) (l.map AV.p) cs off;rw[e1] at e2;rw[e2]
   ·cases h
theorem aSp {t:TypeId} {d x y:AV} {H':HX} (h:aXm P t d x H=some (y,H')):aFo P t (io ks d) (io ks x) (iH ks H)=some (io ks y,iH ks H'):=by
 unfold aXm at h;unfold aFo
 cases h1:elT P t with
 |none=>simp only[h1] at h;cases h
 |some e=>
  cases h2:szT P e with
  |none=>simp only[h1,h2] at h;cases h
  |some sz=>
   simp only[h1,h2,aWq] at h⊢;split at h
   ·rename_i id off n code s m hm;simp only[io_sm,hm];split at h
    ·rename_i hs;rw[if_pos hs];split at h
     ·rename_i l hl;obtain⟨H2,h3,h4⟩:=bMb.1 h;simp only[bMf] at h4;obtain⟨rfl,rfl⟩:=h4;simp only[aSs hl,aN8 h3,bN2,eV]
     ·cases h
    ·cases h
   ·cases h
theorem aOn {t:TypeId} {d y:AV} {H':HX} (h:aOm P t d H=some (y,H')):sX P t (io ks d) (iH ks H)=some (io ks y,iH ks H'):=by
 unfold aOm at h;unfold sX
 cases h1:elT P t with
 |none=>simp only[h1] at h;cases h
 |some e=>
  cases h2:szT P e with
  |none=>simp only[h1,h2] at h;cases h
  |some sz=>
   cases h3:aS P e with
   |none=>simp only[h1,h2,h3] at h;cases h
   |some z=>
    simp only[h1,h2,h3] at h⊢;split at h
    ·simp only[io_sm];split at h
     ·rename_i hc;rw[if_pos hc];obtain⟨H2,h4,h5⟩:=bMb.1 h;simp only[bMf] at h5;obtain⟨rfl,rfl⟩:=h5;simp only[aN8 h4,bN2,io_tup,bNb]
     ·cases h
    ·cases h
end
end Go.AI.EV
