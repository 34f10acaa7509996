import Derived.Test.YtplomildbmcmfaaGreatZA0
import Derived.Test.YtplomildbmcmfaaGreatZEVy
import Derived.Test.YtplomildbmcmfaaGreatZEVq
namespace Go.AI.EV
open Go Go.AI
noncomputable def pD (n:Nat)(P:Program)(T:Tr)(op:Op)(x:AV)(G:HX):Bool:=
 match op with
 | .load t a=>match aDe P t (kev n T a) G with
  |some y=>eqA y x
  |none=>false
 |_=>true
theorem qO (n:Nat)(P:Program)(T:Tr)(op:Op)(x:AV)(G:HX):pD n P T op x G=fT P (toL n T) op x G:=by
 unfold pD fT;rw[mD]
 rfl
noncomputable def eX (n:Nat)(P:Program)(rows:Bool)(cf:bF)(ops:Array Oper)(lo:List Nat)(D:List AD):List Nat->List HX->Tr->HX->Nat->Option (Tr×HX×Nat)
 |[],_,T,H,j=>some (T,H,j)
 |i::π,hist,T,H,j=>match ops[i]? with
  |none=>none
  |some o=>match nI ops n T o with
   |none=>none
   |some false=>eX n P rows cf ops lo D π (if isE o.op=true then hist++[H] else hist) (oK n T o.dst (.tup [])) H j
   | some true=>if isE o.op=true then
     (match o.op with
     | .call ⟨.value f,args,types⟩=>match nG n T ⟨.value f,args,types⟩ with
      |some (f,args)=>match cf f args H j with
       |some (.ret v,H',j')=>if nH j j' (toL n T) D (hist++[H])=true then eX n P rows cf ops lo D π (hist++[H]) (oK n T o.dst v) H' j' else none
       |_=>none
      |none=>none
     | .defer _=>none
     |op=>match xsp P rows (kev n T) H j op with
      |some (x,H',j')=>if nH j j' (toL n T) D (hist++[H])=true then eX n P rows cf ops lo D π (hist++[H]) (oK n T o.dst x) H' j' else none
      |none=>match sC P (kev n T) H op with
       |some (x,H')=>eX n P rows cf ops lo D π (hist++[H]) (oK n T o.dst x) H' j
       |none=>none)
    else match sC P (kev n T) H o.op with
     |some (x,_)=>if(hist.drop (lo.getD i 0)).all (fun G=>pD n P T o.op x G)=true then eX n P rows cf ops lo D π hist (oK n T o.dst x) H j else none
     |none=>match xrd P (kev n T) o.op with
      |some x=>if hist.length<lo.getD i 0 then eX n P rows cf ops lo D π hist (oK n T o.dst x) H j else none
      |none=>none
theorem cO {n:Nat} (hn:n<4095) {P:Program} {rows:Bool} {cf:bF} {ops:Array Oper} {lo:List Nat} {D:List AD} :∀ {π:List Nat} {hist:List HX} {T:Tr} {H:HX} {j:Nat} {T':Tr} {H':HX} {j':Nat},eX n P rows cf ops lo D π hist T H j=some (T',H',j')->
  eO P rows cf ops lo D π hist (toL n T) H j=some (toL n T',H',j')
 |[],hist,T,H,j,T',H',j',h=>by
  simp only[eX,bM0,bMf] at h;obtain⟨rfl,rfl,rfl⟩:=h
  rfl
 |i::π,hist,T,H,j,T',H',j',h=>by
  simp only[eX,kB,kA,mD,qO] at h;simp only[eO];split at h
  ·cases h
  ·rename_i o ho;simp only[ho];split at h
   ·cases h
   ·rename_i hw;simp only[hw];rw[<-kput_eq hn];exact cO hn h
   ·rename_i hw;simp only[hw];split at h
    ·rename_i hE;rw[if_pos hE];split at h
     ·rename_i hop;rw[hop];split at h
      ·rename_i e1;simp only[e1];split at h
       ·rename_i e2;simp only[e2];split at h
        ·rename_i e3;rw[if_pos e3,<-kput_eq hn];exact cO hn h
        ·cases h
       ·cases h
      ·cases h
     ·cases h
     ·rename_i n1 n2;split
      ·rename_i hop;exact(n1 _ _ _ hop).elim
      ·rename_i hop;exact(n2 _ hop).elim
      split at h
      ·rename_i e1;simp only[e1];split at h
       ·rename_i e3;rw[if_pos e3,<-kput_eq hn];exact cO hn h
       ·cases h
      ·rename_i e1;simp only[e1];split at h
       ·rename_i e2;simp only[e2];rw[<-kput_eq hn];exact cO hn h
       ·cases h
    ·rename_i hE;rw[if_neg hE];split at h
     ·rename_i e1;simp only[e1];split at h
      ·rename_i e3;rw[if_pos e3,<-kput_eq hn];exact cO hn h
      ·cases h
     ·rename_i e1;simp only[e1];split at h
      ·rename_i e2;simp only[e2];split at h
       ·rename_i e3;rw[if_pos e3,<-kput_eq hn];exact cO hn h
       ·cases h
      ·cases h
inductive KDRes where
 |nrm (T:Tr) (H:HX) (j:Nat)
 |pan (i:Nat) (f:FuncId) (args:List AV) (H:HX) (j:Nat) (v:AV) (H':HX) (j':Nat)
noncomputable def KDRes.un (n:Nat):KDRes->DRes
 | .nrm T H j=> .nrm (toL n T) H j
 | .pan i f args H j v H' j'=> .pan i f args H j v H' j'
noncomputable def sQ (n:Nat)(P:Program)(rows:Bool)(cf:bF)(ops:Array Oper)(lo:List Nat)(D:List AD):List Nat->List HX->Tr->HX->Nat->Option KDRes
 |[],_,T,H,j=>some (.nrm T H j)
 |i::π,hist,T,H,j=>match ops[i]? with
  |none=>none
  |some o=>match nI ops n T o with
   |none=>none
   |some false=>sQ n P rows cf ops lo D π (if isE o.op=true then hist++[H] else hist) (oK n T o.dst (.tup [])) H j
   | some true=>if isE o.op=true then
     (match o.op with
     | .call ⟨.value f,args,types⟩=>match nG n T ⟨.value f,args,types⟩ with
      |some (f,args)=>match cf f args H j with
       |some (.ret v,H',j')=>if nH j j' (toL n T) D (hist++[H])=true then sQ n P rows cf ops lo D π (hist++[H]) (oK n T o.dst v) H' j' else none
       |some (.panic v,H',j')=>some (.pan i f args H j v H' j')
       |none=>none
      |none=>none
     | .defer _=>none
     |op=>match xsp P rows (kev n T) H j op with
      |some (x,H',j')=>if nH j j' (toL n T) D (hist++[H])=true then sQ n P rows cf ops lo D π (hist++[H]) (oK n T o.dst x) H' j' else none
      |none=>match sC P (kev n T) H op with
       |some (x,H')=>sQ n P rows cf ops lo D π (hist++[H]) (oK n T o.dst x) H' j
       |none=>none)
    else match sC P (kev n T) H o.op with
     |some (x,_)=>if(hist.drop (lo.getD i 0)).all (fun G=>pD n P T o.op x G)=true then sQ n P rows cf ops lo D π hist (oK n T o.dst x) H j else none
     |none=>match xrd P (kev n T) o.op with
      |some x=>if hist.length<lo.getD i 0 then sQ n P rows cf ops lo D π hist (oK n T o.dst x) H j else none
      |none=>none
theorem fX {n:Nat} (hn:n<4095) {P:Program} {rows:Bool} {cf:bF} {ops:Array Oper} {lo:List Nat} {D:List AD} :∀ {π:List Nat} {hist:List HX} {T:Tr} {H:HX} {j:Nat} {r:KDRes},sQ n P rows cf ops lo D π hist T H j=some r->
  aBt P rows cf ops lo D π hist (toL n T) H j=some (r.un n)
 |[],hist,T,H,j,r,h=>by
  simp only[sQ,bM0] at h;subst h
  rfl
 |i::π,hist,T,H,j,r,h=>by
  simp only[sQ,kB,kA,mD,qO] at h;simp only[aBt];split at h
  ·cases h
  ·rename_i o ho;simp only[ho];split at h
   ·cases h
   ·rename_i hw;simp only[hw];rw[<-kput_eq hn];exact fX hn h
   ·rename_i hw;simp only[hw];split at h
    ·rename_i hE;rw[if_pos hE];split at h
     ·rename_i hop;rw[hop];split at h
      ·rename_i e1;simp only[e1];split at h
       ·rename_i e2;simp only[e2];split at h
        ·rename_i e3;rw[if_pos e3,<-kput_eq hn];exact fX hn h
        ·cases h
       ·rename_i e2;simp only[e2];simp only[bM0] at h;subst h
        rfl
       ·cases h
      ·cases h
     ·cases h
     ·rename_i n1 n2;split
      ·rename_i hop;exact(n1 _ _ _ hop).elim
      ·rename_i hop;exact(n2 _ hop).elim
      split at h
      ·rename_i e1;simp only[e1];split at h
       ·rename_i e3;rw[if_pos e3,<-kput_eq hn];exact fX hn h
       ·cases h
      ·rename_i e1;simp only[e1];split at h
       ·rename_i e2;simp only[e2];rw[<-kput_eq hn];exact fX hn h
       ·cases h
    ·rename_i hE;rw[if_neg hE];split at h
     ·rename_i e1;simp only[e1];split at h
      ·rename_i e3;rw[if_pos e3,<-kput_eq hn];exact fX hn h
      ·cases h
     ·rename_i e1;simp only[e1];split at h
      ·rename_i e2;simp only[e2];split at h
       ·rename_i e3;rw[if_pos e3,<-kput_eq hn];exact fX hn h
       ·cases h
      ·cases h
noncomputable def aM4 (n:Nat):List Oper->Tr->Tr
 |[],T=>T
 |o::l,T=>aM4 n l (oK n T o.dst .junk)
theorem yQ {n:Nat} (hn:n<4095):∀(l:List Oper)(T:Tr),toL n (aM4 n l T)=mB l (toL n T)
 |[],T=>rfl
 |o::l,T=>by
  have e:∀T,mB (o::l) T=mB l (tput T o.dst .junk):=fun _=>rfl
  rw[e,<-kput_eq hn];exact yQ hn l _
open Go Go.AI
noncomputable def aWo (n:Nat)(P:Program)(cf:bF)(m:Nat)(o:Oper)(T:Tr)(G:HX)(j:Nat):Option (AV×HX):=
 match o.op with
 | .call ⟨.value f,args,types⟩=>match nG n T ⟨.value f,args,types⟩ with
  |some (f,args)=>if AV.underL m args=true then(match cf f args G j with
   |some (.ret v,H',j')=>if(Nat.beq j' j&& Nat.beq H'.length G.length)=true then some (v,H') else none
   |_=>none) else none
  |none=>none
 |op=>if op.operands.toList.all (fun y=>(kev n T y).under m)=true then(match aTv P (kev n T) G op with
  |some (sz,ys)=>some (.p (.sl sz ys),G)
  |none=>match sC P (kev n T) G op with
   |some (x,H')=>if Nat.beq H'.length G.length=true then some (x,H') else none
   |none=>none) else none
noncomputable def fY (n:Nat)(P:Program)(cf:bF)(ops:Array Oper)(p:Pl)(N j:Nat):List Nat->Tr->HX->List AV->List HX->List XO->List (Nat×List AV×Op×AV)->Option (RS×Tr)
 |[],T,_,xs,HS,inits,pend=>some (⟨xs,HS,inits,toL n T,pend⟩,T)
 |i::is,T,V,xs,HS,inits,pend=>match ops[i]? with
  |none=>none
  |some o=>match nI ops n T o with
   |none=>none
   |some false=>if p.fl.contains i=true then none else fY n P cf ops p N j is (oK n T o.dst (.tup [])) V (xs++[.tup []]) (if p.chain ops i=true then HS++[V] else HS) inits pend
   | some true=>if p.fl.contains i=true then
     (match aLe P (kev n T) (N+inits.length) o.op with
     |some (x,cs)=>if p.fl[inits.length]?=some i then fY n P cf ops p N j is (oK n T o.dst x) V (xs++[x]) HS (inits++[.cells cs]) pend else none
     |none=>none)
    else match aWo n P cf (N+p.pc i) o T (eP N inits (p.pc i) V) j with
     | some (x,H')=>if p.pc i<=inits.length then(if p.chain ops i=true then
       (if(H'.drop N).all alive=true then fY n P cf ops p N j is (oK n T o.dst x) (H'++V.drop (N+p.pc i)) (xs++[x]) (HS++[H'++V.drop (N+p.pc i)]) inits pend else none)
      else fY n P cf ops p N j is (oK n T o.dst x) V (xs++[x]) HS inits (pend++[(i,toL n T,o.op,x)])) else none
     |none=>none
noncomputable def aM1 (n:Nat)(P:Program)(cf:bF)(lt:LT)(ops:Array Oper)(p:Pl)(T:Tr)(H:HX)(j:Nat)(D:List AD):Option (Tr×HX):=
 match fY n P cf ops p H.length j (List.range ops.size) T (H++List.replicate p.fl.length .dead) [] [H++List.replicate p.fl.length .dead] [] [] with
 | some (R,T1)=>if(Nat.beq R.inits.length p.fl.length&& dU H.length D&& R.HS.all (fun V=>Nat.beq V.length (H.length+p.fl.length)&& (List.range (p.fl.length+1)).all fun k=>(eP H.length R.inits k V).all (fV lt (H.length+k)))&& aMr P ops p H.length R&& aJf ops p H.length R)=true then
   some (T1,eP H.length R.inits p.fl.length (R.HS.getD (cnt ops p fun _=>true) [])) else none
 |none=>none
theorem aQm (n:Nat)(P:Program)(cf:bF)(m:Nat)(o:Oper)(T:Tr)(G:HX)(j:Nat):aWo n P cf m o T G j=aL5 P cf m o (toL n T) G j:=by
 unfold aWo aL5;simp only[kA,mD]
 rfl
theorem fO {n:Nat} (hn:n<4095) {P:Program} {cf:bF} {ops:Array Oper} {p:Pl} {N j:Nat} :∀ {l:List Nat} {T:Tr} {V:HX} {xs:List AV} {HS:List HX} {inits:List XO} {pend:List (Nat×List AV×Op×AV)} {R:RS} {T1:Tr},
  fY n P cf ops p N j l T V xs HS inits pend=some (R,T1)->gI P cf ops p N j l (toL n T) V xs HS inits pend=some R/\R.T=toL n T1
 |[],T,V,xs,HS,inits,pend,R,T1,h=>by
  simp only[fY,bM0,bMf] at h;obtain⟨rfl,rfl⟩:=h;exact⟨rfl,rfl⟩
 |i::l,T,V,xs,HS,inits,pend,R,T1,h=>by
  simp only[fY,kB,mD,aQm] at h;simp only[gI];split at h
  ·cases h
  ·rename_i o ho;simp only[ho];split at h
   ·cases h
   ·rename_i hw;simp only[hw];split at h
    ·cases h
    ·rename_i hf;rw[if_neg hf,<-kput_eq hn];exact fO hn h
   ·rename_i hw;simp only[hw];split at h
    ·rename_i hf;rw[if_pos hf];split at h
     ·rename_i e1;simp only[e1];split at h
      ·rename_i e2;rw[if_pos e2,<-kput_eq hn];exact fO hn h
      ·cases h
     ·cases h
    ·rename_i hf;rw[if_neg hf];split at h
     ·rename_i e1;simp only[e1];split at h
      ·rename_i e2;rw[if_pos e2];split at h
       ·rename_i e3;rw[if_pos e3];split at h
        ·rename_i e4;rw[if_pos e4,<-kput_eq hn];exact fO hn h
        ·cases h
       ·rename_i e3;rw[if_neg e3,<-kput_eq hn];exact fO hn h
      ·cases h
     ·cases h
theorem aM2 {n:Nat} (hn:n<4095) {P:Program} {cf:bF} {lt:LT} {ops:Array Oper} {p:Pl} {T T':Tr} {H H':HX} {j:Nat} {D:List AD} (h:aM1 n P cf lt ops p T H j D=some (T',H')):aL7 P cf lt ops p (toL n T) H j D=some (toL n T',H'):=by
 unfold aM1 at h;unfold aL7;split at h
 ·rename_i R T1 e1;obtain⟨q1,q2⟩:=fO hn e1;simp only[q1];split at h
  ·rename_i e2;simp only[bM0,bMf] at h;obtain⟨rfl,rfl⟩:=h;rw[if_pos e2,q2]
  ·cases h
 ·cases h
open Go Go.AI
noncomputable def tT (m:Nat)(S:Seat)(P:Program)(fid:FuncId)(cf:Bool->LT->bF)(yf:cF)(lt:LT)(rnd:Bool):Nat->List It->Tr->HX->Nat->List AD->Option (AX×Tr×HX×Nat×List AD)
 |0,_,_,_,_,_=>none
 |n+1,k,T,H,j,D=>match k with
  |[]=>some (.normal,T,H,j,D)
  | .inBlock _::k=>tT m S P fid cf yf lt rnd n k T H j D
  | .ops all l::k=>match oI m P (S.rows fid) (cf true lt) yf rnd all l T H j D with
   |some (.norm T' H' j' D')=>tT m S P fid cf yf lt rnd n k T' H' j' D'
   |some (.pan v T' H' j' D')=>some (.panic v,T',H',j',D')
   |none=>none
  | .code c::k=>match c with
   | .skip=>tT m S P fid cf yf lt rnd n k T H j D
   | .label _=>tT m S P fid cf yf lt rnd n k T H j D
   | .scope c=>tT m S P fid cf yf lt rnd n (.code c::k) T H j D
   | .seq a b=>tT m S P fid cf yf lt rnd n (.code a:: .code b::k) T H j D
   | .block id b=>tT m S P fid cf yf lt rnd n (.code b:: .inBlock id::k) T H j D
   | .loop b=>tT m S P fid cf yf lt rnd n (.code b:: .code (.loop b)::k) T H j D
   | .cond c a b=>match kev m T c with
    | .p (.prim (.bool t))=>tT m S P fid cf yf lt rnd n (.code (if t=true then a else b)::k) T H j D
    |_=>none
   | .exit id=>match unw id k with
    |some k'=>tT m S P fid cf yf lt rnd n k' T H j D
    |none=>some (.exit id,T,H,j,D)
   | .ret=>some (.ret,T,H,j,D)
   | .region rid ops draw=>if draw=true then
     (match S.plan fid rid with
     | some (lo,_,_,π)=>
       (match sQ m P (S.rows fid) (cf true lt) ops lo D π [] T H j with
       |some (.nrm T' H' j')=>tT m S P fid cf yf lt rnd n k T' H' j' D
       |some (.pan i f args H0 j0 v H1 j1)=>(match aWh (S.planE fid rid) i with
        |some q=>(match eX m P (S.rows fid) (cf true lt) ops q.2.1 D q.2.2.2.2 [] T H j with
         |some (T2,H2,j2)=>if aRd ops i (toL m T2) H2 j2 f args H0 j0 j1 D=true then some (.panic v,aM4 m ops.toList T2,H1,j1,D) else none
         |none=>none)
        |none=>none)
       |none=>none)
     |none=>match S.planF fid rid with
      | some p=>
        (match aM1 m P (cf false lt) lt ops p T H j D with
        |some (T',H')=>tT m S P fid cf yf lt rnd n k T' H' j D
        |none=>none)
      |none=>match S.plan2 fid rid with
       | some p=>
         (match eX m P (S.rows fid) (cf true lt) ops p.lo1 D p.π1 [] T H j,eX m P (S.rows fid) (cf true lt) ops p.lo2 D p.π2 [] T H j with
         |some (T',H',j'),some (T2,H2,j2)=>if(aAm (toL m T') (toL m T2)&& eqH H' H2&& Nat.beq j' j2)=true then tT m S P fid cf yf lt rnd n k T' H' j' D else none
         |_,_=>none)
       |none=>none)
    else match oI m P (S.rows fid) (cf true lt) yf rnd ops ops.toList T H j D with
     |some (.norm T' H' j' D')=>tT m S P fid cf yf lt rnd n k T' H' j' D'
     |some (.pan v T' H' j' D')=>some (.panic v,T',H',j',D')
     |none=>none
   | .rangeFunc g ps asg bd=>if rnd=true then none else match kev m T g with
    | .fn (.func gf) [] cap=>if(qL j (toL m T)&& H.all (aC7 j)&& aWm j D&& qL j cap)=true then
      (match cf true (⟨j,fid,toL m T,ps,asg,bd⟩::lt) gf (.fn (.yield j) [] []::cap) (H++[.dblk, .loop j .ready none]) (j+1) with
      |some (.ret _,H2,j2)=>match H2[H.length+1]? with
       | some (.loop i st pend)=>if(Nat.beq i j&& aCv st&& pE pend)=true then
         tT m S P fid cf yf lt rnd n (match pend with|none=>k|some c=> .code c::k) T (H2.set (H.length+1) .dead) j2 ((.yield H.length,[],[])::D) else none
       |_=>none
      |_=>none) else none
    |_=>none
   |_=>none
theorem aM0 {m:Nat} (hm:m<4095) {S:Seat} {P:Program} {fid:FuncId} {cf:Bool->LT->bF} {yf:cF} {lt:LT} {rnd:Bool} :∀ {n:Nat} {k:List It} {T:Tr} {H:HX} {j:Nat} {D:List AD} {x:AX} {T':Tr} {H':HX} {j':Nat} {D':List AD},tT m S P fid cf yf lt rnd n k T H j D=some (x,T',H',j',D')->
  ev S P fid cf yf lt rnd n k (toL m T) H j D=some (x,toL m T',H',j',D')
 |0,k,T,H,j,D,x,T',H',j',D',h=>by simp[tT] at h
 |n+1,k,T,H,j,D,x,T',H',j',D',h=>by
  have ih:=@aM0 m hm S P fid cf yf lt rnd n
  have opsCase:∀(all:Array Oper) (l:List Oper) (k:List It),(match oI m P (S.rows fid) (cf true lt) yf rnd all l T H j D with
    |some (.norm T' H' j' D')=>tT m S P fid cf yf lt rnd n k T' H' j' D'
    |some (.pan v T' H' j' D')=>some (.panic v,T',H',j',D')
    |none=>none)=some (x,T',H',j',D')->(match qB P (S.rows fid) (cf true lt) yf rnd all l (toL m T) H j D with
    |some (.norm T' H' j' D')=>ev S P fid cf yf lt rnd n k T' H' j' D'
    |some (.pan v T' H' j' D')=>some (.panic v,T',H',j',D')
    |none=>none)=some (x,toL m T',H',j',D'):=by
   intro all l k h;split at h
   ·rename_i e1;simp only[mC hm e1,KOR.un];exact ih h
   ·rename_i e1;simp only[bM0,bMf] at h;obtain⟨rfl,rfl,rfl,rfl,rfl⟩:=h;simp only[mC hm e1,KOR.un]
   ·cases h
  simp only[tT,mD] at h;simp only[ev];split at h
  ·exact y7k
  ·exact ih h
  ·exact opsCase _ _ _ h
  ·split at h
   ·exact ih h
   ·exact ih h
   ·exact ih h
   ·exact ih h
   ·exact ih h
   ·exact ih h
   ·split at h
    ·rename_i e1;simp only[e1];exact ih h
    ·cases h
   ·split at h
    ·rename_i e1;simp only[e1];exact ih h
    ·rename_i e1;simp only[bM0,bMf] at h;obtain⟨rfl,rfl,rfl,rfl,rfl⟩:=h;simp only[e1]
   ·exact y7k
   ·split at h
    ·rename_i e0
     dsimp only
     rw[if_pos e0];split at h
     ·rename_i e1;simp only[e1];split at h
      ·rename_i e2;simp only[fX hm e2,KDRes.un];exact ih h
      ·rename_i e2;simp only[fX hm e2,KDRes.un];split at h
       ·rename_i e3;simp only[e3];split at h
        ·rename_i e4;simp only[cO hm e4];split at h
         ·rename_i e5;rw[if_pos e5];simp only[bM0,bMf] at h;obtain⟨rfl,rfl,rfl,rfl,rfl⟩:=h;rw[yQ hm]
          rfl
         ·cases h
        ·cases h
       ·cases h
      ·cases h
     ·rename_i e1;simp only[e1];split at h
      ·rename_i e2;simp only[e2];split at h
       ·rename_i e3;simp only[aM2 hm e3];exact ih h
       ·cases h
      ·rename_i e2;simp only[e2];split at h
       ·rename_i e4;simp only[e4];split at h
        ·rename_i e5 e6;simp only[cO hm e5,cO hm e6];split at h
         ·rename_i e7;rw[if_pos e7];exact ih h
         ·cases h
        ·cases h
       ·cases h
    ·rename_i e0
     dsimp only
     rw[if_neg e0];exact opsCase _ _ _ h
   ·split at h
    ·cases h
    ·rename_i e0
     dsimp only
     rw[if_neg e0];split at h
     ·rename_i e1;simp only[e1];split at h
      ·rename_i e2;rw[if_pos e2];split at h
       ·rename_i e3;simp only[e3];split at h
        ·rename_i e4;simp only[e4];split at h
         ·rename_i e5;rw[if_pos e5];exact ih h
         ·cases h
        ·cases h
       ·cases h
      ·cases h
     ·cases h
   ·cases h
open Go Go.AI
noncomputable def aQc (l:List AV):Nat->Tr->Tr:=List.rec (motive:=fun _=>Nat->Tr->Tr) (fun _ t=>t) (fun x _ ih i t=>ih (Nat.add i 1) (Tr.put x 12 t i)) l
theorem yF:∀(l:List AV)(i:Nat)(t:Tr)(e:Nat),i+l.length<4095->(aQc l i t).get e=if i<=e/\e<i+l.length then l.getD (e-i) (.tup []) else t.get e
 |[],i,t,e,_=>by
  rw[if_neg (by simp only[bM3];omega)];rfl
 |x::l,i,t,e,h=>by
  have h12:(2:Nat)^12=4096:=rfl;simp only[bM2] at h;show(aQc l (i+1) (Tr.put x 12 t i)).get e=_;rw[yF l (i+1) _ e aB,Tr.get_put x 12 t i e (by rw[h12];omega)];simp only[bM2]
  by_cases h1:e=i
  ·subst h1;rw[if_neg aB,if_pos rfl,if_pos aB];simp
  ·by_cases h2:i+1<=e/\e<i+1+l.length
   ·rw[if_pos h2,if_pos aB];obtain⟨q,rfl⟩:∃q,e=i+1+q:=⟨e-(i+1),by omega⟩;rw[show i+1+q-(i+1)=q by omega,show i+1+q-i=q+1 by omega];simp
   ·rw[if_neg h2,if_neg h1,if_neg aB]
noncomputable def aCb (n:Nat)(P:Program)(T:Tr)(H:HX):List ResultVar->Option (List AV)
 |[]=>some []
 | .tmp t::rs=>(aCb n P T H rs).map fun l=>aZa n T t::l
 | .cell a t::rs=>match aDe P t (aZa n T a) H,aCb n P T H rs with
  |some x,some l=>some (x::l)
  |_,_=>none
theorem vN (n:Nat)(P:Program)(T:Tr)(H:HX):∀rs:List ResultVar,aCb n P T H rs=lN P (toL n T) H rs
 |[]=>rfl
 | .tmp t::rs=>by simp only[aCb,lN,vM,vN n P T H rs]
 | .cell a t::rs=>by
  simp only[aCb,lN,vM,vN n P T H rs]
  rfl
open Go Go.AI
theorem aI3 {args:List AV} {n:Nat} (h:args.length<=n)(hn:n<4095):toL n (aQc args 0 .nil)=slots args n:=by
 apply bNj;intro i;simp only[toL,bO4,slots]
 by_cases hi:i<n
 ·rw[List.getElem?_range hi,bN2,yF args 0 .nil i aB]
  by_cases h2:i<args.length
  ·rw[if_pos aB,bM9 h2];simp[h2]
  ·rw[if_neg aB,bN8 aB,List.getElem?_replicate,if_pos aB]
   rfl
 ·rw[bNz (by simpa using hi),bNz (by simp;omega)];rfl
def aLl (S:Seat) (P:Program) (cf:Bool->LT->bF) (yf:cF) (keep:Bool) (lt:LT):bF:=fun f args H j=>match S.fn f with
    |some fn=>match fn.body with
     |some c=>match ev S P f cf yf lt false 100000 [.code c] (slots args fn.ntmps) H j [] with
      |some (x,T,H1,j1,D)=>if H.length<=H1.length then(match D with
       |(.func d,cap,dargs)::[]=>match x with
        | .exit _=>none
        |x=>if(S.fn d).isSome=true then(match aL3 S P cf yf lt d (dargs++cap) (match x with| .panic v=>some v|_=>none) H1 j1 with
         |some H2=>if H.length<=H2.length then(match lN P T H2 fn.results.toList with
          |some l=>(settle lt keep H.length (bR l) H2).map fun q=>(.ret q.1,q.2,j1)
          |none=>none) else none
         |none=>none) else none
       |D=>match iX D H1 with
        |some H2=>match x with
         | .exit _=>none
         | .panic v=>(settle lt keep H.length v H2).map fun q=>(.panic q.1,q.2,j1)
         |_=>match lN P T H2 fn.results.toList with
          |some l=>(settle lt keep H.length (bR l) H2).map fun q=>(.ret q.1,q.2,j1)
          |none=>none
        |none=>none) else none
      |none=>none
     |none=>none
    |none=>none
noncomputable def tU (S:Seat)(P:Program)(cf:Bool->LT->bF)(yf:cF)(keep:Bool)(lt:LT):bF:=fun f args H j=>match S.fn f with
  |some fn=>match fn.body with
   |some c=>if(Nat.ble args.length fn.ntmps&& Nat.blt fn.ntmps 4095)=true then(match tT fn.ntmps S P f cf yf lt false 100000 [.code c] (aQc args 0 .nil) H j [] with
    |some (x,T,H1,j1,D)=>if H.length<=H1.length then(match D with
     |(.func d,cap,dargs)::[]=>match x with
      | .exit _=>none
      |x=>if(S.fn d).isSome=true then(match aL3 S P cf yf lt d (dargs++cap) (match x with| .panic v=>some v|_=>none) H1 j1 with
       |some H2=>if H.length<=H2.length then(match aCb fn.ntmps P T H2 fn.results.toList with
        |some l=>(settle lt keep H.length (bR l) H2).map fun q=>(.ret q.1,q.2,j1)
        |none=>none) else none
       |none=>none) else none
     |D=>match iX D H1 with
      |some H2=>match x with
       | .exit _=>none
       | .panic v=>(settle lt keep H.length v H2).map fun q=>(.panic q.1,q.2,j1)
       |_=>match aCb fn.ntmps P T H2 fn.results.toList with
        |some l=>(settle lt keep H.length (bR l) H2).map fun q=>(.ret q.1,q.2,j1)
        |none=>none
      |none=>none) else none
    |none=>none) else none
   |none=>none
  |none=>none
theorem aL4 (S:Seat)(P:Program)(cf:Bool->LT->bF)(yf:cF)(keep:Bool)(lt:LT)(f:FuncId)(args:List AV)(H:HX)(j:Nat):evG S P cf yf keep lt f args H j=aCk j (aLl S P cf yf keep lt f args H j):=rfl
theorem aM3 {S:Seat} {P:Program} {cf:Bool->LT->bF} {yf:cF} {keep:Bool} {lt:LT} {f:FuncId} {args:List AV} {H:HX} {j:Nat} {r:AOut×HX×Nat} (h:tU S P cf yf keep lt f args H j=some r):aLl S P cf yf keep lt f args H j=some r:=by
 unfold tU at h;unfold aLl
 cases e1:S.fn f with
 |none=>rw[e1] at h;cases h
 |some fn=>
  rw[e1] at h
  dsimp only at h⊢
  cases e2:fn.body with
  |none=>rw[e2] at h;cases h
  |some c=>
   rw[e2] at h
   dsimp only at h⊢
   split at h
   ·rename_i hc;simp only[bM8] at hc;have h1:=Nat.le_of_ble_eq_true hc.1;have h2:fn.ntmps<4095:=Nat.le_of_ble_eq_true hc.2;split at h
    ·rename_i x T H1 j1 D e3;have e4:=aM0 h2 e3;rw[aI3 h1 h2] at e4;simp only[e4];simp only[vN] at h;exact h
    ·cases h
   ·cases h
open Go Go.AI
theorem yS {S:Seat} {P:Program} {cf:Bool->LT->bF} {yf:cF} {keep:Bool} {lt:LT} {f:FuncId} {args:List AV} {H:HX} {j:Nat} {r:AOut×HX×Nat} (h:aCk j (tU S P cf yf keep lt f args H j)=some r):evG S P cf yf keep lt f args H j=some r:=by
 rw[aL4]
 cases e:tU S P cf yf keep lt f args H j with
 |none=>rw[e] at h;cases h
 |some q=>rw[aM3 e,<-e];exact h
end Go.AI.EV
namespace Go.AI
open Go
theorem aUg {E:Env} {w:World} {sz cap:Nat} {es:List (List PV)} {vs:List Value} (hes:∀e∈es,e.length=sz)(hn:es.length<=cap)(hl:vs.length=cap*sz)
  (hr:RepL E w (es.flatten.map .p) (vs.take (es.flatten.map AV.p).length)):RepL E w (buf sz es (cap-es.length)) vs:=by
 have hel:(es.flatten.map AV.p).length=es.length*sz:=by rw[bMp,flat_length hes]
 rw[hel] at hr;have hmul:es.length*sz+(cap-es.length)*sz=cap*sz:=by rw[<-bO3];congr 1;omega
 have hd:(vs.drop (es.length*sz)).length=(cap-es.length)*sz:=by rw[bN1];omega
 have:=hr.append (hd▸RepL.junks (E:=E) (w:=w) (vs.drop (es.length*sz)));rw[bN5] at this;exact this
theorem Rel.thaw {E:Env} {h:Heap} {w:World} (r:Rel E h.at w)(hf:Fresh E h.length) {id b cap sz:Nat} {es:List (List PV)} (hat:h.at id=some (.vec sz es))(hL:E.t id=some ⟨some b,cap,es.length⟩)(hes:∀e∈es,e.length=sz):
  let E':Env:= {E with g:=fun i=>if i=h.length then some b else E.g i}
  let h':Heap:=h.set id none++[some (.cells (buf sz es (cap-es.length)))]
  Rel E' h'.at w/\Fr E h.at w E' h'.at w/\Fresh E' (h.length+1)/\es.length<=cap:=by
 intro E' h';obtain⟨blk,cap',ht,k1,k2,k3⟩:=r.toks id _ _ _ _ _ hat rfl;rw[hL] at ht;cases ht;obtain⟨vs,hrow,hcl,hcr⟩:=k3 b rfl;have hlt:=bD hat
 have hx:Ext E w E' w:=⟨fun _ _ h=>h,fun _ _ _=>rfl,fun i b' e=>by
   show(if i=h.length then some b else E.g i)=some b';rw[if_neg (fun he=>by rw[he,(hf _ (bLx _)).1] at e;cases e)];exact e,fun _ L h=>⟨L,h,bLx _,fun _=>rfl⟩⟩
 have hnew:h'.at h.length=some (.cells (buf sz es (cap-es.length))):=by
  have:=cM (h.set id none) (some (.cells (buf sz es (cap-es.length)))) h.length;rw[bNu,if_pos rfl] at this;exact this
 have hold:∀i o,i≠h.length->h'.at i=some o->h.at i=some o/\i≠id:=by
  intro i o hne e;have:=cM (h.set id none) (some (.cells (buf sz es (cap-es.length)))) i;exact y3t
 have hg':∀i,i≠h.length->E'.g i=E.g i:=fun i hne=>if_neg hne
 have hgn:E'.g h.length=some b:=if_pos rfl
 have hO:∀i b',fG E' h'.at i b'->(i=h.length/\b'=b)\/(i≠h.length/\i≠id/\fG E h.at i b'):=by
  intro i b' ho;exact y31
 have hown:fG E h.at id b:= .inr ⟨_,_,_,_,hat,rfl,hL⟩;refine⟨⟨fun i o hc hn=>?_,fun i o n s k cs hc hk=>?_,fun i i' b' h1 h2=>?_,fun i o b' off hc hn hg hb=>?_,fun i o n s k cs b' c m off hc hk hg hl hb=>?_,r.lt⟩,⟨fun _ _ _=>rfl,hx,fun _ _ h=> .inl h,bLx _,fun b' ⟨i,ho⟩=>?_,Kp.refl w⟩,fun i hi=>?_,k1⟩
 ·by_cases e:i=h.length
  ·subst e;rw[hnew] at hc;cases hc;exact⟨b,hgn,vs,hrow,(aUg hes k1 hcl hcr).ext hx⟩
  ·exact y66
 ·exact y3p
 ·exact y45
 ·by_cases e:i=h.length
  ·subst e;rw[hgn] at hg;cases hg;exact r.sepT id _ _ _ _ _ b cap _ off hat rfl hL aB hb
  ·exact y7p
 ·exact y5a
 ·exact y6y
 ·exact y6s
section
variable {P:Program} {rd:Option Nat} {nb:Nat} {k:List It} {T:List AV} {h:Heap} {D:List AD} {Q:AX->List AV->Heap->List AD->Prop}
end
open Go
section
variable {P:Program} {rd:Option Nat} {nb:Nat} {k:List It} {T:List AV} {h:Heap} {D:List AD} {Q:AX->List AV->Heap->List AD->Prop}
theorem Run.freezeAt (cid off:Nat) {id n cap sz m:Nat} {cs:List AV} {es:List (List PV)} (hcid:h.at cid=some (.cells cs))(hs:cs[off]?=some (.sm id 0 n cap sz))(hat:h.at id=some (.cells (buf sz es m)))(hne:cid≠id)(hes:∀e∈es,e.length=sz)(hn:es.length=n)(hcap:n<=cap)
  (r:Run P rd nb k T ((h.set cid (some (.cells (cs.set off (.p (.sl sz es)))))).set id none) D Q):Run P rd nb k T h D Q:=by
 intro E w a s;have hlt:=bD hat;have hltc:=bD hcid;obtain⟨b,vals,hg,hrow,hreps⟩:=s.rel.objs id _ hat;obtain⟨f1,f2⟩:=s.rel.freeze hat hg;have s':=s.move f2 f1 (fun i hi=>s.fresh i (by simpa using hi));have hel:(es.flatten.map AV.p).length=es.length*sz:=by rw[bMp,flat_length hes]
 have hx:Rep {E with ro:=fun b' off=>E.ro b' off\/b'=b} w (.p (.sl sz es)) (.slice (some ⟨b,0,none⟩) n cap):=by
  exact y37
 have hid':Heap.at (h.set id none) cid=some (.cells cs):=by
  unfold Heap.at at hcid⊢;rw[bMl (fun q=>hne q.symm)];exact hcid
 obtain⟨bc,vs,hgc,hrowc,hrepsc⟩:=s'.rel.objs cid cs hid';have hl:=hrepsc.length;have hoff:off<cs.length:=(bLw.1 hs).1;obtain⟨v,hv⟩:∃v,vs[off]?=some v:=⟨_,bLv aB⟩
 have hvr:Rep {E with ro:=fun b' off=>E.ro b' off\/b'=b} w (.sm id 0 n cap sz) v:=by
  have:=hrepsc.get off;simpa only[List.getD,hs,hv,bMc] using this
 simp only[Rep] at hvr;obtain⟨b2,hb2,rfl⟩:=hvr;have hb2:E.g id=some b2:=hb2;rw[hg] at hb2;cases hb2
 have hsame:vs.set off (.slice (some ⟨b,0,none⟩) n cap)=vs:=by
  exact y60
 have hset:=hrepsc.set hx off;rw[hsame] at hset;obtain⟨w1,w2⟩:=s'.rel.write hid' hgc hrowc (fun _ _=>rfl) rfl rfl rfl hset
 have e:List.set (h.set id none) cid (some (.cells (cs.set off (.p (.sl sz es)))))=(h.set cid (some (.cells (cs.set off (.p (.sl sz es)))))).set id none:=by
  rw[List.set_comm _ _ (fun q=>hne q.symm)]
 rw[e] at w1 w2;have s2:=s'.move w2 w1 (fun i hi=>s'.fresh i (by simpa using hi));exact K_mono (P:=P) (rd:=rd) (Post.of_fr (Q:=Q) (f2.trans w2)) k _ _ _ (r _ w a s2)
end
open Go
mutual
theorem RepP.roMono {E E':Env} {w:World} (h:∀b off,E.ro b off->E'.ro b off):∀ {x:PV} {v:Value},RepP E w x v->RepP E' w x v
 | .prim _,_,r=>by simpa only[RepP] using r
 | .sl sz es,v,r=>by
  simp only[RepP] at r⊢;obtain⟨a,cap,e,hc,r⟩:=r;refine⟨a,cap,e,hc,r.imp id ?_⟩;rintro⟨b,off,ea,r⟩;exact⟨b,off,ea,RepEs.roMono h r⟩
 | .ro cs,v,r=>by
  simp only[RepP] at r⊢;obtain⟨b,off,e,r⟩:=r;exact⟨b,off,e,RepAt.roMono h r⟩
 | .ifc t x,v,r=>by
  simp only[RepP] at r⊢;obtain⟨u,e,r⟩:=r;exact⟨u,e,RepP.roMono h r⟩
theorem RepAt.roMono {E E':Env} {w:World} (h:∀b off,E.ro b off->E'.ro b off) {b:Nat} :∀ {xs:List PV} {off:Nat},RepAt E w b off xs->RepAt E' w b off xs
 |[],_,_=>by simp only[RepAt]
 |x::xs,off,r=>by
  simp only[RepAt] at r⊢;obtain⟨v,ho,e,r1,r2⟩:=r;exact⟨v,h _ _ ho,e,RepP.roMono h r1,RepAt.roMono h r2⟩
theorem RepEs.roMono {E E':Env} {w:World} (h:∀b off,E.ro b off->E'.ro b off) {b sz:Nat} :∀ {es:List (List PV)} {off:Nat},RepEs E w b sz off es->RepEs E' w b sz off es
 |[],_,_=>by simp only[RepEs]
 |e::es,off,r=>by
  simp only[RepEs] at r⊢;exact⟨r.1,RepAt.roMono h r.2.1,RepEs.roMono h r.2.2⟩
end
theorem Rel.later {E:Env} {h:Nat->Option AO} {w w':World} (r:Rel E h w)(hs:∀b,b<w.heap.size->w'.heap[b]?=w.heap[b]?)(hsz:w.heap.size<=w'.heap.size)(kp:Kp w w'):Rel E h w'/\Fr E h w E h w':=by
 have hx:Ext E w E w':=⟨fun _ _ h=>h,fun b off hb=>bS (hs b (r.lt b off hb)) off,fun _ _ h=>h,fun _ L h=>⟨L,h,bLx _,fun _=>rfl⟩⟩;refine⟨⟨fun id o h1 h2=>?_,fun id o n sz m cs h1 h2=>?_,r.inj,r.sepO,r.sepT,fun b off hb=>Nat.lt_of_lt_of_le (r.lt b off hb) hsz⟩,⟨fun b hb _=>hs b hb,hx,fun _ _ h=> .inl h,hsz,fun _ h=> .inl h,kp⟩⟩
 ·obtain⟨b,g,hb⟩:=r.objsO id o h1 h2;exact⟨b,g,hb.move hx (hs b hb.lt)⟩
 ·obtain⟨blk,cap,g1,g2,g3,g4⟩:=r.toks id o n sz m cs h1 h2;refine⟨blk,cap,g1,g2,g3,fun b hb=>?_⟩;obtain⟨vs,k1,k2,k3⟩:=g4 b hb;exact⟨vs,k1.same (hs b k1.lt),k2,k3.ext hx⟩
end Go.AI
