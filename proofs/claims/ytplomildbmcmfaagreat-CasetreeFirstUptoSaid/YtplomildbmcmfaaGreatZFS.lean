import Derived.Test.YtplomildbmcmfaaGreatZA0
import Derived.Test.YtplomildbmcmfaaGreatZEVn
import Derived.Shelf.Sort.Plain
import Derived.Shelf.Slices.In.SortNone
import Derived.Test.YtplomildbmcmfaaGreatZEVc
namespace Go.AI.EV
open Go Go.AI
theorem getD_pre {α:Type} {l l':List α} {d:α} (h:l<+:l') {i:Nat} (hi:i<l.length):l'.getD i d=l.getD i d:=by
 obtain⟨t,rfl⟩:=h;simp[List.getD,bM9 hi]
section
variable {P:Program} {cf:bF} {ops:Array Oper} {p:Pl} {N j:Nat} {T0:List AV}
theorem aIu {xs xs':List AV} (h:xs<+:xs') {i:Nat} (hi:i<=xs.length):TnF ops T0 xs' (fun j=>decide (j<i))=TnF ops T0 xs fun j=>decide (j<i):=by
 unfold TnF;refine List.map_congr_left fun q _=>?_
 unfold rW;split
 ·rename_i k hk;split
  ·rename_i hlt;rw[getD_pre h (by have:=of_decide_eq_true hlt;omega)]
  ·rfl
 ·rfl
inductive Spec (P:Program) (cf:bF) (ops:Array Oper) (p:Pl) (N j:Nat) (T0:List AV) (R:RS) (i:Nat):Prop where
 | off (o:Oper) (ho:ops[i]?=some o) (hf:p.fl.contains i=false) (hw:awanted ops (TnF ops T0 R.xs fun j=>decide (j<i)) o=some false) (hx:R.xs.getD i .junk= .tup [])
   (hH:p.chain ops i=true->R.HS.getD (cnt ops p (fun j=>decide (j<i))+1) []=R.HS.getD (cnt ops p fun j=>decide (j<i)) [])
 | flt (o:Oper) (ho:ops[i]?=some o) (k:Nat) (cs:List AV) (hf:p.fl[k]?=some i) (hw:awanted ops (TnF ops T0 R.xs fun j=>decide (j<i)) o=some true)
   (hx:aLe P (aev (TnF ops T0 R.xs fun j=>decide (j<i))) (N+k) o.op=some (R.xs.getD i .junk,cs)) (hi:R.inits.getD k .dead= .cells cs)
 | ch (o:Oper) (ho:ops[i]?=some o) (hf:p.fl.contains i=false) (hw:awanted ops (TnF ops T0 R.xs fun j=>decide (j<i)) o=some true) (hc:p.chain ops i=true) (H':HX)
   (hx:aL5 P cf (N+p.pc i) o (TnF ops T0 R.xs fun j=>decide (j<i)) (eP N R.inits (p.pc i) (R.HS.getD (cnt ops p fun j=>decide (j<i)) [])) j=some (R.xs.getD i .junk,H'))
   (hH:R.HS.getD (cnt ops p (fun j=>decide (j<i))+1) []=H'++(R.HS.getD (cnt ops p fun j=>decide (j<i)) []).drop (N+p.pc i)) (ha:(H'.drop N).all alive=true)
 | rd (o:Oper) (ho:ops[i]?=some o) (hf:p.fl.contains i=false) (hw:awanted ops (TnF ops T0 R.xs fun j=>decide (j<i)) o=some true) (hc:p.chain ops i=false) (G H':HX)
   (hx:aL5 P cf (N+p.pc i) o (TnF ops T0 R.xs fun j=>decide (j<i)) G j=some (R.xs.getD i .junk,H')) (hp:(i,TnF ops T0 R.xs (fun j=>decide (j<i)),o.op,R.xs.getD i .junk)∈R.pend)
theorem aLk {inits inits':List XO} (h:inits<+:inits') {k:Nat} (hk:k<=inits.length)(V:HX):eP N inits' k V=eP N inits k V:=by
 unfold eP
 congr 1
 refine List.map_congr_left fun q hq=>?_
 have hq:=bN6.1 hq;unfold flo;rw[getD_pre h aB]
theorem tA (i:Nat):(fun j=>decide (j<i)||j==i)=fun j=>decide (j<i+1):=by
 funext j
 rw[bMt];simp only[bNe,bMi,beq_iff_eq];omega
theorem pre_app {α:Type} (l:List α)(x:α):l<+:l++[x]:=List.prefix_append l [x]
theorem dG (hk:OkR ops p):∀(n:Nat)(i:Nat)(T:List AV)(V:HX)(xs:List AV)(HS:List HX)(inits:List XO)(pend:List (Nat×List AV×Op×AV))(R:RS),i+n=ops.size->xs.length=i->T=TnF ops T0 xs (fun j=>decide (j<i))->
  HS.length=cnt ops p (fun j=>decide (j<i))+1->HS.getD (cnt ops p fun j=>decide (j<i)) []=V->gI P cf ops p N j (List.range' i n) T V xs HS inits pend=some R->
  xs<+:R.xs/\HS<+:R.HS/\inits<+:R.inits/\(∀e∈pend,e∈R.pend)/\R.T=TnF ops T0 R.xs (fun j=>decide (j<ops.size))/\R.xs.length=ops.size/\R.HS.length=cnt ops p (fun j=>decide (j<ops.size))+1/\∀a,i<=a->a<ops.size->Spec P cf ops p N j T0 R a
 |0,i,T,V,xs,HS,inits,pend,R,hn,hxs,hT,hHS,hV,h=>by
  simp only[List.range'_zero,gI,bM0] at h;subst h;have:i=ops.size:=aB;subst this;exact⟨List.prefix_refl _,List.prefix_refl _,List.prefix_refl _,fun _ h=>h,hT,hxs,hHS,fun a h1 h2=>by omega⟩
 |n+1,i,T,V,xs,HS,inits,pend,R,hn,hxs,hT,hHS,hV,h=>by
  have hi:i<ops.size:=aB;simp only[List.range'_succ,gI] at h;split at h
  ·cases h
  ·rename_i o ho
   have cN:∀b,p.chain ops i=b->cnt ops p (fun j=>decide (j<i+1))=cnt ops p (fun j=>decide (j<i))+(if b=true then 1 else 0):=by
    intro b hb;rw[<-tA i]
    cases b with
    |true=>rw[if_pos rfl];exact aB5 hi aA hb
    |false=>rw[if_neg aA];exact oZ hb
   have tN:∀x,tput T o.dst x=TnF ops T0 (xs++[x]) (fun j=>decide (j<i+1)):=by
    intro x;rw[<-tA i,uP hk ho,aIu (pre_app xs x) aB,hT]
    congr 1
    simp[List.getD,<-hxs]
   have xN:∀ {x:AV} {R:RS},(xs++[x])<+:R.xs->R.xs.getD i .junk=x:=by
    intro x R h;rw[getD_pre h (by simp;omega)];simp[List.getD,<-hxs]
   have tR:∀ {x:AV} {R:RS},(xs++[x])<+:R.xs->TnF ops T0 R.xs (fun j=>decide (j<i))=T:=by
    intro x R h;rw[hT,aIu ((pre_app xs x).trans h) aB]
   have vR:∀ {R:RS},HS<+:R.HS->R.HS.getD (cnt ops p fun j=>decide (j<i)) []=V:=by
    intro R h;rw[getD_pre h aB];exact hV
   split at h
   ·cases h
   ·rename_i hw;split at h
    ·cases h
    ·rename_i hf;have hf:p.fl.contains i=false:=by simpa using hf
     by_cases hc:p.chain ops i=true
     ·rw[if_pos hc] at h
      obtain⟨r1,r2,r3,r4,r5,r6,r7,r8⟩:=dG hk n (i+1) _ V _ (HS++[V]) _ _ R aB (by simp[hxs]) (tN _) (by rw[cN true hc,bM5,hHS];rfl)
       (by rw[cN true hc,if_pos rfl,<-hHS];simp[List.getD]) h
      refine⟨(pre_app _ _).trans r1,(pre_app _ _).trans r2,r3,r4,r5,r6,r7,fun a h1 h2=>?_⟩;rcases Nat.eq_or_lt_of_le h1 with rfl|h1
      ·refine .off o ho hf (by rw[tR r1];exact hw) (xN r1) fun _=>?_
       exact y7x
      ·exact r8 a h1 h2
     ·rw[if_neg hc] at h;have hc':p.chain ops i=false:=by simpa using hc
      obtain⟨r1,r2,r3,r4,r5,r6,r7,r8⟩:=dG hk n (i+1) _ V _ HS _ _ R aB (by simp[hxs]) (tN _) (by rw[cN false hc',hHS];rfl) (by rw[cN false hc'];exact hV) h;refine⟨(pre_app _ _).trans r1,r2,r3,r4,r5,r6,r7,fun a h1 h2=>?_⟩;rcases Nat.eq_or_lt_of_le h1 with rfl|h1
      ·exact .off o ho hf (by rw[tR r1];exact hw) (xN r1) fun q=>absurd q hc
      ·exact r8 a h1 h2
   ·rename_i hw;split at h
    ·rename_i hf;have hnc:p.chain ops i=false:=by unfold Pl.chain;rw[ho];simp only[hf,bOo,Bool.and_false]
     split at h
     ·rename_i x cs hx;split at h
      ·rename_i hfl;obtain⟨r1,r2,r3,r4,r5,r6,r7,r8⟩:=dG hk n (i+1) _ V _ HS _ _ R aB (by simp[hxs]) (tN _) (by rw[cN false hnc,hHS];rfl) (by rw[cN false hnc];exact hV) h;refine⟨(pre_app _ _).trans r1,r2,(pre_app _ _).trans r3,r4,r5,r6,r7,fun a h1 h2=>?_⟩;rcases Nat.eq_or_lt_of_le h1 with rfl|h1
       ·refine .flt o ho inits.length cs hfl (by rw[tR r1];exact hw) (by rw[tR r1,xN r1];exact hx) ?_;rw[getD_pre r3 aA];simp[List.getD]
       ·exact r8 a h1 h2
      ·cases h
     ·cases h
    ·rename_i hf;have hf:p.fl.contains i=false:=by simpa using hf
     split at h
     ·rename_i x H' hx;split at h
      ·rename_i hpc;split at h
       ·rename_i hc;split at h
        ·rename_i ha
         obtain⟨r1,r2,r3,r4,r5,r6,r7,r8⟩:=dG hk n (i+1) _ _ _ (HS++[H'++V.drop (N+p.pc i)]) _ _ R aB (by simp[hxs]) (tN _) (by rw[cN true hc,bM5,hHS];rfl)
          (by rw[cN true hc,if_pos rfl,<-hHS];simp[List.getD]) h
         refine⟨(pre_app _ _).trans r1,(pre_app _ _).trans r2,r3,r4,r5,r6,r7,fun a h1 h2=>?_⟩;rcases Nat.eq_or_lt_of_le h1 with rfl|h1
         ·refine .ch o ho hf (by rw[tR r1];exact hw) hc H' (by rw[tR r1,xN r1,vR ((pre_app _ _).trans r2),aLk r3 hpc];exact hx) ?_ ha;exact y7x
         ·exact r8 a h1 h2
        ·cases h
       ·rename_i hc;have hc':p.chain ops i=false:=by simpa using hc
        obtain⟨r1,r2,r3,r4,r5,r6,r7,r8⟩:=dG hk n (i+1) _ V _ HS _ _ R aB (by simp[hxs]) (tN _) (by rw[cN false hc',hHS];rfl) (by rw[cN false hc'];exact hV) h;refine⟨(pre_app _ _).trans r1,r2,r3,fun e he=>r4 e (bNl _ he),r5,r6,r7,fun a h1 h2=>?_⟩;rcases Nat.eq_or_lt_of_le h1 with rfl|h1
        ·refine .rd o ho hf (by rw[tR r1];exact hw) hc' _ H' (by rw[tR r1,xN r1];exact hx) ?_;rw[tR r1,xN r1];exact r4 _ (List.mem_append_right _ (List.mem_singleton.2 rfl))
        ·exact r8 a h1 h2
      ·cases h
     ·cases h
end
section
variable {ops:Array Oper} {p:Pl} {N:Nat} {HS:List HX} {inits:List XO}
theorem aPm {S S':Nat->Bool} {m:Nat} {V V':HX} (hl:N<=V.length)(hl':N<=V'.length)(hV:HS.getD (cnt ops p S) []=V)(hV':HS.getD (cnt ops p S') []=V')(hS:∀k,m<=k->k<p.fl.length->S' (p.fl.getD k 0)=S (p.fl.getD k 0))(he:∀k,m<=k->V'.getD (N+k) .dead=V.getD (N+k) .dead):
  (HnF ops p N HS inits S').drop (N+m)=(HnF ops p N HS inits S).drop (N+m):=by
 unfold HnF;rw[hV,hV']
 have key:∀(W F:HX),N<=W.length->(W.take N++F).drop (N+m)=F.drop m:=by
  intro W F hW;have e:(W.take N).length=N:=by rw[bMn,bNc hW]
  rw[List.drop_append,e,List.drop_eq_nil_of_le (by rw[e];omega),show N+m-N=m by omega,bM4]
 rw[key _ _ hl,key _ _ hl'];apply bNj;intro q;rw[List.getElem?_drop,List.getElem?_drop,bO4,bO4]
 by_cases l:m+q<p.fl.length
 ·rw[List.getElem?_range l,bN2,bN2]
  congr 1
  rw[hS (m+q) aB l];split
  ·unfold flo;rw[he (m+q) aB]
  ·rfl
 ·rw[bNz (by rw[List.length_range];omega)]
  rfl
end
open Go Go.AI
theorem aA6 (m:Nat)(ks:Ks):∀D:List AD,dU m (D.map (ioD ks))=dU m D
 |[]=>rfl
 |(f,a,b)::D=>by
  have h1:AV.underL m (a.map (io ks))=AV.underL m a:=by rw[<-fB,cW]
  have h2:AV.underL m (b.map (io ks))=AV.underL m b:=by rw[<-fB,cW]
  cases f<;>simp only[bMd,ioD,dU,h1,h2,aA6 m ks D]
theorem lF {m m':Nat} (h:m<=m'):∀ {D:List AD},dU m D=true->dU m' D=true
 |[],_=>rfl
 |(f,a,b)::D,hD=>by
  cases f<;>simp only[dU,bM8,bMi] at hD⊢
  case yield id=>exact⟨by omega,lF h hD.2⟩
  all_goals exact⟨⟨AV.underL_mono h hD.1.1,AV.underL_mono h hD.1.2⟩,lF h hD.2⟩
section
variable {P:Program} {ks:Ks} {lt:LT} {j:Nat}
theorem aPi {rd:Option Nat} {ops:Array Oper} {i m:Nat} {o:Oper} {G L H':HX} {T:List AV} {D:List AD} {x:AV} {E:Env} {w:World} {a:Act} {Qw:Exit->Act->World->Prop} {Kw:Act->World->Prop} (hGl:Gl lt j ks)(ho:ops[i]?=some o)(hm:G.length=m)
  (hun:G.all (fV lt m)=true) (hD:dU m D=true) (s:St E w a (T.map (io ks)) (iH ks (G++L)) (D.map (ioD ks)))
  (hd:(awanted ops ((T.map (cutA m)).map (io ks)) o=some true/\aop P (aev ((T.map (cutA m)).map (io ks))) (iH ks G) o.op=some (io ks x,iH ks H'))\/
   (awanted ops ((T.map (cutA m)).map (io ks)) o=some true/\∃c f args,o.op= .call c/\acallee ((T.map (cutA m)).map (io ks)) c=some (f,args)/\aK P f=true/\ACalls P f args (iH ks G) (fun o' g=>o'= .ret (io ks x)/\g=iH ks H'))\/
   (awanted ops ((T.map (cutA m)).map (io ks)) o=some true/\iH ks H'=iH ks G/\∃sz ys n,io ks x= .p (.sl sz ys)/\aop P (aev ((T.map (cutA m)).map (io ks))) (iH ks G) o.op=some (.own (iH ks G).length sz ys,iH ks G++[some (.tok n sz)])))
  (hlen:H'.length=G.length)
  (hk:∀E2 w1 a1,St E2 w1 a1 ((tput T o.dst x).map (io ks)) (iH ks (H'++L)) (D.map (ioD ks))->Fr E (Heap.at (iH ks (G++L))) w E2 (Heap.at (iH ks (H'++L))) w1->(∀id,m<=id->E2.g id=E.g id)->Kw a1 w1):
  wpOpIn (fen rd) 0 P ops Qw i Kw a w:=by
 have hGm:(iH ks G).length=m:=by rw[bJ,hm]
 have hunA:(iH ks G).all (AO.under m)=true:=mQ hGl hun;have s1:=s.rel;have f1:=s.fresh;rw[fA] at s1 f1
 have hr:Rel (E.cut m) (Heap.at (iH ks G)) w:=by
  have et:(iH ks G++iH ks L).take m=iH ks G:=by rw[<-hGm,List.take_left]
  have:=s1.cut m (by rw[et];exact hunA);rw[et] at this;exact this
 have hfr:Fresh (E.cut m) (iH ks G).length:=by
  intro id hid;rw[hGm] at hid;have:¬id<m:=aB;simp[Env.cut,this]
 have hT:RepL (E.cut m) w ((T.map (cutA m)).map (io ks)) a.tmps.toList:=by
  have e:(T.map (cutA m)).map (io ks)=(T.map (io ks)).map (cutA m):=by
   rw[bOr,bOr];exact List.map_congr_left fun y _=>(aUq m ks y (mM m ks)).symm
  rw[e];exact(aE5 s.tmps).cut (pV m _)
 have hDc:RepD (E.cut m) w (D.map (ioD ks)) a.defers:=RepD.cut (by rw[aA6];exact hD) s.defers;have sc:St (E.cut m) w a ((T.map (cutA m)).map (io ks)) (iH ks G) (D.map (ioD ks)):=⟨hr,hfr,hT,hDc⟩;have hunA':(iH ks G).all (AO.under (iH ks G).length)=true:=by rw[hGm];exact hunA
 refine bCu ho sc (.inr hd) hunA' ?_;intro E1 w1 v r1 f2 x1 fr1;obtain⟨u1,u2,u3,u4,u5⟩:=bLe s1 f1 hunA' r1 f2 (by rw[bJ,bJ,hlen]) (by rw[hGm];exact fr1);rw[hGm] at u1 u2 u3 u4 u5;rw[<-fA,<-fA] at u2;rw[<-fA] at u1 u3;refine hk (jB E1 E m) w1 _ ?_ u2 fun id hid=>if_neg aB
 have hmove:St (jB E1 E m) w1 a (T.map (io ks)) (iH ks (H'++L)) (D.map (ioD ks)):=⟨u1,u3,s.tmps.ext u5,s.defers.ext u5⟩;rw[<-tput_io];exact hmove.put (x1.ext u4) o.dst
theorem aU1 {ops:Array Oper} {T0 xs:List AV} {S:Nat->Bool} (h:∀i,i<ops.size->S i=true):TnF ops T0 xs S=TnF ops T0 xs fun j=>decide (j<ops.size):=by
 unfold TnF;refine List.map_congr_left fun q _=>?_
 unfold rW;split
 ·rename_i i hi;obtain⟨h1,_⟩:=gT hi;simp[h i h1,h1]
 ·rfl
theorem xR {ops:Array Oper} {p:Pl} {S S':Nat->Bool} (h:∀i,i<ops.size->S i=true->S' i=true):cnt ops p S<=cnt ops p S':=by
 unfold cnt;refine List.countP_mono_left fun x hx hs=>?_
 simp only[bM8] at hs⊢;exact⟨hs.1,h x (bN6.1 hx) hs.2⟩
theorem bAd {ops:Array Oper} {p:Pl} {N:Nat} {HS:List HX} {inits:List XO} {S:Nat->Bool} {k:Nat} (hl:N<=(HS.getD (cnt ops p S) []).length)(hk:k<p.fl.length):
  (HnF ops p N HS inits S)[N+k]?=some (if S (p.fl.getD k 0)=true then flo N inits (HS.getD (cnt ops p S) []) k else .dead):=by
 unfold HnF;have e1:((HS.getD (cnt ops p S) []).take N).length=N:=by rw[bMn,bNc hl]
 rw[bN8 aB,e1,show N+k-N=k by omega,bO4,List.getElem?_range hk]
 rfl
theorem aH5 {ρ ρ':Operand->AV} {n:Nat} {op:Op} (h:∀y∈op.operands,ρ' y=ρ y):aLe P ρ' n op=aLe P ρ n op:=by
 unfold aLe
 cases op<;>try rfl
 case buildSlice t l ps=>split<;>first|rfl|(rename_i e1;cases e1;done)|(rename_i e1 _;cases e1;done)|(rename_i e1 _ _;cases e1;done)|simp_all
 case box t x=>simp only[h x (by simp[Op.operands])]
 case makeSlice t l c=>simp only[h l (by simp[Op.operands]),h c (by simp[Op.operands])]
theorem aAd {ρ:Operand->AV} {G:HX} {op:Op} {q:Nat×List (List PV)} (h:aTv P ρ G op=some q):isE op=true:=by
 unfold aTv at h;split at h
 ·rfl
 ·cases h
theorem aGz {cf:bF} {m:Nat} {o:Oper} {T:List AV} {G G2 H':HX} {x:AV} (hE:isE o.op=false)(h:aL5 P cf m o T G j=some (x,H'))(hs:fT P T o.op x G2=true):aL5 P cf m o T G2 j=some (x,G2):=by
 unfold aL5 at h⊢;split at h
 ·rename_i f args types hop;rw[hop] at hE;simp[isE] at hE
 ·rename_i nc;split at h
  ·rename_i hu;split at h
   ·rename_i sz ys hx;exfalso;have hk:=aAd hx;rw[hE] at hk;cases hk
   ·rename_i hxn
    have hxn2:aTv P (aev T) G2 o.op=none:=by
     cases hq:aTv P (aev T) G2 o.op with
     |none=>rfl
     |some q=>
      have hk:=aAd hq;rw[hE] at hk;cases hk
    split at h
    ·rename_i y H2 hx;split at h
     ·simp only[bM0,bMf] at h;obtain⟨rfl,rfl⟩:=h
      have hx2:sC P (aev T) G2 o.op=some (y,G2):=by
       by_cases hl:∃t a,o.op= .load t a
       ·obtain⟨t,a,hop⟩:=hl;rw[hop] at hs⊢;simp only[fT] at hs;split at hs
        ·rename_i z hz;have e:=xZ hs;subst e;simp only[sC,hz,bN2]
        ·cases hs
       ·exact(uO (G:=G2) hE (fun t a e=>hl ⟨t,a,e⟩) hx).2
      rw[hu,if_pos rfl,hxn2];simp only[hx2];simp
     ·cases h
    ·cases h
  ·cases h
theorem aS6 {cf:bF} (hcf:gJ P (Gl lt) cf)(hG:Gl lt j ks) {ops:Array Oper} {p:Pl} {N:Nat} {T0:List AV} {R:RS} {D:List AD} (hok:OkR ops p)(spec:∀a,a<ops.size->Spec P cf ops p N j T0 R a)(hD:dU N D=true)
  (hU:∀c,c<=cnt ops p (fun j=>decide (j<ops.size))->(R.HS.getD c []).length=N+p.fl.length/\∀k,k<=p.fl.length->(eP N R.inits k (R.HS.getD c [])).all (fV lt (N+k))=true)
  (hP:∀i T op x,(i,T,op,x)∈R.pend->∀c,c<=cnt ops p (fun j=>decide (j<ops.size))->(List.range ops.size).countP (fun j=>p.chain ops j&& p.pre i j)<=c->c<=(List.range ops.size).countP (fun j=>p.chain ops j&& !p.pre j i)->fT P T op x (eP N R.inits (p.pc i) (R.HS.getD c []))=true)
  (hdead:∀c k,c<=cnt ops p (fun j=>decide (j<ops.size))->k<p.fl.length->(R.HS.getD c []).getD (N+k) .dead≠ .dead->∃i,i<ops.size/\p.chain ops i=true/\cnt ops p (fun x=>decide (x<i))<c/\p.pre i (p.fl.getD k 0)=true)
  (hpc:∀i,i<ops.size->p.pc i<=p.fl.length) {rd:Option Nat} {nb:Nat} {k:List It} {Q:AX->List AV->Heap->List AD->Prop}
  (r:Run P rd nb k ((TnF ops T0 R.xs fun j=>decide (j<ops.size)).map (io ks)) (iH ks (HnF ops p N R.HS R.inits fun j=>decide (j<ops.size))) (D.map (ioD ks)) Q):
  ∀(fuel:Nat) (listed:Array Bool),listed.size=ops.size->bEd ops p (fun i=>listed.getD i false)->(List.range ops.size).countP (fun i=>listed.getD i false)+fuel=ops.size->
   ∀E w a,St E w a ((TnF ops T0 R.xs fun i=>listed.getD i false).map (io ks)) (iH ks (HnF ops p N R.HS R.inits fun i=>listed.getD i false)) (D.map (ioD ks))->(∀q f,p.fl[q]?=some f->listed.getD f false=false->E.g (N+q)=none)->
    wpAnyIn (fen rd) 0 P .any ops (K P rd (Post nb Q E (iH ks (HnF ops p N R.HS R.inits fun i=>listed.getD i false)) w) k) fuel listed a w:=by
 intro fuel
 induction fuel with
 |zero=>
  intro listed hsz hdn hcount E w a s hg
  have hall:∀i,i<ops.size->listed.getD i false=true:=by
   have h1:(List.range ops.size).countP (fun i=>listed.getD i false)=(List.range ops.size).length:=by rw[List.length_range];omega
   have:=List.countP_eq_length.1 h1;exact fun i hi=>this i (bN6.2 hi)
  refine⟨?_,?_⟩
  ·rw[List.eq_nil_iff_forall_not_mem];intro i hi;obtain⟨h0,o,ho,_⟩:=mem_ready.1 hi;have hi:=(bN9.1 ho).1;have:=hall i hi;simp[hsz,hi] at h0 this;rw[h0] at this;cases this
  ·rw[aU1 hall] at s
   have eS:HnF ops p N R.HS R.inits (fun i=>listed.getD i false)=HnF ops p N R.HS R.inits fun j=>decide (j<ops.size):=by
    have ec:cnt ops p (fun i=>listed.getD i false)=cnt ops p fun j=>decide (j<ops.size):=Nat.le_antisymm (xR fun i hi _=>by simpa using hi) (xR fun i hi _=>hall i hi)
    unfold HnF;rw[ec]
    congr 1
    refine List.map_congr_left fun q hq=>?_
    have hq:=bN6.1 hq;have hf:p.fl[q]?=some p.fl[q]:=bLv hq;have hf2:p.fl.getD q 0=p.fl[q]:=by simp[List.getD,hf]
    have hlt:=hok.flt _ (bLy hq);rw[hf2];show(if listed.getD p.fl[q] false=true then _ else _)=_;rw[hall _ hlt];simp[hlt]
   rw[eS] at s⊢;exact r E w a s
 |succ fuel ih=>
  intro listed hsz hdn hcount E w a s hg;obtain⟨S,hS⟩:∃S:Nat->Bool,S=fun i=>listed.getD i false:=⟨_,rfl⟩
  rw[<-hS] at s hdn hcount⊢;have hSx:∀i,listed.getD i false=S i:=fun i=>by rw[hS]
  refine⟨fun hnil=>?_,fun i hi=>?_⟩
  ·--one is ready
   exfalso
   have key:∀i,i<ops.size->S i=true:=by
    intro i
    induction i using Nat.strongRecOn with
    |_ i ihi=>
     intro hi
     cases e:S i with
     |true=>rfl
     |false=>
      exfalso
      have:i∈Region.ready .any ops listed:=by
       refine mem_ready.2 ⟨?_,ops[i],bOj hi,fun e' he' hb=>?_⟩
       ·have:=hSx i;rw[e] at this;simp[hsz,hi] at this⊢;exact this
       ·obtain⟨h1,_⟩:=hok.back i ops[i] (bOj hi) e' he' hb;rw[hSx];exact ihi e'.on h1 aB
      rw[hnil] at this;cases this
   have:(List.range ops.size).countP S=(List.range ops.size).length:=List.countP_eq_length.2 fun x hx=>key x (bN6.1 hx)
   rw[List.length_range] at this;omega
  ·obtain⟨h0,o,ho,hall⟩:=mem_ready.1 hi;have hlt:=(bN9.1 ho).1
   have hSi:S i=false:=by
    rw[<-hSx];simp[hsz,hlt] at h0⊢;exact h0
   have hp:∀x,x<ops.size->p.pre i x=true->S x=true:=by
    intro x hx hpx;obtain⟨e,he,hb,hc⟩:=hok.edge i x o ho hpx hx;have h1:=hall e he hb;rw[hSx] at h1;rcases hc with rfl|hc
    ·exact h1
    ·exact hdn e.on x (by have:=(hok.back i o ho e he hb).1;omega) hx h1 hc
   have hS':(fun x=>(listed.setIfInBounds i true).getD x false)=fun x=>S x||x==i:=by
    funext x
    rw[hS]
    by_cases e:x=i
    ·subst e;simp[hsz,hlt]
    ·have:(x==i)=false:=by simpa using e
     simp only[this,Bool.or_false];simp[Ne.symm e]
   have hdn':bEd ops p fun x=>S x||x==i:=by
    intro x y hx hy hsx hpr;simp only[bNe,beq_iff_eq] at hsx⊢;rcases hsx with hsx|rfl
    ·exact .inl (hdn x y hx hy hsx hpr)
    ·exact .inl (hp y hy hpr)
   have hcount':(List.range ops.size).countP (fun x=>S x||x==i)+fuel=ops.size:=by
    have:=mX (f:=S) (g:=fun x=>S x||x==i) (a:=i) (l:=List.range ops.size) List.nodup_range (bN6.2 hlt) hSi aA (fun x _ hx=>by
     have:(x==i)=false:=by simpa using hx
     simp[this])
    omega
   have hcle:∀S:Nat->Bool,cnt ops p S<=cnt ops p fun j=>decide (j<ops.size):=fun S=>xR fun i hi _=>by simpa using hi
   obtain⟨v1,v2⟩:=hU (cnt ops p S) (hcle S);obtain⟨v1',_⟩:=hU (cnt ops p fun x=>S x||x==i) (hcle _);have hN:N<=(R.HS.getD (cnt ops p S) []).length:=by rw[v1];omega
   have hN':N<=(R.HS.getD (cnt ops p fun x=>S x||x==i) []).length:=by rw[v1'];omega
   --what comes behind
   have next:∀E2 w2 a2,St E2 w2 a2 ((TnF ops T0 R.xs fun x=>S x||x==i).map (io ks)) (iH ks (HnF ops p N R.HS R.inits fun x=>S x||x==i)) (D.map (ioD ks))->(∀q f,p.fl[q]?=some f->(S f||f==i)=false->E2.g (N+q)=none)->
     Fr E (Heap.at (iH ks (HnF ops p N R.HS R.inits S))) w E2 (Heap.at (iH ks (HnF ops p N R.HS R.inits fun x=>S x||x==i))) w2->
     wpAnyIn (fen rd) 0 P .any ops (K P rd (Post nb Q E (iH ks (HnF ops p N R.HS R.inits S)) w) k) fuel (listed.setIfInBounds i true) a2 w2:=by
    intro E2 w2 a2 s2 hg2 hfr;have:=ih (listed.setIfInBounds i true) (by simp[hsz]) (by rw[hS'];exact hdn') (by rw[hS'];exact hcount') E2 w2 a2 (by rw[hS'];exact s2) (fun q f hf hl=>hg2 q f hf (by rw[<-congrFun hS' f];exact hl));rw[hS'] at this;exact wpAny_post (K_mono (P:=P) (rd:=rd) (Post.of_fr (Q:=Q) hfr) k) fuel _ _ _ this
   have hgS:∀q f,p.fl[q]?=some f->S f=false->E.g (N+q)=none:=fun q f hf hl=>hg q f hf (by rw[hSx];exact hl)
   have hlook:∀d∈o.looksAt ops,tget (TnF ops T0 R.xs S) d=tget (TnF ops T0 R.xs fun x=>decide (x<i)) d:=fun d hd=>aP5 hok hdn ho hp hSi hd
   have hnofl:p.fl.contains i=false->∀q,q<p.fl.length->(S (p.fl.getD q 0)||p.fl.getD q 0==i)=S (p.fl.getD q 0):=by
    intro hf q hq;have hf1:p.fl[q]?=some p.fl[q]:=bLv hq;have hf2:p.fl.getD q 0=p.fl[q]:=by simp[List.getD,hf1]
    have:p.fl.getD q 0≠i:=by
     rw[hf2];rintro rfl;have:=bOf.2 (bLy hq);rw[hf] at this;cases this
    have:(p.fl.getD q 0==i)=false:=by simpa using this
    rw[this,Bool.or_false]
   --an operation beside the blocks that it does not know
   have cutCase:∀(H':HX),p.fl.contains i=false->awanted ops (TnF ops T0 R.xs fun x=>decide (x<i)) o=some true->aL5 P cf (N+p.pc i) o (TnF ops T0 R.xs fun x=>decide (x<i)) (eP N R.inits (p.pc i) (R.HS.getD (cnt ops p S) [])) j=some (R.xs.getD i .junk,H')->
     HnF ops p N R.HS R.inits (fun x=>S x||x==i)=H'++(HnF ops p N R.HS R.inits S).drop (N+p.pc i)->
     wpOpIn (fen rd) 0 P ops (K P rd (Post nb Q E (iH ks (HnF ops p N R.HS R.inits S)) w) k) i (wpAnyIn (fen rd) 0 P .any ops (K P rd (Post nb Q E (iH ks (HnF ops p N R.HS R.inits S)) w) k) fuel (listed.setIfInBounds i true)) a w:=by
    intro H' hf hw hx hH;have hpi:=hpc i hlt;have htk:(HnF ops p N R.HS R.inits S).take (N+p.pc i)=eP N R.inits (p.pc i) (R.HS.getD (cnt ops p S) []):=pH hpi hN fun q f hq hf=>hp f (hok.flt f (bMa hf)) ((hok.fl i q f hlt hf).2 hq)
    have hgl:(eP N R.inits (p.pc i) (R.HS.getD (cnt ops p S) [])).length=N+p.pc i:=by
     rw[<-htk,bMn,aAo hN];omega
    obtain⟨e1,e2⟩:=aL6 (ks:=ks) hcf hG hlook hw hx;have hsplit:HnF ops p N R.HS R.inits S=eP N R.inits (p.pc i) (R.HS.getD (cnt ops p S) [])++(HnF ops p N R.HS R.inits S).drop (N+p.pc i):=by rw[<-htk,bN5]
    have s':=s;rw[hsplit] at s';refine aPi (lt:=lt) (j:=j) hG ho hgl (v2 _ hpi) (lF aB hD) s' e2 e1 fun E2 w1 a1 s2 fr2 hg2=>?_
    rw[<-hsplit] at fr2;rw[<-hH] at s2 fr2;rw[<-uP hok ho] at s2;refine next E2 w1 a1 s2 (fun q f hf' hl=>?_) fr2;simp only[bNn] at hl
    have hq:p.pc i<=q:=by
     rcases bNi q (p.pc i) with l|l
     ·have:=hp f (hok.flt f (bMa hf')) ((hok.fl i q f hlt hf').2 l);rw[hl.1] at this;cases this
     ·exact l
    rw[hg2 (N+q) aB];exact hgS q f hf' hl.1
   rcases spec i hlt with ⟨o',ho',hf,hw,hx,hH⟩|⟨o',ho',q,cs,hf,hw,hx,hin⟩|⟨o',ho',hf,hw,hc,H',hx,hH,ha⟩|⟨o',ho',hf,hw,hc,G0,H',hx,hpd⟩
   ·--not wanted
    rw[ho] at ho';cases ho';have hw':awanted ops ((TnF ops T0 R.xs S).map (io ks)) o=some false:=cI _ _ _ (by rw[hY hlook];exact hw)
    have hHs:HnF ops p N R.HS R.inits (fun x=>S x||x==i)=HnF ops p N R.HS R.inits S:=by
     have hV:R.HS.getD (cnt ops p fun x=>S x||x==i) []=R.HS.getD (cnt ops p S) []:=by
      by_cases hc:p.chain ops i=true
      ·rw[aB5 hlt hSi hc,xQ hok hdn hlt hc hp hSi];exact hH hc
      ·rw[oZ (by simpa using hc)]
     unfold HnF;rw[hV];exact y5l
    unfold wpOpIn;simp only[ho];rw[awanted_sound s hw'];simp only[bMe,if_false];refine⟨fun _ _=>trivial,next E w _ ?_ (fun q f hf' hl=>?_) (by rw[hHs];exact Fr.refl _ _ _)⟩
    ·rw[hHs,uP hok ho,hx,<-tput_io,io_tup,bNb];exact s.put (by simp only[Rep,RepL];exact⟨[],rfl,rfl⟩) o.dst
    ·simp only[bNn] at hl;exact hgS q f hf' hl.1
   ·--a block whose place is open
    rw[ho] at ho';cases ho';have hq:q<p.fl.length:=(bLw.1 hf).1;have hf2:p.fl.getD q 0=i:=by simp[List.getD,hf]
    have hnc:p.chain ops i=false:=by
     unfold Pl.chain;rw[ho];simp only[bOf.2 (bMa hf),bOo,Bool.and_false]
    have hcS:cnt ops p (fun x=>S x||x==i)=cnt ops p S:=oZ hnc;have hw':awanted ops ((TnF ops T0 R.xs S).map (io ks)) o=some true:=cI _ _ _ (by rw[hY hlook];exact hw)
    have hx':aLe P (aev (TnF ops T0 R.xs S)) (N+q) o.op=some (R.xs.getD i .junk,cs):=by
     rw[aH5 fun y hy=>aev_congr hlook hy];exact hx
    have hVd:(R.HS.getD (cnt ops p S) []).getD (N+q) .dead= .dead:=by
     cases e:(R.HS.getD (cnt ops p S) []).getD (N+q) .dead with
     |dead=>rfl
     |_=>
      exfalso;obtain⟨y,y1,y2,y3,y4⟩:=hdead _ q (hcle S) hq (by rw[e];simp);rw[hf2] at y4
      have hyS:S y=true:=by
       cases ey:S y with
       |true=>rfl
       |false=>
        exfalso
        have:cnt ops p S<=cnt ops p fun x=>decide (x<y):=by
         unfold cnt;refine List.countP_mono_left fun x hx hs=>?_
         simp only[bM8,bMi] at hs⊢;refine⟨hs.1,?_⟩;have hx:=bN6.1 hx;rcases Nat.lt_trichotomy x y with l|l|l
         ·exact l
         ·subst l;rw[ey] at hs;cases hs.2
         ·have:=hdn x y hx y1 hs.2 (hok.chain x y hx l hs.1 y2);rw[ey] at this;cases this
        omega
      have:=hdn y i y1 hlt hyS y4;rw[hSi] at this;cases this
    have hfl:flo N R.inits (R.HS.getD (cnt ops p S) []) q= .cells cs:=by
     unfold flo;rw[hVd];exact hin
    have hat0:(HnF ops p N R.HS R.inits S)[N+q]?=some .dead:=by
     rw[bAd hN hq,hf2,hSi];rfl
    have hHs:HnF ops p N R.HS R.inits (fun x=>S x||x==i)=(HnF ops p N R.HS R.inits S).set (N+q) (.cells cs):=by
     have e1:((R.HS.getD (cnt ops p S) []).take N).length=N:=by rw[bMn,bNc hN]
     unfold HnF;rw[hcS,bNf _ _ aB,e1,show N+q-N=q by omega]
     congr 1
     apply bNj;intro y;rw[List.getElem?_set,bO4,bO4,bMp,List.length_range]
     by_cases hy:q=y
     ·subst hy;rw[if_pos rfl,if_pos hq,List.getElem?_range hq,bN2];show some (if(S (p.fl.getD q 0)||p.fl.getD q 0==i)=true then _ else _)=_;rw[hf2,hfl];simp
     ·rw[if_neg hy]
      by_cases hy2:y<p.fl.length
      ·rw[List.getElem?_range hy2,bN2,bN2]
       congr 1
       show(if(S (p.fl.getD y 0)||p.fl.getD y 0==i)=true then _ else _)=_
       have:p.fl.getD y 0≠i:=by
        intro e;have hy3:p.fl.getD y 0=p.fl[y]:=by simp[List.getD,hy2]
        have hq3:p.fl.getD q 0=p.fl[q]:=by simp[List.getD,hq]
        rw[hy3] at e;rw[hq3] at hf2;exact hy ((List.getElem_inj hok.nd).1 (hf2.trans e.symm))
       have:(p.fl.getD y 0==i)=false:=by simpa using this
       rw[this,Bool.or_false]
      ·rw[bNz (by rw[List.length_range];omega)];rfl
    have hln:(iH ks (HnF ops p N R.HS R.inits S)).length=N+p.fl.length:=by rw[bJ,aAo hN]
    refine aLf ho s hw' hx' (by rw[hln];omega) (by rw[lC hat0];rfl) (hgS q i hf hSi) fun E2 w2 v g1 g2 g3 g4 g5=>?_
    have e2:(iH ks (HnF ops p N R.HS R.inits S)).set (N+q) (some (.cells (cs.map (io ks))))=iH ks (HnF ops p N R.HS R.inits fun x=>S x||x==i):=by
     rw[hHs,<-jK];rfl
    rw[e2] at g1 g4
    have g2':Fresh E2 (iH ks (HnF ops p N R.HS R.inits fun x=>S x||x==i)).length:=by
     rw[bJ,hHs,bNu,<-bJ ks];exact g2
    refine next E2 w2 _ ?_ (fun q' f hf' hl=>?_) g4
    ·rw[uP hok ho,<-tput_io];exact(s.move g4 g1 g2').put g3 o.dst
    ·simp only[bNn,beq_eq_false_iff_ne,ne_eq] at hl
     have hne:q'≠q:=by
      rintro rfl;rw[hf] at hf';simp only[bM0] at hf';exact hl.2 hf'.symm
     rw[g5 (N+q') aB];exact hgS q' f hf' hl.1
   ·--one of the chain
    rw[ho] at ho';cases ho';have ec:=xQ hok hdn hlt hc hp hSi;rw[<-ec] at hx hH;have hpi:=hpc i hlt;refine cutCase H' hf hw hx ?_;have hcS:cnt ops p (fun x=>S x||x==i)=cnt ops p S+1:=aB5 hlt hSi hc
    have hgl:(eP N R.inits (p.pc i) (R.HS.getD (cnt ops p S) [])).length=N+p.pc i:=by
     unfold eP;rw[bM5,bMn,bNc hN,bMp,List.length_range]
    have hHl:H'.length=N+p.pc i:=by rw[(aL6 (ks:=ks) hcf hG hlook hw hx).1,hgl]
    have hV':R.HS.getD (cnt ops p fun x=>S x||x==i) []=H'++(R.HS.getD (cnt ops p S) []).drop (N+p.pc i):=by rw[hcS];exact hH
    have hbeh:∀q,p.pc i<=q->(R.HS.getD (cnt ops p fun x=>S x||x==i) []).getD (N+q) .dead=(R.HS.getD (cnt ops p S) []).getD (N+q) .dead:=by
     intro q hq
     have key:∀(V A:HX) (m n:Nat),A.length=m->m<=n->(A++V.drop m).getD n .dead=V.getD n .dead:=by
      intro V A m n h1 h2;rw[List.getD,List.getD,bN8 aB,h1,List.getElem?_drop,show m+(n-m)=n by omega]
     rw[hV'];exact key _ _ _ _ hHl aB
    have hdr:=aPm (ops:=ops) (p:=p) (HS:=R.HS) (inits:=R.inits) (S:=S) (S':=fun x=>S x||x==i) (m:=p.pc i) hN hN' rfl rfl (fun q hq hq2=>hnofl hf q hq2) hbeh
    have htk:(HnF ops p N R.HS R.inits fun x=>S x||x==i).take (N+p.pc i)=H':=by
     rw[pH hpi hN' fun q f hq hf'=>by
      show(S f||f==i)=true;rw[hp f (hok.flt f (bMa hf')) ((hok.fl i q f hlt hf').2 hq)];rfl]
     unfold eP;rw[hV',bMx aB]
     have e3:(List.range (p.pc i)).map (flo N R.inits (H'++(R.HS.getD (cnt ops p S) []).drop (N+p.pc i)))=H'.drop N:=by
      apply bNj;intro y;rw[bO4,List.getElem?_drop]
      by_cases hy:y<p.pc i
      ·rw[List.getElem?_range hy,bN2];have hyl:N+y<H'.length:=aB;rw[bLv hyl]
       congr 1
       unfold flo
       have e4:(H'++(R.HS.getD (cnt ops p S) []).drop (N+p.pc i)).getD (N+y) .dead=H'[N+y]:=by
        rw[List.getD,bM9 hyl,bLv hyl];rfl
       rw[e4]
       have hal:alive H'[N+y]=true:=by
        refine bMg.1 ha _ ?_;have:(H'.drop N)[y]?=some H'[N+y]:=by rw[List.getElem?_drop,bLv hyl]
        exact bMa this
       split
       ·rename_i e5;rw[e5] at hal;cases hal
       ·rfl
      ·rw[bNz (by rw[List.length_range];omega),bNz aB];rfl
     rw[e3,bN5]
    rw[<-hdr]
    conv=>lhs;rw[<-bN5 (N+p.pc i) (HnF ops p N R.HS R.inits fun x=>S x||x==i)]
    rw[htk]
   ·--one that only reads
    rw[ho] at ho';cases ho'
    have hE:isE o.op=false:=by
     unfold Pl.chain at hc;rw[ho] at hc;simpa only[hf,bO8,Bool.and_true] using hc
    have hpi:=hpc i hlt
    have hst:=hP i _ _ _ hpd (cnt ops p S) (hcle S)
     (by
      unfold cnt;refine List.countP_mono_left fun x hx hs=>?_
      simp only[bM8] at hs⊢;exact⟨hs.1,hp x (bN6.1 hx) hs.2⟩)
     (by
      unfold cnt;refine List.countP_mono_left fun x hx hs=>?_
      simp only[bM8,bN0] at hs⊢;refine⟨hs.1,?_⟩
      cases e:p.pre x i with
      |false=>rfl
      |true=>
       have:=hdn x i (bN6.1 hx) hlt hs.2 e;rw[hSi] at this;cases this)
    have hx':=aGz hE hx hst;refine cutCase _ hf hw hx' ?_;have htk:(HnF ops p N R.HS R.inits S).take (N+p.pc i)=eP N R.inits (p.pc i) (R.HS.getD (cnt ops p S) []):=pH hpi hN fun q f hq hf=>hp f (hok.flt f (bMa hf)) ((hok.fl i q f hlt hf).2 hq)
    rw[<-htk,bN5];unfold HnF;rw[oZ hc];exact y5l
end
end Go.AI.EV
namespace Go.AI
open Go Go.Shelf Go.Sort Go.Proofs
def bF3 (l:List Int):List (List PV):=l.map fun z=>[.prim (.int .i64 z)]
theorem aC5 (l:List Int):(bF3 l).length=l.length:=by simp[bF3]
end Go.AI
