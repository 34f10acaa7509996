import Derived.Test.YtplomildbmcmfaaGreatZA0
import Derived.Test.YtplomildbmcmfaaGreatZQCa
import Derived.Test.YtplomildbmcmfaaGreatZG1
import Derived.Test.YtplomildbmcmfaaGreatZE13
import Derived.Test.YtplomildbmcmfaaGreatZE7
import Derived.Test.YtplomildbmcmfaaGreatZFQ
import Derived.Test.YtplomildbmcmfaaGreatZFLB
set_option maxRecDepth 8000
set_option maxHeartbeats 16000000
namespace Go.Proofs.YtplomildbmcmfaaGreat
open Go Go.AI
def wS (env:List Dc)(c:Cl)(n:Int):Int:=
 if n<1\/16<n\/(c.ps.length:Int)≠n then 6
 else if eB env c.ps≠0 then eB env c.ps
 else if jA 3 c.ps=true/\sameT c.b zT=false then 3
 else if 200<(bT c.ps:Int) then 6
 else if jA 3 c.ps=true then 0
 else dK (bT c.ps) 8 0 0 c.b
theorem aMq (env:List Dc)(hg:Env.good env)(hn:Env.short env)(c:Cl)(hB:Pt.sizes c.ps<=1048576)(hb:c.b.good)(hnm:c.b.nm)(n:Int)(h:Heap)(hh:WF h):
  ACalls Tryz.prog 99 [eU env,c.av,iA n] h fun o h'=>o= .ret (iA (wS env c n))/\h'=h:=by
 have hl:=vS c.ps;have c1:=fun g hw=>aHj env hg hn _ c.ps (bLx _) hB g hw
 have c2:=fun g hw=>vQ 3 _ c.ps (bLx _) hB g hw
 have c3:=fun g hw=>aO8 _ c.b zT g (bLx _) (by have:=hb.1;omega) hb.2.2 hw
 have c4:=fun g hw=>aNa g hw c hB
 have c5:=fun g hw=>aI7 g hw c.b (bT c.ps) 8 0 0 hb.2.1 hnm (by have:=hb.1;omega)
 obtain⟨r,hr⟩:∃r,wS env c n=r:=⟨_,rfl⟩;rw[hr];unfold wS at hr;generalize eB env c.ps=e at c1 hr;generalize jA 3 c.ps=b1 at c2 hr;generalize sameT c.b zT=b2 at c3 hr;generalize (bT c.ps:Int)=m at c4 c5 hr;generalize dK m 8 0 0 c.b=z at c5 hr;obtain⟨ps,⟨k,i,nm,ls,ks⟩⟩:=c;simp only at hl hr c1 c2;have hzw:Weak (.agg zTm) zT.av:=Weak.zT;have c3:=fun g hw=>ACalls.weak (WeakL.cons (Weak.refl _) (WeakL.cons hzw WeakL.nil)) (c3 g hw)
 simp only[Cl.av,Cl.cells,cells_mk,List.map,Tm.av] at c3 c4 c5⊢;refine zER Tryz.func99 Tryz.ntmps99 ?_
 by_cases n1:n<1
 ·rw[if_pos (.inl n1)] at hr;subst hr;refine nU n1 ?_;exact y2a
 by_cases n2:16<n
 ·rw[if_pos (.inr (.inl n2))] at hr;subst hr;refine wP n1 n2 ?_;exact y2a
 by_cases n3:(ps.length:Int)=n
 rotate_left
 ·rw[if_pos (.inr (.inr n3))] at hr;subst hr;have n3b:((ps.length:Int) !=n)=true:=by simpa using n3
  refine aDh n1 n2 n3b ?_;exact y2a
 have n3b:((ps.length:Int) !=n)=false:=by simpa using n3
 rw[if_neg aB] at hr;refine zn ?_;refine zr3 n1 n2 n3b ?_;refine yl ?_;refine zL (c1 _ (hh.app aA)) ?_;refine zor ?_
 by_cases he:e=0
 rotate_left
 ·rw[if_pos he] at hr;subst hr;have heb:(e !=(0:Int))=true:=by simpa using he
  refine dV heb ?_;exact y2a
 subst he;rw[if_neg aA] at hr;refine aIr ?_;refine zL (c2 _ (hh.app aA)) ?_;refine zo ?_
 cases b1 with
 |true=>
  refine znr ?_;refine zL (c3 _ (hh.app aA)) ?_;refine zo ?_
  cases b2 with
  |false=>
   rw[if_pos ⟨rfl,rfl⟩] at hr;subst hr;refine aDj ?_;exact y2a
  |true=>
   refine aIr ?_;refine zL (c4 _ (hh.app aA)) ?_;refine zor ?_
   by_cases hm:200<m
   ·rw[if_neg aA,if_pos hm] at hr;subst hr;refine dV hm ?_;exact y2a
   rw[if_neg aA,if_neg hm] at hr;refine znf1r hm ?_;rw[if_pos rfl] at hr;subst hr;refine aDj ?_;exact y2a
 |false=>
  refine aAi ?_;refine zL (c4 _ (hh.app aA)) ?_;refine zor ?_
  by_cases hm:200<m
  ·rw[if_neg aA,if_pos hm] at hr;subst hr;refine dV hm ?_;exact y2a
  rw[if_neg aA,if_neg hm] at hr;refine znf1r hm ?_;rw[if_neg aA] at hr;subst hr;refine aIr ?_;refine zL (c5 _ (hh.app aA)) ?_;refine zox ?_;exact y2a
open Go Go.AI
theorem aGi (i:FuncId)(hi:aK Tryz.prog i=true)(cap:List AV)(ts xs:List Tm)(hx:xs.length=ts.length)(hl:ts.length<=1048576)(n:Nat)(Hs:Nat->Heap)(hHl:∀j,(Hs j).length=n)(hHw:∀j,WF (Hs j))
  (hcap:AV.underL n cap=true)
  (c:∀(j:Nat) (t x:Tm),ts[j]?=some t->xs[j]?=some x->∀L,WF (Hs j++L)->ACalls Tryz.prog i (t.av::cap) (Hs j++L) fun o h'=>o= .ret x.av/\h'=Hs (j+1)++L):
  ACalls Tryz.prog 165 [.p (.sl 5 (tmPs ts)), .fn (.func i) [] cap] (Hs 0) fun o h'=>o= .ret (.p (.sl 5 (tmPs xs)))/\h'=Hs ts.length:=by
 have g1:∀j (l:Heap),(Hs j++l)[n]?=l[0]?:=fun j l=>by rw[bN8 (by rw[hHl];omega),hHl,Nat.sub_self]
 have g2:∀j (l:Heap) o,(Hs j++l).set n o=Hs j++l.set 0 o:=fun j l o=>by rw[bNf _ _ (by rw[hHl];omega),hHl,Nat.sub_self]
 have g3:∀j (l:Heap),(Hs j++l)[n+1]?=l[1]?:=fun j l=>by rw[bN8 (by rw[hHl];omega),hHl];congr 1;omega
 have g4:∀j (l:Heap) o,(Hs j++l).set (n+1) o=Hs j++l.set 1 o:=fun j l o=>by rw[bNf _ _ (by rw[hHl];omega),hHl];congr 2;omega
 have hcap1:AV.underL (n+1) cap=true:=AV.underL_mono aB hcap;refine zE Tryz.func165 Tryz.ntmps165 ?_;refine nv ?_;rw[hHl];refine znrr ?_;refine Run.tok 5 5 aA ?_;simp[hHl];refine znr ?_;refine Run.loopS [0,1,8,9] (fun j:Nat=>j<=ts.length) (fun j=>ts.length-j) (fun j=>[(5, .own n 5 (tmPs (xs.take j))),(10,iA j)]) (fun j=>Hs j++[some (.tok j 5)]) 0 aA ?_ aA ?_
 ·simp[tmPs];exact zK
 intro j hj IH;refine cK ?_
 by_cases hjl:j<ts.length
 ·have hg:ts[j]?=some ts[j]:=bLv hjl;have hxl:j<xs.length:=aB;have hgx:xs[j]?=some xs[j]:=bLv hxl;have htk:xs.take (j+1)=xs.take j++[xs[j]]:=bM6 hxl;have c1:=c j _ _ hg hgx;have hlen:(xs.take j).length=j:=by simp;omega
  generalize ts[j]=t at hg c1;generalize xs[j]=x at hgx htk c1;obtain⟨t0,t1,t2,t3,t4⟩:=t;obtain⟨x0,x1,x2,x3,x4⟩:=x;simp only[Tm.av,cells_mk,List.map] at c1;have hb1:(j+1)*80<=140737488355328:=aB;have hb2:j+1<=9223372036854775807:=aB;refine znt1 hjl ?_;refine zr3 hg hHl g4 ?_;refine zr1 g3 ?_;refine rl (args:=[_]++cap) rfl rfl aA hi (c1 _ ((hHw j).app (by simp[hHl]))) ?_;refine zo5 g1 g2 hb1 hb2 hlen ?_;refine zr ?_;refine Run.keep [0,1,5,8,9,10] ?_;refine y1s ?_;simp;refine Run.cutAt (h0:=Hs (j+1)) 1 (hHw (j+1)) rfl (by rw[hHl];omega) aA (by simp[hHl,hcap1]) (by simp[hHl]) rfl ?_;simp;refine IH (j+1) _ _ aB aB ?_ ?_
  ·rw[htk,tmPs_snoc];exact zS
  ·simp
 ·have hje:j=ts.length:=aB;subst hje;rw[bM7 aB];refine znfenrx ?_;exact Fin.ret' (h0:=Hs ts.length) (xs:=[.own n 5 (tmPs xs)]) aA (hHl _) (hHw _) rfl aA rfl (Weak.own _ _ _) aA ⟨rfl,rfl⟩
open Go Go.AI
theorem WF.at_ {h:Heap} (hh:WF h) {i:Nat} {o:Option AO} (hi:h[i]?=some o):AO.under h.length o=true:=by
 unfold WF at hh;rw[bMg] at hh;exact hh o (bMa hi)
def shL:Int->List Tm->List Tm
 |_,[]=>[]
 |n,t::ts=>(bW n 0 t).1::shL (n-1) ts
theorem aI2 (n:Int)(ts:List Tm):(shL n ts).length=ts.length:=by
 induction ts generalizing n with
 |nil=>rfl
 |cons t ts ih=>simp[shL,ih]
theorem aXg (n:Int)(ts:List Tm)(j:Nat):(shL n ts)[j]?=(ts[j]?).map fun t=>(bW (n-j) 0 t).1:=by
 induction ts generalizing n j with
 |nil=>rfl
 |cons t ts ih=>
  cases j with
  |zero=>simp[shL]
  |succ j=>
   rw[shL,bMs,bMs,ih,show n-1-(j:Int)=n-((j+1:Nat):Int) by omega]
theorem aCu (t:Tm)(b:Int)(hb:-100000<=b/\b<=100000)(hd:Dom 65536 t 0)(he:(bW b 0 t).2=0)(H L:Heap)(p:Nat)(hh:WF (H++[some (.cells [iA b])]++L))(hp:p=H.length):
  ACalls Tryz.prog 166 [t.av, .ptr p 0] (H++[some (.cells [iA b])]++L) fun o h'=>o= .ret (bW b 0 t).1.av/\h'=H++[some (.cells [iA (b-1)])]++L:=by
 subst hp;have c1:=fun g hw=>aNr g hw t b 0 aB aB aB hd
 have hw:IntKind.i64.wrap (b-1)=b-1:=wrap_id aB aB;generalize bW b 0 t=r at he c1⊢;obtain⟨x,e⟩:=r;simp only at he;subst he;have c2:=fun g hw=>aMd g hw x
 have hg0:(H++[some (AO.cells [iA b])]++L)[H.length]?=some (some (AO.cells [iA b])):=aA;obtain⟨g1,g2,g3,g4,g5,hlt⟩:=idf hg0
 have hs:(H++[some (AO.cells [iA b])]++L).set H.length (some (AO.cells [iA (b-1)]))=H++[some (AO.cells [iA (b-1)])]++L:=by
  rw[bMj,bNf _ _ aB,Nat.sub_self];simp
 obtain⟨hh1,e1⟩:∃G,(H++[some (AO.cells [iA b])]++L)=G:=⟨_,rfl⟩;rw[e1] at hh hg0 g1 g2 g3 g4 g5 hlt hs⊢;obtain⟨t0,t1,t2,t3,t4⟩:=t;obtain⟨x0,x1,x2,x3,x4⟩:=x;simp only[Tm.av,cells_mk,List.map] at c1 c2⊢;refine zE Tryz.func166 Tryz.ntmps166 ?_;refine wQ g1 ?_;refine zL (c1 _ (hh.app aA)) ?_;refine zo ?_;refine zL (c2 _ (hh.app aA)) ?_;refine zo ?_;refine zr3 g1 g2 hw ?_;refine zr ?_;refine zx ?_;exact Fin.ret' (h0:=hh1.set H.length (some (.cells [iA (b-1)]))) aA aA (show WF (hh1.set H.length (some (.cells [iA (b-1)]))) from hh.set aA) rfl aE rfl (Weak.refl _) aA ⟨rfl,hs⟩
def bEf (n:Int)(ts:List Tm):Prop:=∀(j:Nat)(t:Tm),ts[j]?=some t->Dom 65536 t 0/\(bW (n-j) 0 t).2=0
theorem rK (ts:List Tm)(n:Int)(hn:(ts.length:Int)=n)(hl:ts.length<=100000)(hok:bEf n ts)(H:Heap)(hh:WF H)(pa pt pp:Nat)(hpa:H[pa]?=some (some (.cells [iA n])))(hpt:H[pt]?=some (some (.cells [.p (.sl 5 (tmPs ts))]))) {a b c d e f g i:AV} (hpp:H[pp]?=some (some (.cells [a,b,c,d,e,f,g,i]))):
  ACalls Tryz.prog 164 [.ptr pa 0, .ptr pt 0, .ptr pp 0] H fun o h'=>o= .ret (.tup [])/\h'=H.set pp (some (.cells [.p (.sl 5 (tmPs (shL n ts))),b,c,d,e,f,g,i])):=by
 have hal:=(bLw.1 hpa).1;have htl:=(bLw.1 hpt).1;have hpl:=(bLw.1 hpp).1
 have c1:=aGi 166 aC [.ptr H.length 0] ts (shL n ts) (aI2 n ts) aB (H.length+1) (fun j=>H++[some (.cells [iA (n-j)])]) aA (fun j=>hh.app aA) aA (fun j t x ht hx L hw=>by
  have hj:=(bLw.1 ht).1;rw[aXg,ht] at hx;simp only[bN2,bM0] at hx;subst hx;have:=aCu t (n-j) aB (hok j t ht).1 (hok j t ht).2 H L H.length hw rfl;rw[show n-(j:Int)-1=n-((j+1:Nat):Int) by omega] at this;exact this)
 simp only[Int.natCast_zero,Int.sub_zero,hn] at c1;have g1:∀l:Heap,(H++l)[pp]?=some (some (.cells [a,b,c,d,e,f,g,i])):=fun l=>by rw[bM9 hpl];exact hpp
 have g2:∀(l:Heap) o,(H++l).set pp o=H.set pp o++l:=fun l o=>bMq _ _ hpl
 have g3:∀l:Heap,(H++l)[pt]?=some (some (.cells [.p (.sl 5 (tmPs ts))])):=fun l=>by rw[bM9 htl];exact hpt
 have g4:∀l:Heap,(H++l)[pa]?=some (some (.cells [iA n])):=fun l=>by rw[bM9 hal];exact hpa
 refine zE Tryz.func164 Tryz.ntmps164 ?_;refine sD hpa ?_;refine zr1 g3 ?_;refine rl (args:=[_, .fn (.func 166) [] [.ptr H.length 0]]) rfl rfl aA rfl c1 ?_;refine bLl g1 g2 ?_;refine Run.nil ?_;exact Fin.ret' (h0:=H.set pp (some (.cells [.p (.sl 5 (tmPs (shL n ts))),b,c,d,e,f,g,i]))) aA aA (hh.set (by have:=WF.at_ hh hpp;simp at this;simp[this])) rfl rfl rfl (Weak.refl _) rfl ⟨rfl,rfl⟩
def aFg (N:Nat):List (List PV):=List.replicate N [iP 0,iP 0,sP [], .prim (.slice none 0 0), .prim (.slice none 0 0)]
def aEa (N:Nat):List (List PV):=List.replicate N [bP false]
theorem wO (N:Nat):∀e∈aFg N,e.length=5:=fun e he=>by rw[List.eq_of_mem_replicate he];rfl
theorem vG (N:Nat):∀e∈aEa N,e.length=1:=fun e he=>by rw[List.eq_of_mem_replicate he];rfl
theorem aWf (N:Nat):aEa N=bEg (List.replicate N false):=by simp[aEa,bEg]
theorem jN {α β:Type} (f:α->β)(N:Nat)(l:List α):((List.replicate N l).flatten).map f=(List.replicate N (l.map f)).flatten:=by
 rw[List.map_flatten,List.map_replicate]
theorem aSx (N:Nat):(List.replicate N [AV.p (.prim (.int .i64 0)),AV.p (.prim (.int .i64 0)),AV.p (.prim (.string ⟨#[]⟩)),AV.p (.prim (.slice none 0 0)),AV.p (.prim (.slice none 0 0))]).flatten=buf 5 (aFg N) 0:=by
 simp only[buf,aFg,Nat.zero_mul,List.replicate_zero,bM1,jN]
 rfl
theorem aPz (N:Nat):List.replicate N (AV.p (.prim (.bool false)))=buf 1 (aEa N) 0:=by
 simp[buf,aEa,bP]
theorem aAe:∀N:Nat,WeakPs (aFg N) (tmPs (List.replicate N zT))
 |0=>WeakPs.nil
 |N+1=>by
  have:=aAe N;unfold aFg at this⊢;simp only[bN3,tmPs,zT,cells_mk];refine WeakPs.cons ?_ this
  repeat' (first|exact WeakPL.nil|apply WeakPL.cons)
  all_goals first|exact WeakP.refl _|exact WeakP.nil _
def stP (t:Tm)(n:Int):Pb×Int:=
 if(aU t n).2.2≠0 then(zPb,(aU t n).2.2) else(⟨shL n (aU t n).1,List.replicate n.toNat false,List.replicate n.toNat zT,(aU t n).2.1⟩,0)
abbrev bLf:List AV:=[.p (.prim (.slice none 0 0)), .p (.prim (.slice none 0 0)), .p (.prim (.slice none 0 0)),iA 0,iA 0, .p (sP []), .p (.prim (.slice none 0 0)), .p (.prim (.slice none 0 0))]
theorem aSw:Weak (.agg bLf) zPb.av:=by
 refine Weak.agg (show WeakL bLf [.p (.sl 5 []), .p (.sl 1 []), .p (.sl 5 []),iA 0,iA 0, .p (sP []), .p (.sl 2 []), .p (.sl 5 [])] from ?_);exact zK
theorem aI5 (ts:List Tm)(n:Int)(hn:(ts.length:Int)=n)(hl:ts.length<=100000)(hok:bEf n ts)(H:Heap)(hh:WF H)(pa pt pp:Nat) {a b c d e f g i:AV} (hpp:H[pp]?=some (some (.cells [a,b,c,d,e,f,g,i])))(hpa:H[pa]?=some (some (.cells [iA n])))(hpt:H[pt]?=some (some (.cells [.p (.sl 5 (tmPs ts))]))):
  ACalls Tryz.prog 163 [.fn (.func 164) [] [.ptr pa 0, .ptr pt 0, .ptr pp 0]] H fun o h'=>o= .ret (iA 0)/\h'=H.set pp (some (.cells [.p (.sl 5 (tmPs (shL n ts))),b,c,d,e,f,g,i])):=by
 have hal:=(bLw.1 hpa).1;have htl:=(bLw.1 hpt).1;have hpl:=(bLw.1 hpp).1;have hu:=WF.at_ hh hpp;have hw:WF (H.set pp (some (.cells [.p (.sl 5 (tmPs (shL n ts))),b,c,d,e,f,g,i]))):=hh.set (by simp at hu;simp[hu]);have c:=rK ts n hn hl hok (H++[some (.cells [iA 0])]) (hh.app aA) pa pt pp (by rw[bM9 hal];exact hpa) (by rw[bM9 htl];exact hpt) (by rw[bM9 hpl];exact hpp);rw[bMq _ _ hpl] at c;exact yK 164 aC _ H _ hw aA hh (by simp[hal,htl,hpl]) c
theorem aCt (h:Heap)(hh:WF h)(t:Tm)(n:Int)(hsz:t.size<=1048576)(hn2:n<=9223372036854775807)(hl:(aU t n).1.length<=100000)
  (hlen:(aU t n).2.2=0->((aU t n).1.length:Int)=n) (hok:(aU t n).2.2=0->bEf n (aU t n).1):
  ACalls Tryz.prog 100 [t.av,iA n] h fun o h'=>o= .ret (.tup [(stP t n).1.av,iA (stP t n).2])/\h'=h:=by
 have c1:=fun g hw=>aHf g hw t n hsz hn2
 obtain⟨r,hr⟩:∃r,stP t n=r:=⟨_,rfl⟩;rw[hr];unfold stP at hr;generalize aU t n=q at c1 hl hlen hok hr;obtain⟨tel,ed,e⟩:=q;simp only at c1 hl hlen hok hr;obtain⟨k,i,nm,ls,ks⟩:=t;obtain⟨d0,d1,d2,d3,d4⟩:=ed;simp only[Tm.av,cells_mk,List.map] at c1⊢
 by_cases he:e=0
 rotate_left
 ·rw[if_pos he] at hr;subst hr;have heb:(e !=(0:Int))=true:=by simpa using he
  refine dE Tryz.func100 Tryz.ntmps100 ?_;refine zL (c1 _ (hh.app aA)) ?_;refine aDk heb ?_;exact Fin.ret' (h0:=h) (xs:=[.agg bLf,iA e]) aA rfl hh rfl aA rfl (Weak.tup (WeakL.cons aSw (WeakL.refl _))) (by simp[zT]) ⟨rfl,rfl⟩
 subst he;rw[if_neg aA] at hr;have hlen:=hlen rfl;have hok:=hok rfl;obtain⟨N,rfl⟩:∃N:Nat,n=N:=⟨tel.length,hlen.symm⟩;have hNl:tel.length=N:=aB;have hm1:N<=140737488355328:=aB;have hm2:N<=1099511627776:=aB;have hm3:N*80<=140737488355328:=aB;have hm4:N*24<=140737488355328:=aB;have c2:=fun(H:Heap) (hw:WF H)=>rK tel N hlen hl hok H hw
 refine dE Tryz.func100 Tryz.ntmps100 ?_;refine zL (c1 _ (hh.app aA)) ?_;refine zor ?_;refine zf ?_;have hb1:∀n,AV.underL n (buf 1 (aEa N) 0)=true:=fun n=>by simp only[buf,Nat.zero_mul,List.replicate_zero,bM1];exact underL_p _ _
 have hb2:∀n,AV.underL n (buf 5 (aFg N) 0)=true:=fun n=>by simp only[buf,Nat.zero_mul,List.replicate_zero,bM1];exact underL_p _ _
 have hwk:Weak (.tup [.agg (.p (.sl 5 (tmPs (shL N tel))):: .p (.sl 1 (aEa N)):: .p (.sl 5 (aFg N))::[iA d0,iA d1, .p (sP d2), .p (.sl 2 (lvPs d3)), .p (.sl 5 (tmPs d4))]),iA 0]) (.tup [r.1.av,iA r.2]):=by
  subst hr;refine Weak.tup (WeakL.cons (Weak.agg ?_) (WeakL.refl _));simp only[bMk,aWf];refine WeakL.cons (Weak.refl _) (WeakL.cons (Weak.refl _) (WeakL.cons (WeakP.sl (aAe N)).av (WeakL.refl _)))
 refine nv ?_;refine NB.Run.draw3 (pc:=[]) 2 4 6 [0,0,0,0,1,2,2,3] [0,0,0,0,1,0,2,3] [0,0,2,0,14,31,30,127] [1,2,3,4,6,0,5,7] [0,0,0,0,2,3,1,3] [0,0,0,0,2,0,1,3] [0,0,2,0,78,95,6,127] [1,2,6,3,4,0,5,7] [0,0,1,0,0,2,2,3] [0,0,1,0,0,0,2,3] [0,0,26,0,8,31,30,127] [3,4,1,2,6,0,5,7] [0,0,2,0,0,3,1,3] [0,0,2,0,0,0,1,3] [0,0,90,0,8,95,24,127] [3,4,6,1,2,0,5,7] [0,0,1,0,2,3,0,3] [0,0,1,0,2,0,0,3] [0,0,66,0,78,95,0,127] [6,1,2,3,4,0,5,7] [0,0,2,0,1,3,0,3] [0,0,2,0,1,0,0,3] [0,0,90,0,72,95,0,127] [6,3,4,1,2,0,5,7] aC aC aC aC aC aC aC aC ?_ ?_ ?_ ?_ ?_ ?_
 all_goals
  refine zp3 hm1 hm2 hm3 ?_;refine y8 ?_;refine znr ?_;simp only[aPz,aSx];refine rl rfl rfl aE rfl (aI5 tel N hlen hl hok _ (hh.app (by simp[hb1,hb2])) (h.length+1) (h.length+3) _ (by simp;exact⟨rfl,rfl,rfl,rfl,rfl,rfl,rfl,rfl⟩) aA aA) ?_;refine zs ?_;refine zor ?_;refine zf ?_
  first
   |(refine Run.freezeAt (h.length+7) 1 (sz:=1) (m:=0) (es:=aEa N) (n:=N) (cap:=N) aE aE aA aB (vG N) (by simp[aEa]) (bLx _) ?_)
   |(refine Run.freezeAt (h.length+6) 1 (sz:=1) (m:=0) (es:=aEa N) (n:=N) (cap:=N) aE aE aA aB (vG N) (by simp[aEa]) (bLx _) ?_)
   |(refine Run.freezeAt (h.length+5) 1 (sz:=1) (m:=0) (es:=aEa N) (n:=N) (cap:=N) aE aE aA aB (vG N) (by simp[aEa]) (bLx _) ?_)
  simp
  first
   |(refine Run.freezeAt (h.length+7) 2 (sz:=5) (m:=0) (es:=aFg N) (n:=N) (cap:=N) aE aE aA aB (wO N) (by simp[aFg]) (bLx _) ?_)
   |(refine Run.freezeAt (h.length+6) 2 (sz:=5) (m:=0) (es:=aFg N) (n:=N) (cap:=N) aE aE aA aB (wO N) (by simp[aFg]) (bLx _) ?_)
   |(refine Run.freezeAt (h.length+5) 2 (sz:=5) (m:=0) (es:=aFg N) (n:=N) (cap:=N) aE aE aA aB (wO N) (by simp[aFg]) (bLx _) ?_)
  refine zsnrx ?_;exact Fin.ret' (h0:=h) (xs:=[.agg (.p (.sl 5 (tmPs (shL N tel))):: .p (.sl 1 (aEa N)):: .p (.sl 5 (aFg N))::[iA d0,iA d1, .p (sP d2), .p (.sl 2 (lvPs d3)), .p (.sl 5 (tmPs d4))]),iA 0]) aA rfl hh rfl aA rfl hwk aA ⟨rfl,rfl⟩
end Go.Proofs.YtplomildbmcmfaaGreat
