import Derived.Test.YtcfcolkbeelegaaGreatJA0
import Derived.Shelf.SlIterI.Sorted
import Derived.Test.YtcfcolkbeelegaaGreatJM2
import Derived.Test.YtcfcolkbeelegaaGreatProg
import Derived.KernelRfl
import Derived.Test.YtcfcolkbeelegaaGreatJFR
import Derived.Scope
import Derived.Test.YtcfcolkbeelegaaGreatJX2
set_option maxRecDepth 8000
set_option maxHeartbeats 4000000
namespace Go.AI
open Go Go.Shelf Go.Sort Go.Proofs Go.MapKept Go.Maps Go.WideElems
theorem Rel.below {E:Env} {h:Nat->Option AO} {w w':World} (r:Rel E h w)(hb:RowKit.Below w.heap.size w w'):
  Rel {E with ro:=fun b off=>E.ro b off\/(w.heap.size<=b/\b<w'.heap.size)} h w'/\
  Fr E h w {E with ro:=fun b off=>E.ro b off\/(w.heap.size<=b/\b<w'.heap.size)} h w':=by
 have hx:Ext E w {E with ro:=fun b off=>E.ro b off\/(w.heap.size<=b/\b<w'.heap.size)} w':=
  ⟨fun _ _ h=> .inl h,fun b off hb'=>dK (hb.block b (r.lt b off hb')) off,fun _ _ h=>h,fun _ L h=>⟨L,h,aYw _,fun _=>rfl⟩⟩
 refine⟨⟨fun id o hc hn=>?_,fun id o n sz m cs hc hk=>?_,r.inj,fun id o b off hc hn hg=>?_,fun id o n sz k cs b c m off hc hk hg hl=>?_,?_⟩,⟨fun b hb' _=>hb.block b hb',hx,?_,hb.size,fun b hb'=> .inl hb',hb.os,hb.output⟩⟩
 ·obtain⟨b,hg,ho⟩:=r.objsO id o hc hn;exact⟨b,hg,ho.move hx (hb.block b ho.lt)⟩
 ·obtain⟨blk,cap,ht,h1,h2,h3⟩:=r.toks id o n sz m cs hc hk;refine⟨blk,cap,ht,h1,h2,fun b hb'=>?_⟩;obtain⟨us,hr,hl,hp⟩:=h3 b hb';exact⟨us,hr.same (hb.block b hr.lt),hl,hp.ext hx⟩
 ·rintro(h1|h1)
  ·exact r.sepO id o b off hc hn hg h1
  ·have:=r.owns_lt (.inl ⟨o,hc,hn,hg⟩);omega
 ·rintro(h1|h1)
  ·exact r.sepT id o n sz k cs b c m off hc hk hg hl h1
  ·have:=r.owns_lt (.inr ⟨o,_,c,m,hc,hk,hg⟩);omega
 ·rintro b off (h1|h1)
  ·have:=r.lt b off h1;have:=hb.size;omega
  ·omega
 ·rintro b off (h1|h1)
  ·exact .inl h1
  ·exact .inr (.inr h1.1)
theorem aJ7 {E:Env} {w:World} {base:Nat} {t:TypeId} {v:Value} {zs:List Int} (h:w.ownsRow base t 1 v zs.length (zs.map encZ))(hro:∀b off,base<=b->b<w.heap.size->E.ro b off):
  RepP E w (.sl 1 (rM zs)) v:=by
 obtain⟨_,⟨rfl,h0⟩|⟨g,cap,cur,rfl,hb,hg,hn,hm,hsz,hcur⟩⟩:=h
 ·have:zs=[]:=bAv h0;subst this;simp only[RepP,rM,bAa,aZ2];exact y8t
 ·simp only[RepP];refine⟨_,cap,by rw[jV],by rw[jV];exact hn, .inr ⟨g,0,rfl,?_⟩⟩;have hgl:g<w.heap.size:=(bA8.1 hg).1;rw[Nat.mul_one] at hcur;refine RepEs.of_row (vs:=zs.map encZ) (aH3 zs) (fun j v hj=>⟨hro g _ hb hgl,?_⟩) (by rw[aLy];exact uO.2 rfl);have hj':j<zs.length:=by have:=(aYv.1 hj).1;simpa using this
  rw[<-hcur,List.getElem?_take_of_lt hj',bBs] at hj;simp only[World.cell?,hg,aZv];simpa using hj
def aXx:Value->Int
 | .int _ a=>a
 |_=>0
theorem aCu {P:Program} {ρ1 ρ2 ρ3:Ren} (L1:SlLaysZI.n10 P ρ1)(L2:SlLaysZI.n6 P ρ2)(L3:Lays.n189 P ρ3)(h9:ρ2.f 9=ρ3.f 189)
  (e9:∀args w,(callFunc (ρ2.f 9) args).run P w= .ok (.enter (ρ2.f 9) args) w) (eg:∀args w,(callFunc (ρ1.f 10) args).run P w= .ok (.enter (ρ1.f 10) args) w)
  {h:Heap} {q id:Nat} {om:List (Int×Int)} (hq:h.at q=some (.cells [.mp id])) (hid:h.at id=some (.aux (.map (om.map ikv)))) (hwf:∀x∈om,(Lit.int .i64 x.1).wf=true) (hl:om.length<=1048576):
  ACalls P (ρ2.f 6) [.fn (.func (ρ1.f 10)) [] [.ptr q 0]] h fun out h'=>out= .ret (.p (.sl 1 (rM ((om.map Prod.fst).mergeSort fun x y=>decide (x<=y)))))/\h'=h:=by
 intro E w vs hrel hfresh hargs;simp only[RepL,Rep] at hargs;obtain⟨v,us,rfl,⟨vs1,us1,rfl,rfl,v1,us2,rfl,⟨b,hg,rfl⟩,rfl⟩,rfl⟩:=hargs;obtain⟨b',cur,hg',hrow,hreps⟩:=hrel.objs q _ hq;rw[hg] at hg';cases hg';simp only[RepL,Rep] at hreps;obtain⟨v2,us3,rfl,⟨m,hm,rfl⟩,rfl⟩:=hreps;obtain⟨m',hm',es,c,hheap,hkv,hst⟩:=hrel.objsO id _ hid rfl;rw[hm] at hm';cases hm'
 have hkeys:es.toList.map (·.key)=om.map fun x=>encZ x.1:=by
  have:=congrArg (List.map Prod.fst) hkv;simpa [bBq,Function.comp_def] using this
 have hlen:es.size=om.length:=by
  have:=congrArg List.length hkv;exact y6y
 have hkey:∀x∈es.toList,∃z:Int,x.key=encZ z/\(Lit.int .i64 z).wf=true:=by
  intro x hx;have:x.key∈es.toList.map (·.key):=aZq.2 ⟨x,hx,rfl⟩;rw[hkeys] at this;obtain⟨y,hy,e⟩:=aZq.1 this;exact⟨y.1,e.symm,hwf y hy⟩
 have hrd:∀x∈es.toList,∀z:Int,x.key=encZ z->(Lit.int .i64 z).wf=true->WideElems.rd P (ρ1.t 26) (fun _=>some ((.nil:DataW Unit),[])) x=some (.int .i64 z, .nil):=by
  intro x hx z e hw;simp[WideElems.rd,e,keyOf,L1.t26,mapKey,hw]
 have hown:w.ownsMap P (ρ1.t 26) (fun _=>some ((.nil:DataW Unit),[])) m om.length (.map ((es.toList.map (WideElems.rg P (ρ1.t 26) (fun _=>some ((.nil:DataW Unit),[])))).foldr DataW.insert [])):=
  ⟨es,c,hheap,⟨by rw[hlen];exact bAr hl aD,hst,fun x hx=>by obtain⟨z,e,hw⟩:=hkey x hx;exact⟨_,hrd x hx z e hw⟩⟩,by omega,rfl⟩
 have hblt:=hrow.lt;have hcell:w.cell? ⟨b,0,none⟩=some (.map (some m)):=by rw[hrow.cell];rfl
 have hperm:(intKeys (H:=Unit) (.map ((es.toList.map (WideElems.rg P (ρ1.t 26) (fun _=>some ((.nil:DataW Unit),[])))).foldr DataW.insert []))).Perm (om.map Prod.fst):=by
  refine((WideShapes.sorted_perm _).map _).trans (List.Perm.of_eq ?_);rw[bBq]
  have h1:es.toList.map ((fun p=>intOf p.1)∘WideElems.rg P (ρ1.t 26) (fun _=>some ((.nil:DataW Unit),[])))=es.toList.map fun x=>aXx x.key:=by
   refine List.map_congr_left fun x hx=>?_
   obtain⟨z,e,hw⟩:=hkey x hx;simp only[Function.comp_apply,WideElems.rg_of (hrd x hx z e hw),e]
   rfl
  have h2:es.toList.map (fun x=>aXx x.key)=(es.toList.map (·.key)).map aXx:=by simp[Function.comp_def]
  rw[h1,h2,hkeys,bBq]
  rfl
 have hseq:=AnyZI.keys_gives L1 Fence.wide 5 trivial rfl aB b m om.length _ w hblt hcell hown
 have hsize:Maps.size (.map ((es.toList.map (WideElems.rg P (ρ1.t 26) (fun _=>some ((.nil:DataW Unit),[])))).foldr DataW.insert []))=om.length:=by
  simp[Maps.size,length_sorted,hlen]
 rw[hsize] at hseq
 have hsort:AnyZI.SortsIn P ρ2 Fence.wide 7:=by
  unfold AnyZI.SortsIn;rw[h9];exact⟨fun blk off cap ss W hH hblk hsz=>callsIn_wide.2 (Any.slices_Sort_int L3 blk off cap ss W hH hblk hsz),fun p cap W=>callsIn_wide.2 (Any.slices_Sort_int_none L3 p cap W)⟩
 have cS:=AnyZI.sorted_in L2 Fence.wide 8 trivial trivial trivial trivial rfl aB hsort e9 (ρ1.f 10) #[.pointer (some ⟨b,0,none⟩)] trivial eg _ om.length (bAr hl aD) aB w hseq;refine Calls.mono (callsIn_wide.1 cS) ?_;rintro e w' ⟨v,ss,rfl,hS,hrow',_,hb⟩;obtain⟨r1,f1⟩:=hrel.below hb;have hss:ss.mergeSort (fun x y=>decide (x<=y))=(om.map Prod.fst).mergeSort fun x y=>decide (x<=y):=mergeSort_of_perm_i (hS.trans hperm)
 rw[hss] at hrow';have hlen':ss.length=((om.map Prod.fst).mergeSort fun x y=>decide (x<=y)).length:=by rw[List.length_mergeSort];exact(hS.trans hperm).length_eq
 rw[hlen'] at hrow';exact⟨_,_,_,⟨rfl,rfl⟩,r1,hfresh,⟨_,rfl,by simp only[Rep];exact aJ7 hrow' fun b off h1 h2=> .inr ⟨h1,h2⟩⟩,f1⟩
end Go.AI
namespace Go.Proofs.YtcfcolkbeelegaaGreat
open Go.AI
open Go.Shelf Go.Proofs
def aM6:Go.Shelf.Ren:=⟨fun|10=>197|n=>n,fun|33=>259|23=>165|0=>0|4=>4|26=>3|3=>3|n=>n,fun|n=>n⟩
theorem aXy:Go.Proofs.SlLaysZI.n10 Tryz.prog aM6 where
 mixed:=aC
 f10:=⟨ "maps.Keys[euclid/level.offsets,int,int]$1",by decide,Tryz.func197.trans (congrArg some aC)⟩
 t0:=Tryz.underlying0
 a0:=Tryz.isAgg0
 z0:=Tryz.sizeOf0
 v0:=Tryz.zeroValue0
 t4:=Tryz.underlying4
 a4:=Tryz.isAgg4
 z4:=Tryz.sizeOf4
 v4:=Tryz.zeroValue4
 t23:=Tryz.underlying165
 a23:=Tryz.isAgg165
 z23:=Tryz.sizeOf165
 v23:=Tryz.zeroValue165
 t26:=Tryz.underlying3
 a26:=Tryz.isAgg3
 z26:=Tryz.sizeOf3
 v26:=Tryz.zeroValue3
 t33:=Tryz.underlying259
 a33:=Tryz.isAgg259
 z33:=Tryz.sizeOf259
 v33:=Tryz.zeroValue259
def aM7:Go.Shelf.Ren:=⟨fun|6=>162|8=>195|9=>196|11=>224|13=>226|12=>225|23=>254|24=>255|14=>245|15=>246|16=>247|17=>248|18=>249|19=>250|20=>251|21=>252|22=>253|25=>268|26=>269|27=>270|28=>271|29=>272|30=>273|31=>278|n=>n,fun|26=>3|28=>228|24=>187|0=>0|3=>3|37=>245|48=>54|50=>322|4=>4|40=>314|39=>313|45=>79|5=>5|9=>9|51=>332|55=>336|57=>340|58=>176|33=>259|n=>n,fun|n=>n⟩
theorem aXz:Go.Proofs.SlLaysZI.n6 Tryz.prog aM7 where
 mixed:=aC
 f6:=⟨ "slices.Sorted[int]",by decide,Tryz.func162.trans (congrArg some aC)⟩
 f8:=⟨ "slices.Collect[int]",by decide,Tryz.func195.trans (congrArg some aC)⟩
 f11:=⟨ "slices.AppendSeq[[]int,int]",by decide,Tryz.func224.trans (congrArg some aC)⟩
 t0:=Tryz.underlying0
 a0:=Tryz.isAgg0
 z0:=Tryz.sizeOf0
 v0:=Tryz.zeroValue0
 t24:=Tryz.underlying187
 a24:=Tryz.isAgg187
 z24:=Tryz.sizeOf187
 v24:=Tryz.zeroValue187
 t26:=Tryz.underlying3
 a26:=Tryz.isAgg3
 z26:=Tryz.sizeOf3
 v26:=Tryz.zeroValue3
 t28:=Tryz.underlying228
 a28:=Tryz.isAgg228
 z28:=Tryz.sizeOf228
 v28:=Tryz.zeroValue228
 i26:=aC
theorem aFa {h:Go.AI.Heap} {q id:Nat} {om:List (Int×Int)} (hq:h.at q=some (.cells [.mp id]))(hid:h.at id=some (.aux (.map (om.map Go.AI.ikv))))(hwf:∀x∈om,(Lit.int .i64 x.1).wf=true)(hl:om.length<=1048576):
  Go.AI.ACalls Tryz.prog 162 [.fn (.func 197) [] [.ptr q 0]] h fun out h'=>out= .ret (.p (.sl 1 (Go.AI.rM ((om.map Prod.fst).mergeSort fun x y=>decide (x<=y)))))/\h'=h:=
 Go.AI.aCu aXy aXz aTn rfl (enters_of Tryz.func196 aC rfl) (enters_of Tryz.func197 aC rfl) hq hid hwf hl
open Go Go.AI
theorem aXv:aBr Tryz.prog 165=true:=aC
attribute [simp] xO xQ aQ3 aXv
theorem aEr {m:List (Int×Int)} {i:Int} (p:Int)(h:lkI m i=none):eN m i p=aJp m i p:=by
 induction m with
 |nil=>rfl
 |cons x m ih=>
  simp only[lkI] at h;split at h
  ·cases h
  ·rename_i c;simp only[eN,aJp,if_neg c];rw[ih h]
theorem uL {m:List (Int×Int)} {i v:Int} (p:Int)(h:lkI m i=some v):eN m i p=if v<p then aJp m i p else m:=by
 induction m with
 |nil=>simp[lkI] at h
 |cons x m ih=>
  simp only[lkI] at h;obtain⟨a,b⟩:=x;simp only[eN,aJp];split at h
  ·rename_i c;simp only at c;cases h;subst c;simp only[if_true];split
   ·rename_i h1;rw[show max b p=p by omega]
   ·rename_i h1;rw[show max b p=b by omega]
  ·rename_i c;simp only at c;rw[if_neg c,if_neg c,ih h];split<;>rfl
structure SumH (B:List (Int×Int)->Int->Heap) (id s n:Nat):Prop where
 len:∀om c,(B om c).length=n
 gi:∀om c l,(B om c++l)[id]?=some (some (.aux (.map (om.map ikv))))
 gs:∀om c l,(B om c++l)[s]?=some (some (.cells [.mp id,iA c]))
 si:∀om c om' l,(B om c++l).set id (some (.aux (.map (om'.map ikv))))=B om' c++l
 ss:∀om c c' l,(B om c++l).set s (some (.cells [.mp id,iA c']))=B om c'++l
 wf:∀om c,WF (B om c)
 lt:id<n/\s<n
theorem SumH.gl {B:List (Int×Int)->Int->Heap} {id s n:Nat} (hB:SumH B id s n)(om:List (Int×Int))(c:Int)(l:List (Option AO))(k:Nat):(B om c++l)[n+k]?=l[k]?:=eG (hB.len om c)
theorem SumH.gl0 {B:List (Int×Int)->Int->Heap} {id s n:Nat} (hB:SumH B id s n)(om:List (Int×Int))(c:Int)(l:List (Option AO)):(B om c++l)[n]?=l[0]?:=fV (hB.len om c)
theorem SumH.sl {B:List (Int×Int)->Int->Heap} {id s n:Nat} (hB:SumH B id s n)(om:List (Int×Int))(c:Int)(l:List (Option AO))(k:Nat)(o:Option AO):(B om c++l).set (n+k) o=B om c++l.set k o:=eU (hB.len om c)
theorem SumH.sl0 {B:List (Int×Int)->Int->Heap} {id s n:Nat} (hB:SumH B id s n)(om:List (Int×Int))(c:Int)(l:List (Option AO))(o:Option AO):(B om c++l).set n o=B om c++l.set 0 o:=jK (hB.len om c)
theorem SumH.wfl {B:List (Int×Int)->Int->Heap} {id s n:Nat} (hB:SumH B id s n)(om:List (Int×Int))(c:Int)(l:List (Option AO))(hl:l.all (AO.under (n+l.length))=true):WF (B om c++l):=(hB.wf om c).app (by rw[hB.len];exact hl)
theorem aCd {B:List (Int×Int)->Int->Heap} {id s n:Nat} (hB:SumH B id s n)(om:List (Int×Int))(c:Int)(l:List (Option AO))(i p:Int)(hw:∀om',WF (B om' c++l)):
  ACalls Tryz.prog 111 [.mp id,iA i,iA p] (B om c++l) fun o h'=>o= .ret (.tup [])/\h'=B (eN om i p) c++l:=by
 refine zE Tryz.func111 Tryz.ntmps111 ?_;refine nv ?_;refine Run.reg fun K J=>?_
 simp[hB.gi];refine zj ?_;clear J
 cases e:lkI om i with
 |none=>
  refine aI3 ?_;refine Run.reg fun K J=>?_
  simp[hB.gi,hB.si];refine zj ?_;clear J;refine Run.nil ?_;exact Fin.ret' aA (by simp[hB.len]) (hw _) (aZ0 _).symm rfl rfl (Weak.refl _) rfl ⟨rfl,by rw[aEr p e]⟩
 |some v=>
  refine znr ?_
  by_cases h1:v<p
  ·refine dF h1 ?_;refine Run.reg fun K J=>?_
   simp[hB.gi,hB.si];refine zj ?_;clear J;refine Run.nil ?_;exact Fin.ret' aA (by simp[hB.len]) (hw _) (aZ0 _).symm rfl rfl (Weak.refl _) rfl ⟨rfl,by rw[uL p e,if_pos h1]⟩
  ·refine vL h1 ?_;refine Run.nil ?_;exact Fin.ret' aA rfl (hw _) (aZ0 _).symm rfl rfl (Weak.refl _) rfl ⟨rfl,by rw[uL p e,if_neg h1]⟩
theorem aJ4 (h:Heap)(hh:WF h):ACalls Tryz.prog 110 [] h fun o h'=>o= .ret (.ptr (h.length+1) 0)/\h'=h++[some (.aux (.map [])),some (.cells [.mp h.length,iA 0])]:=by
 refine ACalls.of_run Tryz.func110 rfl ?_;simp only[Tryz.ntmps110,aZ2];refine znr ?_;refine Run.regPre 0 fun K J=>?_
 simp only[bBc];simp;refine zi ?_;clear J;refine y27 ?_;refine Run.makeMap rfl rfl ?_;refine zox ?_;exact Fin.retM (h0:=h++[some (.aux (.map [])),some (.cells [.mp h.length,iA 0])]) (l:=[]) aA aA (hh.app aA) aA aE rfl (Weak.refl _) aA ⟨rfl,rfl⟩
theorem aQ0 (h:Heap)(hh:WF h)(id:Nat)(hid:id<h.length):ACalls Tryz.prog 163 [.mp id] h fun o h'=>o= .ret (.fn (.func 197) [] [.ptr h.length 0])/\h'=h++[some (.cells [.mp id])]:=by
 refine zE Tryz.func163 Tryz.ntmps163 ?_;refine aDl ?_;exact Fin.retM (h0:=h++[some (.cells [.mp id])]) (l:=[]) aA aA (hh.app (by simp;omega)) aA aE rfl (Weak.refl _) aA ⟨rfl,rfl⟩
open Go Go.AI
theorem SumH.app {B:List (Int×Int)->Int->Heap} {id s n:Nat} (hB:SumH B id s n)(l:List (Option AO))(hl:l.all (AO.under (n+l.length))=true):SumH (fun om c=>B om c++l) id s (n+l.length) where
 len om c:=by rw[aZ4,hB.len]
 gi om c k:=by rw[aZi];exact hB.gi om c _
 gs om c k:=by rw[aZi];exact hB.gs om c _
 si om c om' k:=by rw[aZi,aZi];exact hB.si om c om' _
 ss om c c' k:=by rw[aZi,aZi];exact hB.ss om c c' _
 wf om c:=hB.wfl om c l hl
 lt:=⟨Nat.lt_of_lt_of_le hB.lt.1 (Nat.le_add_right _ _),Nat.lt_of_lt_of_le hB.lt.2 (Nat.le_add_right _ _)⟩
theorem aKg (m:List (Int×Int))(vs:List (Int×Int))(k:Int) {j:Nat} {v:Int×Int} (h:vs[j]?=some v):aAf m (vs.take (j+1)) k=eN (aAf m (vs.take j) k) v.1 (v.2+k):=by
 have hj:j<vs.length:=(aYv.1 h).1
 have e:vs.take (j+1)=vs.take j++[v]:=by
  rw[bAg,h];rfl
 rw[e];simp[aAf]
theorem aOy {B:List (Int×Int)->Int->Heap} {id s n:Nat} (hB:SumH B id s n)(om:List (Int×Int))(c:Int)(l:Lv)(m:Int)(hl:Vd l)(hb:l.vars.length<=1048576)(hm0:0<=m)(hm1:m<=100):
  ACalls Tryz.prog 112 [.ptr s 0,l.av,iA m] (B om c) fun o h'=>o= .ret (.tup [])/\h'=B (aAf om l.vars m) (max c (l.c+m)):=by
 obtain⟨x,vs⟩:=l;have hc0:=hl.c0;have hc1:=hl.c1;have hv0:=hl.v0;have hv1:=hl.v1;simp only at hb hc0 hc1 hv0 hv1;have w1:IntKind.i64.wrap (x+m)=x+m:=aQ aB aB;have hmx:(if c<x+m then x+m else c)=max c (x+m):=by split<;>omega
 have hslt:=hB.lt.2;refine y12 ?_;refine zE Tryz.func112 Tryz.ntmps112 ?_;refine nv ?_;rw[hB.len];refine nv ?_;refine Run.reg fun K J=>?_
 simp[hB.len];refine zj ?_;clear J;refine Run.draw [0,0,0,0,0,0,0,0,0,0,0,0,0] [0,0,0,0,0,0,0,0,0,0,0,0,0] [0,0,2,6,14,0,32,0,224,510,1023,2047,4095] [0,1,2,3,4,5,6,7,8,9,10,11,12] aC aC ?_;refine DR.go fun K J=>?_
 simp[hB.gs,hB.gl0,hB.ss,w1,hmx];refine zh ?_;clear J;refine y9 ?_;refine nv ?_;refine Run.reg fun K J=>?_
 simp[hB.gl0];refine zj ?_;clear J;refine Run.loopS [0,2,21,22] (fun j:Nat=>j<=vs.length) (fun j=>vs.length-j) (fun j=>[(23,iA j)]) (fun j=>B (aAf om (vs.take j) m) (max c (x+m))++[some (.cells [iA x, .p (.sl 2 (bN vs))])]) 0 aB ?_ (by simp[aAf]) ?_
 ·exact zS
 rintro j hj IH;refine cI ?_
 by_cases hjl:j<vs.length
 ·have hg:vs[j]?=some vs[j]:=aYu hjl;have h0:=hv0 _ (aYx hjl);have h1:=hv1 _ (aYx hjl);have hsn:=aKg om vs m hg;obtain⟨⟨a,b⟩,hab⟩:∃p,vs[j]=p:=⟨_,rfl⟩;rw[hab] at hg h0 h1 hsn;simp only at h0 h1 hsn;have w2:IntKind.i64.wrap (b+m)=b+m:=aQ aB aB;obtain⟨om1,hom1⟩:∃om1,om1=aAf om (vs.take j) m:=⟨_,rfl⟩;rw[<-hom1] at hsn⊢;refine dF hjl ?_;refine Run.reg fun K J=>?_
  simp[hg,hB.sl,hB.len];refine zj ?_;clear J;refine Run.draw [0,0,0,0,0,0,0,0,0,0,0] [0,0,0,0,0,0,0,0,0,0,0] [0,1,3,7,0,16,0,64,0,448,1023] [0,1,2,3,4,5,6,7,8,9,10] aC aC ?_;refine DR.go fun K J=>?_
  simp[hB.gs,hB.gl,w2];refine zh ?_;clear J;refine DR.call (args:=[.mp id,iA a,iA (b+m)]) rfl rfl rfl aA rfl (aCd hB om1 (max c (x+m)) _ a (b+m) fun om'=>hB.wfl om' _ _ aA) ?_;rw[<-hsn];refine zd ?_;refine y9 ?_;refine nv ?_;refine Run.keep [0,2,21,22,23] ?_;refine yf ?_;refine Run.cutAt 1 (hB.wf _ _) rfl (by rw[hB.len];omega) aA (by simp[hB.len];omega) aA rfl ?_;refine cI ?_;exact y5j
 ·have hje:j=vs.length:=aB;subst hje;refine dP ?_;refine Run.nil ?_;exact Fin.ret' aA (hB.len _ _) (hB.wf _ _) rfl rfl rfl (Weak.refl _) rfl ⟨rfl,by rw[aZl]⟩
theorem aIy (vs:List (Int×Int)):vs.any (fun x=>decide (100<x.2))=!bB (fun j=>match vs[j]? with|some v=>!decide (100<v.2)|none=>true) vs.length:=by
 cases e:vs.any (fun x=>decide (100<x.2)) with
 |true=>
  obtain⟨v,hv,hp⟩:=bBj.1 e;obtain⟨j,hj⟩:=bAl hv
  cases e2:bB (fun j=>match vs[j]? with|some v=>!decide (100<v.2)|none=>true) vs.length with
  |false=>rfl
  |true=>
   have:=(cJ.1 e2) j (aYv.1 hj).1;simp[hj] at this;simp at hp;omega
 |false=>
  have:bB (fun j=>match vs[j]? with|some v=>!decide (100<v.2)|none=>true) vs.length=true:=by
   rw[cJ];intro j hj;have hg:vs[j]?=some vs[j]:=aYu hj;have:=List.any_eq_false.1 e _ (aYx hj);simpa [hg] using this
  rw[this];rfl
theorem aEj (h:Heap)(hh:WF h)(l:Lv)(hb:l.vars.length<=1048576):AC 164 [l.av] h (.tup [(aOq l).1.av,iA (aOq l).2]):=by
 obtain⟨c,vs⟩:=l;simp only at hb;have hcv:=fun(g:Heap) (hg:WF g)=>sY g hg c vs hb
 have hany:=aIy vs;obtain⟨r,hr⟩:∃r,aOq ⟨c,vs⟩=r:=⟨_,rfl⟩;rw[hr];unfold aOq at hr;refine y12 ?_;generalize hcb:gO c vs=cb at hcv hr;refine cW Tryz.func164 Tryz.ntmps164 ?_;refine Run.loopS [1,2,3,7,8] (fun j:Nat=>j<=vs.length/\bB (fun j=>match vs[j]? with|some v=>!decide (100<v.2)|none=>true) j=true) (fun j=>vs.length-j) (fun j=>[(9,iA j)]) (fun _=>h++[some (.cells [iA c, .p (.sl 2 (bN vs))]),some (.cells [iA 0, .p (.prim (.slice none 0 0))])]) 0 (by simp[bB]) ?_ aA ?_
 ·exact zS
 rintro j ⟨hj,hall⟩ IH;refine cI ?_
 by_cases hjl:j<vs.length
 ·have hg:vs[j]?=some vs[j]:=aYu hjl;obtain⟨⟨a,b⟩,hab⟩:∃p,vs[j]=p:=⟨_,rfl⟩;rw[hab] at hg;refine nT hjl hg ?_
  by_cases h1:100<b
  ·refine kL h1 ?_;rw[hany,aU hjl (by simp[hg,h1])] at hr;simp only[bB7,if_true] at hr;subst hr;refine Run.ret ?_;refine Fin.ret' (h0:=h) aA rfl hh rfl aE rfl (y:= .tup [.agg [iA 0, .p (.sl 2 (bN []))],iA 15]) ?_ aA ⟨rfl,rfl⟩;exact y3d
  ·refine dJ h1 ?_;refine Run.keep [1,2,3,7,8,9] ?_;refine yf ?_;refine Run.cutAt 2 hh rfl aA aA aA aA rfl ?_;simp;refine IH (j+1) _ _ ⟨by omega,by rw[bK,hall];simp[hg,h1]⟩ aB ?_ rfl;exact zS
 ·have hje:j=vs.length:=aB;subst hje;refine dP ?_;rw[hall] at hany;rw[hany] at hr;simp only[bBn,aZd,if_false] at hr;refine znr ?_
  by_cases h2:100<c
  ·refine kL h2 ?_;rw[if_pos h2] at hr;subst hr;refine Run.ret ?_;refine Fin.ret' (h0:=h) aA rfl hh rfl aE rfl (y:= .tup [.agg [iA 0, .p (.sl 2 (bN []))],iA 15]) ?_ aA ⟨rfl,rfl⟩;exact y3d
  ·refine vL h2 ?_;rw[if_neg h2] at hr;refine znr ?_;refine zL (hcv _ (hh.app aA)) ?_;refine zo ?_
   cases cb with
   |true=>
    simp only[if_true] at hr;subst hr;refine aWr ?_;refine zrx ?_;exact y2s
   |false=>
    simp only[aZd,if_false] at hr;subst hr;refine aAc ?_;refine zx ?_;exact y2s
open Go Go.AI
def srt (om:List (Int×Int)):List Int:=(om.map Prod.fst).mergeSort fun x y=>decide (x<=y)
theorem xB (om:List (Int×Int)):(srt om).length=om.length:=by simp[srt]
theorem aNp (om:List (Int×Int)):mH om=(srt om).map fun i=>(i,(lkI om i).getD 0):=rfl
theorem aLz (l:List Int)(j:Nat):(rM l)[j]?=(l[j]?).map fun z=>[iP z]:=by simp[rM]
theorem aK0 (l:List (Int×Int))(v:Int×Int):bN (l++[v])=bN l++[[iP v.1,iP v.2]]:=by simp[bN]
attribute [simp] jV aLz
theorem aD1 {B:List (Int×Int)->Int->Heap} {id s n:Nat} (hB:SumH B id s n)(om:List (Int×Int))(c:Int)(hl:om.length<=1048576)(hwf:∀x∈om,(Lit.int .i64 x.1).wf=true):
  ACalls Tryz.prog 113 [.ptr s 0] (B om c) fun o h'=>o= .ret (.tup [(aKb (c,om)).1.av,iA (aKb (c,om)).2])/\h'=B om c:=by
 have hslt:=hB.lt.2;have hilt:=hB.lt.1;have hsl:=xB om;have hsm:=aNp om;have hlim:=fun(g:Heap) (hg:WF g)=>aEj g hg ⟨c,mH om⟩ (by rw[hsm];simp[xB];exact hl)
 obtain⟨r,hr⟩:∃r,aKb (c,om)=r:=⟨_,rfl⟩;have hr':aOq ⟨c,mH om⟩=r:=hr;rw[hr];simp only[hr',Lv.av,Lv.cells,List.map] at hlim;refine zE Tryz.func113 Tryz.ntmps113 ?_;refine nv ?_;rw[hB.len];refine nv ?_;refine Run.reg fun K J=>?_
 simp[hB.len];refine zj ?_;clear J;refine Run.reg fun K J=>?_
 simp[hB.gs,hB.sl,hB.len];refine zj ?_;clear J;refine Run.regPre 4 fun K J=>?_
 refine yd ?_;simp[hB.gs];refine zi ?_;clear J;refine ya ?_;have hwfn:=fun(l:List (Option AO)) (hl:l.all (AO.under (n+l.length))=true)=>hB.wfl om c l hl
 refine zL (aQ0 _ (hwfn _ aA) id (by simp[hB.len];omega)) ?_;refine Run.opsPre 0 fun K J=>?_
 simp only[bBc];simp;refine zi ?_;clear J;refine y27 ?_;simp[hB.len];refine Run.call (args:=[.fn (.func 197) [] [.ptr (n+2) 0]]) rfl rfl aA rfl (aFa (id:=id) (om:=om) ?_ ?_ hwf hl) ?_ ?_
 ·unfold Heap.at;simp[hB.gl]
 ·unfold Heap.at;simp[hB.gi]
 rotate_left
 ·rintro v h' ⟨hv,_⟩;cases hv
 rintro v h' ⟨hv,rfl⟩;simp only[AOut.ret.injEq] at hv;subst hv;refine zo ?_;have hsrt:(List.map Prod.fst om).mergeSort (fun x y=>decide (x<=y))=srt om:=rfl;rw[hsrt];generalize srt om=ks at hsl hsm⊢;obtain⟨vs,hvs⟩:∃vs,mH om=vs:=⟨_,rfl⟩;rw[hvs] at hsm hlim;have hvl:vs.length=ks.length:=by rw[hsm,aZo]
 refine Run.tokAt (n+1) 1 2 (by unfold Heap.at;simp[hB.gl];rfl) aA ?_;simp[hB.len,hB.sl]
 refine Run.loopS [0,2,4,17,18] (fun j:Nat=>j<=ks.length) (fun j=>ks.length-j) (fun j=>[(19,iA j)])
  (fun j=>B om c++[some (.cells [iA 0, .p (.prim (.slice none 0 0))]),some (.cells [iA c, .own (n+3) 2 (bN (vs.take j))]),some (.cells [.mp id]),some (.tok j 2)]) 0 aB ?_ (by simp[bN]) ?_
 ·exact zS
 rintro j hj IH;refine cI ?_
 by_cases hjl:j<ks.length
 ·have hjo:j<om.length:=aB;have hg:ks[j]?=some ks[j]:=aYu hjl;generalize ks[j]=k at hg;have hgv:vs[j]?=some (k,(lkI om k).getD 0):=by rw[hsm];simp[hg]
  have htk:vs.take (j+1)=vs.take j++[(k,(lkI om k).getD 0)]:=by rw[bAg,hgv];rfl
  have hmin:min j vs.length=j:=bAb aB;have hb3:(j+1)*16<=140737488355328:=aB;have hb4:j+1<=9223372036854775807:=aB;refine jO hjo hg ?_;refine Run.draw [0,0,0,0,0,0,0,0,0,1,1,1,2,2] [0,0,0,0,0,0,0,0,0,0,0,1,0,2] [0,1,0,0,8,24,56,0,248,508,1020,2047,4095,8191] [3,4,5,6,7,8,0,1,2,9,10,11,12,13] aC aC ?_;refine DR.go fun K J=>?_
  simp[hB.gs,hB.gi,hB.gl,hB.sl,hmin,hb3,hb4];refine zh ?_;clear J;refine y9 ?_;refine nv ?_;refine Run.keep [0,2,4,17,18,19] ?_;refine yh ?_;refine cI ?_;refine IH (j+1) _ _ aB aB ?_ ?_
  ·exact zS
  ·rw[htk,aK0]
 ·have hje:j=ks.length:=aB;subst hje;rw[<-hvl,aZl];have hjo:¬vs.length<om.length:=aB;refine vL hjo ?_;refine y21 ?_;refine Run.weakH (n+1) (cs':=[iA c, .p (.sl 2 (bN vs))]) (by unfold Heap.at;simp[hB.gl];rfl) ?_ ?_
  ·exact zK
  simp[hB.sl];refine nv ?_;refine Run.reg fun K J=>?_
  simp[hB.len];refine zj ?_;clear J;refine zL (hlim _ (hwfn _ (by simp;omega))) ?_;refine Run.ops fun K J=>?_
  simp[hB.len,hB.sl0];refine zj ?_;clear J;refine Run.ret ?_;refine Fin.ret' (h0:=B om c) aA (hB.len _ _) (hB.wf _ _) rfl (by simp[hB.len];rfl) rfl (Weak.refl _) aA ⟨rfl,rfl⟩
open Go Go.AI
def iE (l:Lv):Int:=if aY l then(match l.vars[l.vars.length-1]? with|some v=>max 0 (v.1+1)|none=>0) else 0
theorem aFh (h:Heap)(hh:WF h)(l:Lv)(hb:l.vars.length<=1048576):AC 109 [l.av] h (iA (iE l)):=by
 have hv:=fun(g:Heap) (hg:WF g)=>qH g hg l hb
 have hV:=fun(e:aY l=true)=>Vd.of e
 obtain⟨c,vs⟩:=l;obtain⟨r,hr⟩:∃r,iE ⟨c,vs⟩=r:=⟨_,rfl⟩;rw[hr];unfold iE at hr;simp only at hb hr;generalize aY ⟨c,vs⟩=b at hv hr hV;simp only[Lv.av,Lv.cells,List.map] at hv⊢;refine zE Tryz.func109 Tryz.ntmps109 ?_;refine iQ ?_;refine zL (hv _ (hh.app aA)) ?_
 cases b with
 |false=>
  refine rJ ?_;simp at hr;subst hr;refine Run.ret ?_;exact y2s
 |true=>
  have V:=hV rfl
  by_cases h0:0<vs.length
  ·have hg:vs[vs.length-1]?=some vs[vs.length-1]:=aYu aB;have k0:=V.i0 _ (aYx (show vs.length-1<vs.length by omega));have k1:=V.i1 _ (aYx (show vs.length-1<vs.length by omega));generalize vs[vs.length-1]=v at hg k0 k1;rw[hg] at hr;simp only[if_true] at hr;have w1:IntKind.i64.wrap ((vs.length:Int)-1)=((vs.length-1:Nat):Int):=by rw[aQ aB aB];omega
   have w2:IntKind.i64.wrap (v.1+1)=v.1+1:=aQ aB aB;have hw:(if 0<v.1+1 then v.1+1 else 0)=r:=by rw[<-hr];split<;>omega
   have h0':(0:Int)<(vs.length:Int):=aB;refine zo1 h0 ?_;refine zt ?_;refine zr4 hg w1 w2 hw ?_;refine zx ?_;exact y2s
  ·have e:vs=[]:=bAv aB;subst e;simp at hr;subst hr;refine rJ ?_;refine zx ?_;exact y2s
theorem aR3 {vs:List (Int×Int)} (h:upL vs) {u v:Int×Int} (hu:vs[vs.length-1]?=some u)(hv:v∈vs):v.1<=u.1:=by
 induction vs with
 |nil=>simp at hv
 |cons x vs ih=>
  cases vs with
  |nil=>
   simp at hu hv;subst hu hv;exact bA6 _
  |cons y vs=>
   have hu':(y::vs)[(y::vs).length-1]?=some u:=by simpa using hu
   rcases aZg.1 hv with rfl|hv
   ·have hm:=aZ9 hu';have:=h.1 u hm;omega
   ·exact ih h.2 hu' hv
theorem aJa {l:Lv} (h:aY l=true) {v:Int×Int} (hv:v∈l.vars):v.1<iE l:=by
 have hl:0<l.vars.length:=List.length_pos_of_mem hv;have hg:l.vars[l.vars.length-1]?=some l.vars[l.vars.length-1]:=aYu aB;have:=aR3 (Vd.of h).up hg hv;unfold iE;rw[h,hg];simp only[if_true];omega
theorem pS:∀(n:Nat)(l:List Int)(a:Int),l.Nodup->(∀x∈l,a<=x/\x<a+n)->l.length<=n
 |0,l,a,_,h=>by
  cases l with
  |nil=>simp
  |cons x l=>have:=h x aA;omega
 |n+1,l,a,hn,h=>by
  have ih:=pS n (l.erase (a+n)) a (hn.erase _) fun x hx=>by
   rw[hn.mem_erase_iff] at hx;have:=h x hx.2;have:=hx.1;omega
  rw[List.length_erase] at ih;split at ih<;>omega
structure StOk (s:Int×List (Int×Int)):Prop where
 c0:0<=s.1
 c1:s.1<=200
 nd:(s.2.map Prod.fst).Nodup
 k:∀i∈s.2.map Prod.fst,-65536<=i/\i<8
theorem aAg {P:Int->Prop} (n:Int):∀(vs m:List (Int×Int)),(∀i∈m.map Prod.fst,P i)->(∀v∈vs,P v.1)->∀i∈(aAf m vs n).map Prod.fst,P i
 |[],m,h,_=>h
 | v ::vs,m,h,hv=>aAg n vs (eN m v.1 (v.2+n)) (fun i hi=>by
     rcases nI m v.1 (v.2+n) i hi with c|rfl
     ·exact h i c
     ·exact hv v aA) fun w hw=>hv w (by simp[hw])
theorem StOk.step {vals:List Lv} {metas:Bool} (hv:∀x∈vals,Vd x) {s:Int×List (Int×Int)} (h:StOk s) {v:Int×Int} (v0:-65536<=v.1)(v1:v.1<8)(p1:v.2<=100):StOk (gL vals metas s v):=by
 unfold gL;split
 ·rename_i x hx
  have hx':x∈vals:=by
   exact y7d
  have V:=hv x hx';have:=V.c1;have:=h.c0;have:=h.c1;exact⟨by simp only;omega,by simp only;omega,vU _ _ h.nd,aAg _ _ _ h.k fun w hw=>⟨V.i0 w hw,V.i1 w hw⟩⟩
 ·refine⟨h.c0,h.c1,lD _ _ h.nd,fun i hi=>?_⟩;rcases nI s.2 v.1 v.2 i hi with c|rfl
  ·exact h.k i c
  ·exact⟨v0,v1⟩
theorem StOk.all {vals:List Lv} {metas:Bool} (hv:∀x∈vals,Vd x):∀(vs:List (Int×Int)) {s:Int×List (Int×Int)},(∀v∈vs,-65536<=v.1/\v.1<8/\v.2<=100)->StOk s->StOk (vs.foldl (gL vals metas) s)
 |[],_,_,h=>h
 |v::vs,_,hb,h=>StOk.all hv vs (fun w hw=>hb w (by simp[hw])) (h.step hv (hb v aA).1 (hb v aA).2.1 (hb v aA).2.2)
theorem StOk.len {s:Int×List (Int×Int)} (h:StOk s):s.2.length<=65544:=by
 have:=pS 65544 (s.2.map Prod.fst) (-65536) h.nd fun x hx=>by have:=h.k x hx;omega
 exact y6y
theorem StOk.wf {s:Int×List (Int×Int)} (h:StOk s):∀x∈s.2,(Lit.int .i64 x.1).wf=true:=by
 intro x hx;have:=h.k x.1 (aZq.2 ⟨x,hx,rfl⟩);have e1:IntKind.i64.min=-9223372036854775808:=aD;have e2:IntKind.i64.max=9223372036854775807:=aD;simp only[Lit.wf,e1,e2,aZ7,aZh];omega
theorem StOk.start {l:Lv} (h:Vd l):StOk (l.c,[]):=⟨h.c0,by have:=h.c1;simp only;omega,by simp,by simp⟩
def iJ (l:Lv)(vals:List Lv):Lv×Int:=
 if(!aY l||!vals.all aY)=true then(⟨0,[]⟩,3)
 else if(vals.length:Int)<iE l then(⟨0,[]⟩,24)
 else aKb (l.vars.foldl (gL vals false) (l.c,[]))
def mX (l:Lv)(vals:List Lv):Lv×Int:=
 if(!aY l||!vals.all aY)=true then(⟨0,[]⟩,3)
 else aKb (l.vars.foldl (gL vals true) (l.c,[]))
end Go.Proofs.YtcfcolkbeelegaaGreat
