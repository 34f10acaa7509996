import Derived.Test.YtplomildbmcmfaaGreatZA0
import Derived.MapKept
import Derived.Test.YtplomildbmcmfaaGreatZFG
import Derived.Test.YtplomildbmcmfaaGreatZFI
import Derived.Test.YtplomildbmcmfaaGreatZFLB
namespace Go.AI
open Go Go.MapKept
section
variable {P:Program} {rd:Option Nat} {nb:Nat} {k:List It} {T:List AV} {h:Heap} {D:List AD} {Q:AX->List AV->Heap->List AD->Prop} {all:Array Oper} {o:Oper} {rest:List Oper}
theorem kE {all:Array Oper} {K:List Oper->List AV->Heap->Prop} {b:List Oper} (J:∀l T h,K l T h->Run P rd nb (.ops all (l++b)::k) T h D Q):
  ∀(l:List Oper) (T:List AV) (h:Heap),sH P all K l T h->Run P rd nb (.ops all (l++b)::k) T h D Q
 |[],T,h,r=>J _ _ _ r
 |o::l,T,h,r=>by
  simp only[sH] at r;split at r
  ·rename_i hg;have hw:awanted all T o=some true:=by simp only[awanted,hg]
   split at r
   ·rename_i x h' ho;exact Run.op hw ho (kE J l _ _ r)
   ·exact J _ _ _ r
  ·rename_i g want hg;split at r
   ·rename_i hd;have hw:awanted all T o=some false:=by simp only[awanted,hg,hd]
    exact Run.off hw (kE J l _ _ r)
   ·rename_i d hd;split at r
    ·rename_i hT;have hw:awanted all T o=some false:=by simp only[awanted,hg,hd,hT]
     exact Run.off hw (kE J l _ _ r)
    ·rename_i b' hT;have hw:=jE hg hd hT;have hs:=wE hT
     by_cases e:b'=want
     ·subst e;have r1:=r.1 rfl;rw[show T.set d (tv b')=T from hs] at r1;split at r1
      ·rename_i x h' ho;exact Run.op (by rw[hw];simp) ho (kE J l _ _ r1)
      ·exact J _ _ _ r1
     ·have e':b'=!want:=aB0 e;have r2:=r.2 e';rw[<-e',show T.set d (tv b')=T from hs] at r2;exact Run.off (by rw[hw];simp[e]) (kE J l _ _ r2)
    ·exact J _ _ _ r
theorem Run.opsPreJ (n:Nat) {l:List Oper} (keep:List Nat)(slot:Nat)(b:Bool)
  (r:∀K:List Oper->List AV->Heap->Prop,(∀T',WeakL T' (setMany (keepT keep T) [(slot,tv b)])->K [] T' h)->sH P all K (l.take n) T h)
  (next:Run P rd nb (.ops all (l.drop n)::k) (setMany (keepT keep T) [(slot,tv b)]) h D Q):Run P rd nb (.ops all l::k) T h D Q:=by
 have:=kE (P:=P) (rd:=rd) (nb:=nb) (all:=all) (k:=k) (D:=D) (Q:=Q) (b:=l.drop n) (K:=fun l' T' h'=>Run P rd nb (.ops all (l'++l.drop n)::k) T' h' D Q) (fun _ _ _ h=>h) (l.take n) T h (r _ fun _ hw=>Run.weak hw next)
 rwa [bN5] at this
theorem Run.regPreJ {id:Nat} (n:Nat) {l:List Oper} (keep:List Nat)(slot:Nat)(b:Bool)
  (r:∀K:List Oper->List AV->Heap->Prop,(∀T',WeakL T' (setMany (keepT keep T) [(slot,tv b)])->K [] T' h)->sH P l.toArray K (l.take n) T h)
  (next:Run P rd nb (.ops l.toArray (l.drop n)::k) (setMany (keepT keep T) [(slot,tv b)]) h D Q):Run P rd nb (.code (.region id l.toArray false)::k) T h D Q:=
 Run.region (Run.opsPreJ n keep slot b r next)
theorem pW {l0:List Oper} {lo:List Nat} {Kont:List AV->Heap->Prop} :∀(l pre:List Oper)(T:List AV),l0=pre++l->(∀o∈l,isE o.op=false)->
  bY P l0.toArray (fun l' T' h'=>l'=[]/\(h'=h->Kont T' h)) l T h->drOps P l0.toArray lo (DR P l0.toArray lo Kont) (List.range' pre.length l.length) [] T h
 |[],pre,T,_,_,r=>by
  simp only[bY] at r;simp only[bM3,List.range'_zero,drOps,DR];simpa using r
 |o::l,pre,T,e,hE,r=>by
  have he:=hE o aA;have hi:l0.toArray[pre.length]?=some o:=by rw[e];simp
  have ih:∀T,bY P l0.toArray (fun l' T' h'=>l'=[]/\(h'=h->Kont T' h)) l T h->drOps P l0.toArray lo (DR P l0.toArray lo Kont) (List.range' (pre.length+1) l.length) [] T h:=fun T r=>by
   have:=pW (Kont:=Kont) (lo:=lo) l (pre++[o]) T (by rw[e,bMj];rfl) (fun o' h'=>hE o' (by simp[h'])) r
   rwa [bM5,bM2,bM3,bMw] at this
  simp only[bY] at r;simp only[bM2,List.range'_succ,drOps,hi,he];split at r
  ·rename_i hw;rw[hw];simp only;split at r
   ·rename_i x h' ho;have:=gL he ho;subst this;simp only[bMe,if_false,List.drop_nil];exact⟨by simp[stab],ih _ r⟩
   ·exact absurd r.1 aA
  ·rename_i hw;rw[hw];simp only[bMe,if_false];exact ih _ r
  ·exact absurd r.1 aA
theorem Run.drawPlain {id:Nat} {l:List Oper} (lo rk tbl:List Nat)(hm:P.follows .mixedOrders=true)(hok:okDraw l.toArray lo rk tbl none (List.range l.length)=true)(hE:l.all (fun o=>!isE o.op)=true)
  (r:∀K:List Oper->List AV->Heap->Prop,(∀T',Run P rd nb k T' h D Q->K [] T' h)->bY P l.toArray K l T h):Run P rd nb (.code (.region id l.toArray true)::k) T h D Q:=by
 refine Run.draw lo rk tbl (List.range l.length) hm hok (drOps_sound _ _ _ _ ?_);rw[List.range_eq_range'];refine pW l [] T aA (fun o ho=>by simpa using bMg.1 hE o ho) (r _ fun T' h'=>⟨rfl,fun _=>h'⟩)
theorem Run.opU {R:Heap->Prop} (hw:awanted all T o=some true)(hnd:∀c,o.op≠ .defer c)
  (ho:∀E w a,St E w a T h D->∃h' E' w',R h'/\(execOp a.eval o).run P w= .ok .skip w'/\Rel E' (Heap.at h') w'/\Fresh E' h'.length/\Fr E (Heap.at h) w E' (Heap.at h') w')
  (r:∀h',R h'->Run P rd nb (.ops all rest::k) (tput T o.dst (.tup [])) h' D Q):Run P rd nb (.ops all (o::rest)::k) T h D Q:=by
 intro E w a s;obtain⟨h',E',w',hR,hrun,hr,hf,hfr⟩:=ho E w a s;have s':St E' w' (a.put o.dst undef) (tput T o.dst (.tup [])) h' D:=(s.move hfr hr hf).put (by simp only[Rep,RepL];exact⟨[],rfl,rfl⟩) o.dst;have:=r h' hR E' w' _ s';exact y41
theorem aEs {es:List MapEntry} {kvs:List (Value×Value)} (he:es.map (fun e=>(e.key,e.val))=kvs):es.map (·.key)=kvs.map Prod.fst/\∀e∈es,(e.key,e.val)∈kvs:=by
 subst he;exact⟨by simp[Function.comp_def],fun e h=>bMr.2 ⟨e,h,rfl⟩⟩
def aAf (P:Program)(t:TypeId)(z:Value):Prop:=∃i,P.info? t=some i/\i.zero=some z
theorem aHw {P:Program} {t:TypeId} {z:Value} (h:aAf P t z)(w:World):(zeroValue t).run P w= .ok z w:=by
 obtain⟨i,hi,hz⟩:=h;simp[zeroValue,typeInfo,hi,hz]
def zeroB (P:Program)(t:TypeId):Bool:=match P.info? t with
 |some i=>match i.zero with
  |some (.bool false)=>true
  |_=>false
 |none=>false
theorem aSy {P:Program} {t:TypeId} (h:zeroB P t=true):aAf P t (.bool false):=by
 unfold zeroB at h;exact y7f
def aXt (P:Program)(t:TypeId):Bool:=match P.info? t with
 |some i=>match i.zero with
  |some (.int .i64 0)=>true
  |_=>false
 |none=>false
theorem aSz {P:Program} {t:TypeId} (h:aXt P t=true):aAf P t (.int .i64 0):=by
 unfold aXt at h;exact y7f
def aAp (kvs:List (Value×Value))(key z:Value)(v:Value)(b:Bool):Prop:=(b=true/\(∀v',(key,v')∈kvs->v'=v)/\key∈kvs.map Prod.fst)\/(b=false/\key∉kvs.map Prod.fst/\v=z)
theorem aHv {P:Program} {t kt et:TypeId} {d:TypeDesc} {g:Nat} {kvs:List (Value×Value)} {key z v:Value} {b:Bool} {w:World} {es:Array MapEntry} {c:Nat} (ok:Bool)
  (ht:P.underlying t=some (.map kt et)) (hd:P.underlying kt=some d) (hz:aAf P et z) (hh:w.heap[g]?=some (.map es c)) (he:es.toList.map (fun e=>(e.key,e.val))=kvs)
  (hks:∀x∈kvs,IsKey d x.1) (hkey:IsKey d key) (hf:aAp kvs key z v b):(Instr.lookup t (.map (some g)) key ok).run P w= .ok (if ok then .tuple #[v, .bool b] else v) w:=by
 obtain⟨e1,e2⟩:=aEs he;have hes:∀x∈es.toList,IsKey d x.key:=fun x hx=>hks _ (e2 x hx)
 have hf':(Instr.findNow d key es.toList 0=some none/\b=false/\v=z)\/∃j,Instr.findNow d key es.toList 0=some (some (j,v))/\b=true:=by
  rcases findNow_spec hkey es.toList 0 hes with ⟨h1,h2⟩|⟨j,e,h1,h2,h3⟩
  ·rcases hf with ⟨hb,_,hm⟩|⟨hb,hm,hv⟩
   ·obtain⟨x,hx,hxk⟩:=bMr.1 (e1▸hm);exact absurd hxk (h2 x hx)
   ·exact .inl ⟨h1,hb,hv⟩
  ·have hmem:=bMa h2;rcases hf with ⟨hb,hv,_⟩|⟨hb,hm,_⟩
   ·have:=hv e.val (h3▸e2 e hmem);exact .inr ⟨0+j,by rw[h1,this],hb⟩
   ·exact absurd (e1▸bMr.2 ⟨e,hmem,h3⟩) hm
 simp only[Instr.lookup,Sem.run_bind,run_underlying ht,Result.andThen,MapKept.run_getObj_map hh,run_checkKey hd hkey,Sem.run_pure];rcases hf' with ⟨h1,rfl,rfl⟩|⟨j,h1,rfl⟩
 ·simp[run_findKey hd h1,Result.andThen,aHw hz]
 ·simp[run_findKey hd h1]
theorem Run.mapUpdate {t kt et:TypeId} {d:TypeDesc} {m ix x:Operand} {id:Nat} {kvs:List (Value×Value)} {key v:Value} (ho:o.op= .mapUpdate t m ix x)(hw:awanted all T o=some true)
  (ht:P.underlying t=some (.map kt et)) (hd:P.underlying kt=some d)
  (hm:aev T m= .mp id) (hid:h.at id=some (.aux (.map kvs))) (hks:∀x∈kvs,IsKey d x.1) (hk:aev T ix= .p (.prim key)) (hkey:IsKey d key) (hb0:key∉kvs.map Prod.fst) (hx:aev T x= .p (.prim v))
  (r:Run P rd nb (.ops all rest::k) (tput T o.dst (.tup [])) (h.set id (some (.aux (.map (kvs++[(key,v)]))))) D Q):Run P rd nb (.ops all (o::rest)::k) T h D Q:=by
 refine Run.opU (R:=fun h'=>h'=h.set id (some (.aux (.map (kvs++[(key,v)]))))) hw (fun c hc=>by rw[hc] at ho;cases ho) ?_ (by rintro h' rfl;exact r);intro E w a s;have hmr:=aev_rep s m;rw[hm] at hmr;simp only[Rep] at hmr;obtain⟨g,hg,hmv⟩:=hmr;have hkr:=aev_rep s ix;rw[hk] at hkr;simp only[Rep,RepP] at hkr;have hxr:=aev_rep s x;rw[hx] at hxr;simp only[Rep,RepP] at hxr;obtain⟨g',hg',ho'⟩:=s.rel.objsO id _ hid rfl;rw[hg] at hg';cases hg';obtain⟨es,c,hh,he,hst⟩:=ho';obtain⟨e1,e2⟩:=aEs he;have hes:∀x∈es.toList,IsKey d x.key:=fun x hx=>hks _ (e2 x hx)
 obtain⟨q1,q2⟩:=MapKept.heap_set (o':= .map (es.push {key,val:=v,born:=c}) (c+1)) hh
 have hrun:(Instr.mapUpdate t (.map (some g)) key v).run P w= .ok () {w with heap:=w.heap.setIfInBounds g (.map (es.push {key,val:=v,born:=c}) (c+1))} :=by
  have hf:Instr.findNow d key es.toList 0=some none:=by
   rcases findNow_spec hkey es.toList 0 hes with ⟨h1,h2⟩|⟨j,e,h1,h2,h3⟩
   ·exact h1
   ·exact absurd (e1▸bMr.2 ⟨e,bMa h2,h3⟩) hb0
  simp only[Instr.mapUpdate,Sem.run_bind,run_underlying ht,Result.andThen,MapKept.run_getObj_map hh,run_checkKey hd hkey,run_findKey hd hf,MapKept.run_setObj_map _ hh]
 have hst':Stamped (es.push {key,val:=v,born:=c}) (c+1):=by
  obtain⟨s1,s2,s3⟩:=hst;refine⟨fun x hx=>?_,?_,?_⟩
  ·simp only[Array.toList_push,bMo,List.mem_singleton] at hx;rcases hx with hx|rfl
   ·have:=s1 x hx;omega
   ·exact Nat.lt_succ_self c
  ·simp only[Array.toList_push,bMy,bMd,bNb];refine List.nodup_append.2 ⟨s2,by simp,fun a ha b hb=>?_⟩;obtain⟨x,hx,rfl⟩:=bMr.1 ha;have:=s1 x hx;simp only[List.mem_singleton] at hb;omega
  ·simp only[Array.toList_push,bMy,bMd,bNb];refine List.nodup_append.2 ⟨s3,by simp,fun a ha b hb=>?_⟩;simp only[List.mem_singleton] at hb;subst hb;rintro rfl;exact hb0 (e1▸ha)
 obtain⟨g1,g2⟩:=s.rel.writeO (w':= {w with heap:=w.heap.setIfInBounds g (.map (es.push {key,val:=v,born:=c}) (c+1))}) hid rfl (o':= .aux (.map (kvs++[(key,v)]))) rfl hg
  (fun _=>⟨_,_,q1,by simp[he],hst'⟩) q2 aA rfl rfl
 refine⟨_,E,_,rfl,?_,g1,by simpa using s.fresh,g2⟩;simp only[execOp,ho];rw[hmv,hkr.1,hxr.1];simp[hrun]
end
end Go.AI
namespace Go.AI.EV
open Go Go.AI
structure LD where
 T:List AV
 ps:Array Tmp
 asg:Code
 bd:Code
abbrev Ks:=Nat->Nat×LD
def iof (ks:Ks):Fn->Fn
 | .yield j=> .yield (ks j).1
 |f=>f
def qH (ks:Ks)(c:Nat):Nat:=if c%2=0 then c/2 else c/2%1048576+(ks (c/2/1048576)).1
mutual
def io (ks:Ks):AV->AV
 | .p x=> .p x
 | .agg cs=> .agg (ioL ks cs)
 | .tup cs=> .tup (ioL ks cs)
 | .ptr a b=> .ptr a b
 | .sm id off len cap sz=> .sm id off len (qH ks cap) sz
 | .own a b c=> .own a b c
 | .fn f xs ys=> .fn (iof ks f) (ioL ks xs) (ioL ks ys)
 | .ifc t x=> .ifc t (io ks x)
 | .mp a=> .mp a
 | .vec a b=> .vec a b
 | .junk=> .junk
def ioL (ks:Ks):List AV->List AV
 |[]=>[]
 |x::l=>io ks x::ioL ks l
end
theorem fB (ks:Ks):∀l:List AV,ioL ks l=l.map (io ks)
 |[]=>by simp only[ioL,bNb]
 |x::l=>by simp only[ioL,bMd,fB ks l]
theorem eV (ks:Ks)(x:PV):io ks (.p x)= .p x:=by simp only[io]
theorem aC6 (ks:Ks):io ks .junk= .junk:=by simp only[io]
theorem yL (ks:Ks)(l:List AV):io ks (.agg l)= .agg (l.map (io ks)):=by simp only[io,fB]
theorem io_tup (ks:Ks)(l:List AV):io ks (.tup l)= .tup (l.map (io ks)):=by simp only[io,fB]
theorem oG (ks:Ks)(a b:Nat):io ks (.ptr a b)= .ptr a b:=by simp only[io]
theorem io_sm (ks:Ks)(a b c d e:Nat):io ks (.sm a b c d e)= .sm a b c (qH ks d) e:=by simp only[io]
theorem mA (ks:Ks)(a b:Nat) (c):io ks (.own a b c)= .own a b c:=by simp only[io]
theorem yM (ks:Ks)(f:Fn)(a b:List AV):io ks (.fn f a b)= .fn (iof ks f) (a.map (io ks)) (b.map (io ks)):=by simp only[io,fB]
theorem aLu (ks:Ks)(t:TypeId)(x:AV):io ks (.ifc t x)= .ifc t (io ks x):=by simp only[io]
theorem bCg (ks:Ks)(a:Nat):io ks (.mp a)= .mp a:=by simp only[io]
theorem bCh (ks:Ks)(a b:Nat):io ks (.vec a b)= .vec a b:=by simp only[io]
attribute [simp] eV aC6 yL io_tup oG io_sm mA yM aLu bCg bCh
theorem qK (ks:Ks)(l:List Value):(prims l).map (io ks)=prims l:=by simp[prims]
theorem aQg (ks:Ks)(v:Value):io ks (sS v)=sS v:=by
 unfold sS;split
 ·split
  ·simp
  ·simp
 ·split<;>simp
 ·split<;>simp
theorem rO (ks:Ks):∀(T:List AV)(n:Nat),tget (T.map (io ks)) n=io ks (tget T n)
 |[],n=>by simp[tget]
 |x::T,0=>by simp[tget]
 |x::T,n+1=>by simp only[bMd,tget,rO ks T n]
theorem aev_io (ks:Ks)(T:List AV)(x:Operand):aev (T.map (io ks)) x=io ks (aev T x):=by
 cases x with
 |tmp t=>simp only[aev,rO]
 |const v=>simp only[aev,aQg]
 |global g=>simp[aev]
 |func f=>simp[aev]
theorem tput_io (ks:Ks)(T:List AV)(d:Option Tmp)(x:AV):tput (T.map (io ks)) d (io ks x)=(tput T d x).map (io ks):=by
 cases d<;>simp[tput,List.map_set]
theorem jG (ks:Ks)(x:AV):cU (io ks x)=(cU x).map (List.map (io ks)):=by
 cases x<;>simp[cU]
theorem aWv (ks:Ks)(x:AV):lI (io ks x)=lI x:=by
 cases x<;>simp[lI]
theorem aO4 (ks:Ks):∀(x:AV),rQ (io ks x)=rQ x
 | .p x=>by simp
 | .agg cs=>by simp[rQ]
 | .tup cs=>by simp[rQ]
 | .ptr a b=>by simp
 | .sm id off len cap sz=>by simp[rQ]
 | .own a b c=>by simp
 | .fn f xs ys=>by simp[rQ]
 | .ifc t x=>by simp only[aLu,rQ,aO4 ks x]
 | .mp a=>by simp
 | .vec a b=>by simp
 | .junk=>by simp
theorem aFa (ks:Ks):∀(l:List AV),nS (l.map (io ks))=nS l
 |[]=>rfl
 |x::l=>by simp only[bMd,nS,aO4,aFa ks l]
theorem jR {α β:Type} (f:α->β):∀(us l:List α)(off:Nat),(patch l off us).map f=patch (l.map f) off (us.map f)
 |[],l,off=>rfl
 |u::us,l,off=>by simp only[patch,bMd,jR f us,List.map_set]
theorem iG (ks:Ks)(x:AV):sG (io ks x)=sG x:=by
 cases x<;>simp[sG]
theorem aDo (ks:Ks)(pl:List (Nat×Nat)):∀(parts:List (Nat×AV))(cells:List AV),sK pl (cells.map (io ks)) (parts.map fun p=>(p.1,io ks p.2))=(sK pl cells parts).map (List.map (io ks))
 |[],cells=>by simp[sK]
 |(i,x)::rest,cells=>by
  simp only[bMd,sK,jG]
  cases pl[i]? with
  |none=>simp
  |some q=>
   cases cU x with
   |none=>simp
   |some us=>
    simp only[bN2,bMp];split
    ·rw[<-jR,aDo ks pl rest]
    ·rfl
theorem xC (ks:Ks)(sz:Nat):∀(parts:List (Nat×AV))(es:List (List PV)),kJ sz es (parts.map fun p=>(p.1,io ks p.2))=kJ sz es parts
 |[],es=>by simp[kJ]
 |(i,x)::rest,es=>by
  have e:(cU (io ks x)).bind nS=(cU x).bind nS:=by
   rw[jG]
   cases cU x with
   |none=>rfl
   |some us=>simp only[bN2,Option.bind_some,aFa]
  simp only[bMd,kJ,e,xC ks sz rest]
theorem aU6 (ks:Ks)(t:TypeId)(x:AV):aU5 t (io ks x)=io ks (aU5 t x):=by
 cases x<;>simp[aU5]
theorem aMg (ks:Ks)(x:AV):qS (io ks x)=qS x:=by
 cases x with
 |p x=>simp
 |_=>simp[qS]
open Go Go.AI
def aN7:Op->Bool
 | .move _| .assign _| .pick .. | .build .. | .buildSlice .. | .nilCheck _| .binOp .. | .unOp .. | .convert .. | .makeInterface .. | .fieldAddr .. | .field .. | .indexAddr .. | .index .. | .extract .. | .typeAssert .. =>true
 | .makeFunc f _ _=>match f with| .yield _=>false|_=>true
 | .call ⟨.builtin .len,_,_⟩| .call ⟨.builtin .max,_,_⟩| .call ⟨.builtin .min,_,_⟩=>true
 |_=>false
section
variable {P:Program} {ks:Ks}
theorem aIv {t:TypeId} {parts:List (Nat×AV)} {x:AV} (h:pJ P t parts=some x):pJ P t (parts.map fun p=>(p.1,io ks p.2))=some (io ks x):=by
 unfold pJ at h⊢
 cases hz:aS P t with
 |none=>simp[hz] at h
 |some z=>
  cases hs:stT P t with
  |none=>simp[hz,hs] at h
  |some pl=>
   simp only[hz,hs] at h⊢;obtain⟨cs,h1,rfl⟩:=bMb.1 h;have:=aDo ks pl parts (prims z);rw[qK,h1] at this;rw[this];simp
theorem aFn {t:TypeId} {n:Nat} {parts:List (Nat×AV)} {x:AV} (h:eW P t n parts=some x):eW P t n (parts.map fun p=>(p.1,io ks p.2))=some (io ks x):=by
 unfold eW at h⊢
 cases he:elT P t with
 |none=>simp[he] at h
 |some e=>
  cases h1:szT P e with
  |none=>simp[he,h1] at h
  |some sz=>
   cases h2:aS P e with
   |none=>simp[he,h1,h2] at h
   |some z=>
    simp only[he,h1,h2,xC] at h⊢;split at h
    ·rename_i hc;rw[if_pos hc];obtain⟨es,h3,rfl⟩:=bMb.1 h;rw[h3];simp
    ·cases h
theorem aUa {op:BinOp} {t:TypeId} {x y:AV} (h:aU9 P op t x=some y):aU9 P op t (io ks x)=some (io ks y):=by
 unfold aU9 at h⊢
 cases hu:P.underlying t with
 |none=>simp[hu] at h
 |some d=>
  cases d<;>simp only[hu] at h⊢<;>try (cases h;done)
  split at h<;>first|(cases h;done)|(simp only[bM0] at h;subst h;simp)
theorem aU3 {op:BinOp} {t:TypeId} {x y z:AV} (h:abin P op t x y=some z):abin P op t (io ks x) (io ks y)=some (io ks z):=by
 unfold abin at h;split at h
 ·exact y65
 ·rename_i a b hne;obtain⟨v,h1,rfl⟩:=bMb.1 h;unfold abin;split
  ·rename_i e1 e2;simp only[eV,AV.p.injEq,PV.prim.injEq] at e1 e2;exact absurd e2 (hne _ _ e1)
  ·rename_i e1 e2;simp only[eV,AV.p.injEq,PV.prim.injEq] at e1 e2;subst e1;subst e2;rw[h1];simp
  ·rename_i e1 e2;simp at e1
  ·rename_i e1 e2 e3;exact absurd rfl (e2 _ _ (eV ks _))
 ·exact y65
 ·cases h
theorem bAe {op:UnOp} {x y:AV} (h:aun op x=some y):aun op (io ks x)=some (io ks y):=by
 unfold aun at h;split at h<;>first|(cases h;done)|(simp only[bM0] at h;subst h;simp[aun])
theorem aP7 {s d:TypeId} {x y:AV} (h:xB P s d x=some y):xB P s d (io ks x)=some (io ks y):=by
 unfold xB at h;split at h<;>first|(cases h;done)|(rename_i e1 e2;simp only[bM0] at h;subst h;simp[xB,e1,e2])
theorem uR {t:TypeId} {f:Nat} {x y:AV} (h:dZ P t x f=some y):dZ P t (io ks x) f=some (io ks y):=by
 unfold dZ at h⊢
 cases hf:cD P t f with
 |none=>simp[hf] at h
 |some q=>
  obtain⟨fo,n,g⟩:=q;simp only[hf] at h⊢
  cases x with
  |ptr id off=>simp only[bM0] at h;subst h;simp
  |p x=>cases x with
   |ro cs=>
    simp only[eV] at h⊢;split at h
    ·rename_i hc;rw[if_pos hc];simp only[bM0] at h;subst h;simp
    ·cases h
   |_=>cases h
  |_=>cases h
theorem aIw {t:TypeId} {f:Nat} {x y:AV} (h:pK P t x f=some y):pK P t (io ks x) f=some (io ks y):=by
 unfold pK at h⊢
 cases hf:cD P t f with
 |none=>simp[hf] at h
 |some q=>
  obtain⟨fo,n,g⟩:=q;simp only[hf] at h⊢
  cases x with
  |agg cs=>
   simp only[yL] at h⊢
   cases g with
   |true=>simp only[if_true,bM0] at h⊢;subst h;simp
   |false=>simp only[bMe,if_false] at h⊢;simp[h]
  |_=>cases h
theorem uS {t:TypeId} {x i y:AV} (h:eA P t x i=some y):eA P t (io ks x) (io ks i)=some (io ks y):=by
 unfold eA at h⊢;rw[iG]
 cases hi:sG i with
 |none=>rw[hi] at h;cases h
 |some n=>
  simp only[hi] at h⊢;split at h
  ·cases h
  ·rename_i hn;rw[if_neg hn]
   cases he:elT P t with
   |some e=>
    simp only[he] at h⊢
    cases hs:szT P e with
    |none=>simp[hs] at h
    |some sz=>
     simp only[hs] at h⊢
     cases x with
     |p x=>cases x with
      |sl s es=>
       simp only[eV] at h⊢;exact y4h
      |_=>cases h
     |own a b c=>
      simp only[mA] at h⊢;exact y4h
     |sm id off len c s=>
      simp only[io_sm] at h⊢;exact y50
     |_=>cases h
   |none=>
    simp only[he] at h⊢
    cases ha:arT P t with
    |none=>simp[ha] at h
    |some q=>
     obtain⟨m,e⟩:=q;simp only[ha] at h⊢
     cases hs:szT P e with
     |none=>simp[hs] at h
     |some sz=>
      simp only[hs] at h⊢
      cases x with
      |ptr id off=>
       simp only[oG] at h⊢;exact y50
      |p x=>cases x with
       |ro cs=>
        simp only[eV] at h⊢;exact y50
       |_=>cases h
      |_=>cases h
theorem aIx {t:TypeId} {x i y:AV} (h:pL P t x i=some y):pL P t (io ks x) (io ks i)=some (io ks y):=by
 unfold pL at h⊢;rw[iG]
 cases hi:sG i with
 |none=>rw[hi] at h;cases h
 |some n=>
  simp only[hi] at h⊢;split at h
  ·cases h
  ·rename_i hn;rw[if_neg hn]
   cases x with
   |p x=>cases x with
    |prim v=>cases v with
     |string s=>
      simp only[eV] at h⊢;exact y4h
     |_=>cases h
    |_=>cases h
   |agg cs=>
    simp only[yL] at h⊢
    cases ha:arT P t with
    |none=>simp[ha] at h
    |some q=>
     obtain⟨m,e⟩:=q;simp only[ha] at h⊢
     cases hs:szT P e with
     |none=>simp[hs] at h
     |some sz=>
      cases hg:dW P e with
      |none=>simp[hs,hg] at h
      |some ag=>
       simp only[hs,hg] at h⊢;split at h
       ·rename_i hc;rw[if_pos hc]
        cases ag with
        |true=>simp only[if_true,bM0] at h⊢;subst h;simp
        |false=>simp only[bMe,if_false] at h⊢;simp[h]
       ·cases h
   |_=>cases h
theorem aU7 {t:TypeId} {x y:AV} (h:aT8 P t x=some y):aT8 P t (io ks x)=some (io ks y):=by
 unfold aT8 at h;split at h<;>first|(cases h;done)|(rename_i e1;simp only[bM0] at h;subst h;simp[aT8,e1])
theorem aAv {t:TypeId} {x y:AV} (h:hK P t x=some y):hK P t (io ks x)=some (io ks y):=by
 unfold hK at h⊢
 cases hu:P.underlying t with
 |none=>simp[hu] at h
 |some d=>
  cases d<;>simp only[hu] at h⊢<;>try (cases h;done)
  all_goals
   split at h
   ·split at h
    ·rename_i hc;simp only[bM0] at h;subst h;simp[hc]
    ·cases h
   ·cases h
theorem aP9 {ρ ρ':Operand->AV} {op:Op} {x:AV} {g h:Heap} (hp:aN7 op=true)(hr:∀y,ρ' y=io ks (ρ y))(e:aop P ρ [] op=some (x,g)):aop P ρ' h op=some (io ks x,h):=by
 have hmap:∀l:List Operand,l.map ρ'=(l.map ρ).map (io ks):=fun l=>by rw[bOr];exact List.map_congr_left fun y _=>hr y
 have pairs:∀ps:List (Nat×Operand),(ps.map fun p=>(p.1,ρ' p.2))=(ps.map fun p=>(p.1,ρ p.2)).map fun p=>(p.1,io ks p.2):=fun ps=>by
  rw[bOr];exact List.map_congr_left fun y _=>by simp[hr]
 cases op<;>simp only[aN7] at hp<;>try (cases hp;done)
 case move y=>simp only[aop,bM0,bMf] at e⊢;exact⟨by rw[hr,e.1],trivial⟩
 case assign y=>simp only[aop,bM0,bMf] at e⊢;exact⟨by rw[hr,e.1],trivial⟩
 case pick c a b=>
  simp only[aop] at e⊢;split at e
  ·rename_i t hc;simp only[bM0,bMf] at e;rw[hr,hc];simp only[eV,bM0,bMf,and_true];rw[<-e.1]
   cases t<;>simp[hr]
  ·cases e
 case build t ps=>
  simp only[aop] at e⊢;obtain⟨v,h1,h2⟩:=bMb.1 e;cases h2;rw[pairs,aIv h1];rfl
 case buildSlice t n ps=>
  simp only[aop] at e⊢;obtain⟨v,h1,h2⟩:=bMb.1 e;cases h2;rw[pairs,aFn h1];rfl
 case nilCheck y=>
  simp only[aop] at e⊢;rw[hr,aMg];split at e
  ·rename_i hc;rw[if_pos hc];simp only[bM0,bMf] at e;rw[e.1]
  ·cases e
 case binOp op t x' y' u=>
  simp only[aop] at e⊢;obtain⟨v,h1,h2⟩:=bMb.1 e;cases h2;split at h1
  ·rename_i hc;rw[if_pos hc,hr,aUa h1];rfl
  ·rename_i hc;rw[if_neg hc,hr,hr,aU3 h1];rfl
 case unOp op t x'=>
  simp only[aop] at e⊢;obtain⟨v,h1,h2⟩:=bMb.1 e;cases h2;rw[hr,bAe h1];rfl
 case convert s d x'=>
  simp only[aop] at e⊢;obtain⟨v,h1,h2⟩:=bMb.1 e;cases h2;rw[hr,aP7 h1];rfl
 case makeInterface t x'=>
  simp only[aop] at e⊢
  cases hu:P.underlying t with
  |none=>simp[hu] at e
  |some d=>
   cases d<;>simp only[hu] at e⊢<;>first|(cases e;done)|(simp only[bM0,bMf] at e⊢;exact⟨by rw[hr,aU6,e.1],trivial⟩)
 case makeFunc f a b=>
  simp only[aop,bM0,bMf] at e⊢;rw[<-e.1,hmap,hmap,yM]
  cases f<;>simp[iof] at hp⊢
 case fieldAddr t x' f=>
  simp only[aop] at e⊢;obtain⟨v,h1,h2⟩:=bMb.1 e;cases h2;rw[hr,uR h1];rfl
 case field t x' f=>
  simp only[aop] at e⊢;obtain⟨v,h1,h2⟩:=bMb.1 e;cases h2;rw[hr,aIw h1];rfl
 case indexAddr t x' i=>
  simp only[aop] at e⊢;obtain⟨v,h1,h2⟩:=bMb.1 e;cases h2;rw[hr,hr,uS h1];rfl
 case index t x' i=>
  simp only[aop] at e⊢;obtain⟨v,h1,h2⟩:=bMb.1 e;cases h2;rw[hr,hr,aIx h1];rfl
 case extract t i=>
  simp only[aop] at e⊢;split at e
  ·rename_i vs hc;obtain⟨v,h1,h2⟩:=bMb.1 e;cases h2;rw[hr,hc];simp[h1]
  ·cases e
 case typeAssert x' a b c=>
  cases c with
  |false=>simp[aop] at e
  |true=>
   simp only[aop] at e⊢;obtain⟨v,h1,h2⟩:=bMb.1 e;cases h2;rw[hr,aAv h1];rfl
 case call c=>
  obtain⟨callee,args,types⟩:=c
  cases callee with
  |value f=>simp at hp
  |invoke r m=>simp at hp
  |builtin b=>
   simp only[aop] at e⊢;rw[hmap];generalize args.toList.map ρ=asq at e
   have key:∀b,(b= .len\/b= .max\/b= .min)->abuiltin P b types asq []=some (x,g)->abuiltin P b types (asq.map (io ks)) h=some (io ks x,h):=by
    intro b hb e;unfold abuiltin at e;split at e
    ·rename_i t' x' e2 _;obtain⟨v,h1,h2⟩:=bMb.1 e;cases h2;unfold abuiltin;rw[e2];simp only[bMd,bNb,aU7 h1,bN2]
    ·exact y7m
    ·exact y7m
    ·exact y7b
    ·exact y7b
    ·exact y7b
    ·exact y7b
    ·cases e
   refine key b ?_ e
   cases b<;>simp only[] at hp<;>first|(cases hp;done)|simp
end
end Go.AI.EV
namespace Go.AI.EV
open Go Go.AI
inductive XO where
 |cells (cs:List AV)
 |row (n0 j sz:Nat) (cs:List AV)
 |tok (n sz:Nat)
 |map (kvs:List (Value×Value))
 |loop (j:Nat) (st:LoopState) (pend:Option Code)
 |dblk
 |dead
def iO (ks:Ks):XO->Option AO
 | .cells cs=>some (.cells (cs.map (io ks)))
 | .row n0 j sz cs=>some (.cells (cs.map (io ks)++List.replicate ((n0+(ks j).1)*sz-cs.length) .junk))
 | .tok n sz=>some (.tok n sz)
 | .map kvs=>some (.aux (.map kvs))
 | .loop j st pend=>some (.aux (.loop (ks j).1 st pend (ks j).2.T (ks j).2.ps (ks j).2.asg (ks j).2.bd))
 | .dblk=>some (.aux .dblk)
 | .dead=>none
abbrev HX:=List XO
def iH (ks:Ks)(H:HX):Heap:=H.map (iO ks)
theorem bJ (ks:Ks)(H:HX):(iH ks H).length=H.length:=by simp[iH]
theorem fA (ks:Ks)(H G:HX):iH ks (H++G)=iH ks H++iH ks G:=by simp[iH]
theorem jK (ks:Ks)(H:HX)(i:Nat)(o:XO):(iH ks H).set i (iO ks o)=iH ks (H.set i o):=by simp[iH,List.map_set]
theorem lC {ks:Ks} {H:HX} {i:Nat} {o:XO} (h:H[i]?=some o):(iH ks H).at i=iO ks o:=by
 unfold Heap.at iH;simp[h]
def cellsOf:XO->Option (List AV)
 | .cells cs=>some cs
 | .row _ _ _ cs=>some cs
 |_=>none
def kD:XO->List AV->XO
 | .row n0 j sz _,cs=> .row n0 j sz cs
 |_,cs=> .cells cs
theorem iF {ks:Ks} {o:XO} {cs:List AV} (h:cellsOf o=some cs):∃R,iO ks o=some (.cells (cs.map (io ks)++R))/\∀cs',cs'.length=cs.length->iO ks (kD o cs')=some (.cells (cs'.map (io ks)++R)):=by
 cases o<;>simp only[cellsOf,bM0] at h<;>try (cases h;done)
 ·subst h;exact⟨[],by simp[iO],fun cs' _=>by simp[iO,kD]⟩
 ·subst h;exact⟨_,rfl,fun cs' hl=>by simp[iO,kD,hl]⟩
section
variable {P:Program} {ks:Ks}
def aDe (P:Program)(t:TypeId)(a:AV)(H:HX):Option AV:=
 match dW P t,szT P t with
 |some ag,some n=>match a with
  | .ptr id off=>match (H[id]?).bind cellsOf with
   |some cs=>if ag then(if off+n<=cs.length then some (.agg ((cs.drop off).take n)) else none) else cs[off]?
   |none=>none
  | .p (.ro cs)=>if ag then(if n<=cs.length then some (.agg ((cs.take n).map .p)) else none) else(cs[0]?).map .p
  |_=>none
 |_,_=>none
theorem gM {H:HX} {id:Nat} {cs:List AV} (h:(H[id]?).bind cellsOf=some cs):∃o,H[id]?=some o/\cellsOf o=some cs:=by
 cases e:H[id]? with
 |none=>rw[e] at h;cases h
 |some o=>rw[e] at h;exact⟨o,rfl,h⟩
theorem eQ {f:AV->AV} {cs R:List AV} {off n:Nat} (h:off+n<=cs.length):((cs.map f++R).drop off).take n=((cs.drop off).take n).map f:=by
 rw[List.drop_append_of_le_length (by simp;omega),bMx (by simp;omega),List.map_take,List.map_drop]
theorem aFf {t:TypeId} {a x:AV} {H:HX} (h:aDe P t a H=some x):aAt P t (io ks a) (iH ks H)=some (io ks x):=by
 unfold aDe at h;unfold aAt
 cases hg:dW P t with
 |none=>simp[hg] at h
 |some ag=>
  cases hs:szT P t with
  |none=>simp[hg,hs] at h
  |some n=>
   simp only[hg,hs] at h⊢
   cases a with
   |ptr id off=>
    simp only[oG] at h⊢
    cases hb:(H[id]?).bind cellsOf with
    |none=>simp only[hb] at h;cases h
    |some cs=>
     simp only[hb] at h;obtain⟨o,h1,h2⟩:=gM hb;obtain⟨R,h3,_⟩:=iF (ks:=ks) h2;rw[lC h1,h3]
     cases ag with
     |true=>
      simp only[if_true] at h⊢;split at h
      ·rename_i hc;simp only[bM0] at h;subst h;rw[if_pos (by simp;omega),eQ hc,yL]
      ·cases h
     |false=>
      simp only[bMe,if_false] at h⊢;have hlt:off<cs.length:=(bLw.1 h).1;rw[bM9 (by simpa using hlt)];simp[h]
   |p x=>cases x with
    |ro cs=>
     simp only[eV] at h⊢
     cases ag with
     |true=>
      simp only[if_true] at h⊢;split at h
      ·rename_i hc;rw[if_pos hc];simp only[bM0] at h;subst h;rw[yL,bOr,show io ks∘AV.p=AV.p from funext (eV ks)]
      ·cases h
     |false=>
      simp only[bMe,if_false] at h⊢;obtain⟨y,h1,rfl⟩:=bMb.1 h;rw[h1];simp
    |_=>cases h
   |_=>cases h
def aOs (P:Program)(t:TypeId)(a v:AV)(H:HX):Option HX:=
 match a with
 | .ptr id off=>match H[id]?,cU v with
  |some o,some us=>match cellsOf o with
   |some cs=>if szT P t=some us.length/\off+us.length<=cs.length/\us.all lI=true then some (H.set id (kD o (patch cs off us))) else none
   |none=>none
  |_,_=>none
 |_=>none
theorem patch_app {α:Type} :∀(us l R:List α)(off:Nat),off+us.length<=l.length->patch (l++R) off us=patch l off us++R
 |[],_,_,_,_=>rfl
 |u::us,l,R,off,h=>by
  simp only[bM2] at h;simp only[patch];rw[bMq _ _ aB,patch_app us _ R _ (by simp;omega)]
theorem sY (us:List AV):(us.map (io ks)).all lI=us.all lI:=by
 rw[List.all_map]
 congr 1
 funext x
 exact aWv ks x
theorem aOt {t:TypeId} {a v:AV} {H H':HX} (h:aOs P t a v H=some H'):sZ P t (io ks a) (io ks v) (iH ks H)=some (iH ks H'):=by
 unfold aOs at h
 cases a with
 |ptr id off=>
  simp only at h
  cases h1:H[id]? with
  |none=>rw[h1] at h;cases h
  |some o=>
   cases h2:cU v with
   |none=>rw[h1,h2] at h;cases h
   |some us=>
    cases h3:cellsOf o with
    |none=>simp only[h1,h2,h3] at h;cases h
    |some cs=>
     simp only[h1,h2,h3] at h;split at h
     ·rename_i hc;obtain⟨c1,c2,c3⟩:=hc;simp only[bM0] at h;subst h;obtain⟨R,h4,h5⟩:=iF (ks:=ks) h3;unfold sZ;simp only[oG,lC h1,h4,jG,h2,bN2];rw[if_pos ⟨by simpa using c1,by simp;omega,by rw[sY];exact c3⟩];rw[<-jK,h5 _ (by rw[patch_length]),patch_app _ _ _ _ (by simp;exact c2),jR]
     ·cases h
 |_=>cases h
theorem zD (z:List Value):(prims z).map (io ks)=prims z:=qK ks z
def aXo (P:Program)(t:TypeId)(l c:AV)(H:HX):Option (AV×HX):=
 match elT P t,sG l,sG c with
 |some e,some n,some m=>match szT P e,byT P e,aS P e with
  | some sz,some by_,some z=>if 0<=n/\n=m/\n.toNat*by_<=140737488355328/\n.toNat<=1099511627776/\0<sz then
    some (.sm H.length 0 n.toNat (2*n.toNat) sz,H++[.cells (List.replicate n.toNat (prims z)).flatten]) else none
  |_,_,_=>none
 |_,_,_=>none
theorem tL (z:List Value)(n:Nat):((List.replicate n (prims z)).flatten).map (io ks)=(List.replicate n (prims z)).flatten:=by
 rw[List.map_flatten,List.map_replicate,qK]
theorem jL (ks:Ks)(n:Nat):qH ks (2*n)=n:=by unfold qH;rw[if_pos aB];omega
theorem aSq {t:TypeId} {l c x:AV} {H H':HX} (h:aXo P t l c H=some (x,H')):aFr P t (io ks l) (io ks c) (iH ks H)=some (io ks x,iH ks H'):=by
 unfold aXo at h;unfold aFr;rw[iG,iG]
 cases h1:elT P t with
 |none=>simp only[h1] at h;cases h
 |some e=>
  cases h2:sG l with
  |none=>simp only[h1,h2] at h;cases h
  |some n=>
   cases h3:sG c with
   |none=>simp only[h1,h2,h3] at h;cases h
   |some m=>
    cases h4:szT P e with
    |none=>simp only[h1,h2,h3,h4] at h;cases h
    |some sz=>
     cases h5:byT P e with
     |none=>simp only[h1,h2,h3,h4,h5] at h;cases h
     |some by_=>
      cases h6:aS P e with
      |none=>simp only[h1,h2,h3,h4,h5,h6] at h;cases h
      |some z=>
       simp only[h1,h2,h3,h4,h5,h6] at h⊢;split at h
       ·rename_i hc;rw[if_pos hc];simp only[bM0,bMf] at h;obtain⟨rfl,rfl⟩:=h
        have e1:iH ks [XO.cells (List.replicate n.toNat (prims z)).flatten]=[some (.cells (List.replicate n.toNat (prims z)).flatten)]:=by
         show [some (AO.cells _)]=_;rw[tL]
        rw[fA,bJ,io_sm,jL,e1]
       ·cases h
def aOp (P:Program)(t:TypeId)(x:AV)(lo hi mx:Option AV):Option AV:=
 match x with
 | .sm id off len code s=>if code%2=0 then(match aslice P t (.sm id off len (code/2) s) lo hi mx with
   |some (.sm a b c d e)=>some (.sm a b c (2*d) e)
   |_=>none)
  else match elT P t with
   |some e=>match szT P e with
    |some sz=>match loA lo,hiA len hi with
     |some l,some u=>match mx with
      | none=>if s=sz/\0<=l/\l<=u/\u.toNat<=code/2%1048576 then
        (if l=0 then some (.sm id off u.toNat code s)
         else if l.toNat<code/2%1048576 then some (.sm id (off+l.toNat*sz) (u.toNat-l.toNat) (2*((code/2%1048576-l.toNat)+1048576*(code/2/1048576))+1) s) else none) else none
      |some mv=>match sG mv with
       |some m=>if s=sz/\0<=l/\l<=u/\u<=m/\m.toNat<=code/2%1048576/\hi.isSome=true then some (.sm id (if m.toNat=l.toNat then off else off+l.toNat*sz) (u.toNat-l.toNat) (2*(m.toNat-l.toNat)) s) else none
       |none=>none
     |_,_=>none
    |none=>none
   |none=>none
 | .p (.sl s es)=>aslice P t (.p (.sl s es)) lo hi mx
 | .p (.prim (.slice none 0 0))=>(match aslice P t (.p (.prim (.slice none 0 0))) lo hi mx with
   |some (.p (.prim (.slice none 0 0)))=>some (.p (.prim (.slice none 0 0)))
   |_=>none)
 | .own k s es=>aslice P t (.own k s es) lo hi mx
 |_=>none
theorem aTk (o:Option AV):loA (o.map (io ks))=loA o:=by cases o with
 |none=>rfl
 |some v=>exact iG ks v
theorem aTh (n:Nat)(o:Option AV):hiA n (o.map (io ks))=hiA n o:=by cases o with
 |none=>rfl
 |some v=>exact iG ks v
theorem bCq (n:Nat)(o:Option AV):maA n (o.map (io ks))=maA n o:=by cases o with
 |none=>rfl
 |some v=>exact iG ks v
theorem aFu {t:TypeId} {x:AV} {lo hi mx:Option AV} :aslice P t x (lo.map (io ks)) (hi.map (io ks)) (mx.map (io ks))=aslice P t x lo hi mx:=by
 unfold aslice;simp only[aTk,aTh,bCq,Option.isSome_map,Option.isNone_map]
theorem xF {t:TypeId} {x y:AV} {s:Nat} {es:List (List PV)} {lo hi mx:Option AV} (hx:x= .p (.sl s es)\/∃k,x= .own k s es)(h:aslice P t x lo hi mx=some y):∃s' es',y= .p (.sl s' es'):=by
 unfold aslice at h
 cases h1:elT P t with
 |none=>simp only[h1] at h;cases h
 |some e=>
  cases h2:szT P e with
  |none=>simp only[h1,h2] at h;cases h
  |some sz=>
   simp only[h1,h2] at h;rcases hx with rfl|⟨k,rfl⟩
   all_goals
    simp only at h;split at h
    ·split at h
     ·simp only[bM0] at h;exact⟨_,_,h.symm⟩
     ·cases h
    ·cases h
theorem aOq {t:TypeId} {x y:AV} {lo hi mx:Option AV} (h:aOp P t x lo hi mx=some y):aslice P t (io ks x) (lo.map (io ks)) (hi.map (io ks)) (mx.map (io ks))=some (io ks y):=by
 rw[aFu];unfold aOp at h;split at h
 ·rename_i id off len code s;split at h
  ·rename_i hev;split at h
   ·rename_i a b c d e h1;simp only[bM0] at h;subst h;rw[io_sm,io_sm,jL,show qH ks code=code/2 by unfold qH;rw[if_pos hev]];exact h1
   ·cases h
  ·rename_i hod
   cases h1:elT P t with
   |none=>simp only[h1] at h;cases h
   |some e=>
    cases h2:szT P e with
    |none=>simp only[h1,h2] at h;cases h
    |some sz=>
     simp only[h1,h2] at h;have hcap:qH ks code=code/2%1048576+(ks (code/2/1048576)).1:=by unfold qH;rw[if_neg hod]
     split at h
     ·rename_i l u hl hu;split at h
      ·split at h
       ·rename_i hc;obtain⟨rfl,c2,c3,c4⟩:=hc;split at h
        ·rename_i hl0;subst hl0;simp only[bM0] at h;subst h;refine y1j ?_;refine y1w ?_;refine⟨by split<;>simp,by omega,by omega⟩
        ·split at h
         ·rename_i hlt;simp only[bM0] at h;subst h;refine y1j ?_
          have hcap2:qH ks (2*((code/2%1048576-l.toNat)+1048576*(code/2/1048576))+1)=(code/2%1048576-l.toNat)+(ks (code/2/1048576)).1:=by
           have q1:(2*((code/2%1048576-l.toNat)+1048576*(code/2/1048576))+1)/2=(code/2%1048576-l.toNat)+1048576*(code/2/1048576):=aB;have q2:((code/2%1048576-l.toNat)+1048576*(code/2/1048576))%1048576=code/2%1048576-l.toNat:=aB;have q3:((code/2%1048576-l.toNat)+1048576*(code/2/1048576))/1048576=code/2/1048576:=aB;unfold qH;rw[if_neg aB,q1,q2,q3]
          refine y1w ?_;refine⟨by rw[if_neg aB],by rw[hcap2];omega⟩
         ·cases h
       ·cases h
      ·split at h
       ·rename_i mv m hm;split at h
        ·rename_i hc;obtain⟨rfl,c2,c3,c4,c5,c6⟩:=hc;simp only[bM0] at h;subst h;unfold aslice;simp only[io_sm,h1,h2,hl,hu,maA,hm];rw[if_pos ⟨trivial,by omega,by omega,by omega,by omega,by simp[c6]⟩];refine y1w ?_;rw[jL]
        ·cases h
       ·cases h
     ·cases h
 ·obtain⟨s',es',rfl⟩:=xF (.inl rfl) h;rw[eV,eV];exact h
 ·split at h
  ·rename_i h1;simp only[bM0] at h;subst h;rw[eV];exact h1
  ·cases h
 ·obtain⟨s',es',rfl⟩:=xF (.inr ⟨_,rfl⟩) h;rw[mA,eV];exact h
 ·cases h
end
end Go.AI.EV
