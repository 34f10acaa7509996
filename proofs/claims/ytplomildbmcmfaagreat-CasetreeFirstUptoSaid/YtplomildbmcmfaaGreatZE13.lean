import Derived.Test.YtplomildbmcmfaaGreatZA0
import Derived.Test.YtplomildbmcmfaaGreatZE6
import Derived.Test.YtplomildbmcmfaaGreatZE7
import Derived.Test.YtplomildbmcmfaaGreatZD
set_option maxRecDepth 8000
set_option maxHeartbeats 8000000
namespace Go.Proofs.YtplomildbmcmfaaGreat
open Go Go.AI
theorem aSm {n:Int} (h1:-18446744073709551616<=n)(h2:n< -9223372036854775808):IntKind.i64.wrap n=n+18446744073709551616:=by
 simp only[IntKind.wrap,IntKind.bits,IntKind.signed];simp;omega
theorem rX {dp:Int} {len:Nat} {t:Tm} {b:Int} (h0:0<=dp)(h1:dp<=9223372036854775807)(h2:-2199023255552<=t.index-b)(h3:t.index-b<=2199023255552)(h4:len<=1048576):
  eR dp len t b=if 0<=t.index-b-dp/\t.index-b-dp<len then t.index-b-dp else-1:=by
 unfold eR;rw[wrap_id (n:=t.index-b) aB aB]
 by_cases hc:-9223372036854775808<=t.index-b-dp
 ·rw[wrap_id hc aB]
 ·rw[aSm aB aB,if_neg aB,if_neg aB]
def dB (dp:Int)(vs:List Tm)(s:Int)(t:Tm)(b:Int):BO Tm:=
 if 0<=eR dp vs.length t b then
  match vs[(eR dp vs.length t b).toNat]? with
  |some x=>match gV (dp+b) 0 x with
   | .ok t' _=> .ok t' s
   | .bad e _=> .bad e s
  |none=> .ok t s
 else if t.index-b<dp then .ok t.bare s
 else if 65535<t.index-vs.length then .bad 24 s else .ok (vr (t.index-vs.length)) s
theorem aIb (h:Heap)(hh:WF h)(dp:Int)(vs:List Tm)(hdp0:0<=dp)(hdp1:dp<=9223372036854775807)(hvl:vs.length<=1048576)(hvd:∀v∈vs,Dom 65536 v 0)(p8 p4 p5:Nat)(h8:h[p8]?=some (some (.cells [.fn (.func 318) [] [.ptr p5 0, .ptr p4 0]])))
  (h4:h[p4]?=some (some (.cells [.p (.sl 5 (tmPs vs))]))) (h5:h[p5]?=some (some (.cells [iA dp]))) (t:Tm) (b s:Int) (hd:Dom 65536 t b) (hb:b<=2097152) (hk:t.kind=0):
  ACalls Tryz.prog 322 ([t.av,iA b]++[.ptr p8 0, .ptr p4 0, .ptr p5 0]) h (RPost (fun _=>h) [] (dB dp vs s t b)):=by
 obtain⟨e8,_⟩:=idf h8;obtain⟨e4,_⟩:=idf h4;obtain⟨e5,_⟩:=idf h5;obtain⟨i1,i2,i3⟩:=hd.var hk;have hd2:=hd.2.1;have hvz:=rX (len:=vs.length) (t:=t) (b:=b) hdp0 hdp1 aB aB hvl;have hval:=aA8 (h++[some (.cells (t.cells.map .p)),some (.cells zTm)]) (hh.app aA) t b dp vs p5 p4 (e5 _) (e4 _);have hvlt:=aA7 dp vs.length t b;obtain⟨v,hv⟩:∃v,eR dp vs.length t b=v:=⟨_,rfl⟩
 have hrep:dB dp vs s t b=if 0<=v then
  match vs[v.toNat]? with
  |some x=>match gV (dp+b) 0 x with
   | .ok t' _=> .ok t' s
   | .bad e _=> .bad e s
  |none=> .ok t s
 else if t.index-b<dp then .ok t.bare s
 else if 65535<t.index-vs.length then .bad 24 s else .ok (vr (t.index-vs.length)) s:=by rw[<-hv];rfl
 rw[hrep];rw[hv] at hval hvz hvlt;clear hrep hd;generalize t.index=i at*;subst i3;simp only[vr,bLz,bM4];refine ACalls.of_run Tryz.func322 rfl ?_;simp only[Tryz.ntmps322,bM2,bM3,Tm.av,cells_mk,List.map];refine wQ e8 ?_;refine Run.call (args:=[(vr i).av,iA b, .ptr p5 0, .ptr p4 0]) rfl rfl (by simp[vr]) rfl hval ?_ ?_
 rotate_left
 ·rintro v h' ⟨hv,_⟩;cases hv
 rintro v0 h' ⟨hv0,rfl⟩;simp only[AOut.ret.injEq] at hv0;subst hv0;refine zor ?_
 by_cases hv0:0<=v
 ·have hlt:=hvlt hv0;have hg:vs[v.toNat]?=some vs[v.toNat]:=bLv hlt;have hxd:=hvd _ (bLy hlt);generalize vs[v.toNat]=x at hg hxd;have hn:¬v<0:=aB
  have hdpb:dp+b<=1099511627776:=by
   split at hvz
   ·omega
   ·omega
  have hsh:=rH (h++[some (.cells ((vr i).cells.map .p)),some (.cells zTm)]) (hh.app aA) x (dp+b) 0 aB hdpb aB aB hxd;have hw:IntKind.i64.wrap (dp+b)=dp+b:=wrap_id aB aB;rw[if_pos hv0,hg];simp only
  cases hbo:gV (dp+b) 0 x with
  |ok t' s'=>
   rw[hbo] at hsh;have hsh2:=hsh.mono (R':=fun o h'=>o= .ret t'.av/\h'=_) (fun _ _ hp=>hp);refine znt1 hv0 ?_;refine Run.draw [0,0,0,0,0,0,0,0,1] [0,0,0,0,0,0,0,0,1] [0,0,3,7,0,0,48,127,255] [0,1,2,3,4,5,6,7,8] aC aC ?_;refine zd5 e4 e5 hg hn hw ?_;refine DR.call (args:=[x.av,iA (dp+b),iA 0]) rfl rfl rfl aA rfl hsh2 ?_;obtain⟨k',i',n',ls',ks'⟩:=t';refine zdv6 ?_;refine y8 ?_;refine znx ?_;refine y1b ?_;simp[RPost]
  |bad e s'=>
   rw[hbo] at hsh;have hsh2:=hsh.mono (R':=fun o h'=>o= .panic (.p (errP e))/\h'=_) (fun _ _ hp=>hp);refine znt1 hv0 ?_;refine Run.drawPanic [0,0,0,0,0,0,0,0,1] [0,0,0,0,0,0,0,0,0] [0,0,3,7,0,0,48,127,255] [0,1,2,3,4,5,6] 7 aC aC ?_;refine zd5 e4 e5 hg hn hw ?_;refine⟨_,_,_,[x.av,iA (dp+b),iA 0],_,_,rfl,rfl,rfl,by simp,rfl,hsh2,?_⟩;intro T' hT;exact Fin.pan (h0:=h) rfl hh rfl (by simp[RPost])
 ·rw[if_neg hv0];have hw:IntKind.i64.wrap (i-b)=i-b:=wrap_id aB aB;have hw2:IntKind.i64.wrap (i-vs.length)=i-vs.length:=wrap_id aB aB;refine aFh hv0 ?_;refine zrv8 e5 hw ?_
  by_cases c1:i-b<dp
  ·rw[if_pos c1];refine lH c1 ?_;refine Run.call (args:=[(vr i).av]) rfl rfl (by simp[vr]) rfl (qY _ (hh.app aA) (vr i) ⟨by simp[vr,Tm.levels],by simp[vr,Tm.levels]⟩) ?_ ?_
   rotate_left
   ·rintro v h' ⟨hv,_⟩;cases hv
   rintro v0 h' ⟨hv0,rfl⟩;simp only[AOut.ret.injEq] at hv0;subst hv0;refine y1c ?_;simp[RPost,vr,Tm.bare]
  ·rw[if_neg c1];refine aFh c1 ?_;refine zr2 e4 hw2 ?_;refine Run.call (args:=[iA (i-vs.length)]) rfl rfl aA rfl (yV _ (hh.app aA) (i-vs.length)) ?_ ?_
   ·rintro v0 h' ⟨hv0,rfl⟩
    by_cases c4:65535<i-vs.length
    ·rw[if_pos c4] at hv0;cases hv0
    ·rw[if_neg c4] at hv0⊢;simp only[AOut.ret.injEq] at hv0;subst hv0;generalize i-vs.length=z;simp only[vr,Tm.av,cells_mk,List.map];refine zox ?_;refine y1b ?_;simp[RPost]
   ·rintro v0 h' ⟨hv0,rfl⟩
    by_cases c4:65535<i-vs.length
    ·rw[if_pos c4] at hv0⊢;simp only[AOut.panic.injEq] at hv0;subst hv0;exact Fin.pan rfl hh rfl (by simp[RPost])
    ·rw[if_neg c4] at hv0;cases hv0
open Go Go.AI
theorem oP (h:Heap)(hh:WF h)(p q:Nat) {a b c d e0:AV} {c0:AV} (hp:h[p]?=some (some (.cells [a,b,c,d,e0])))(hq:h[q]?=some (some (.cells [c0])))(hpq:p≠q)(e:Int):
  ADef Tryz.prog 317 [.ptr p 0, .ptr q 0] (some (.p (errP e))) h ((h.set p (some (.cells zTm))).set q (some (.cells [iA e]))):=by
 obtain⟨p1,p2,p3,p4,p5,p6⟩:=idf hp;have hq2:(h.set p (some (.cells zTm)))[q]?=some (some (.cells [c0])):=by rw[bMl hpq];exact hq
 refine ADef.of_run Tryz.func317 rfl rfl rfl fun K J=>?_
 simp only[Tryz.ntmps317,bM2,bM3];exact y2w
theorem rR (h:Heap)(hh:WF h)(p q:Nat):ADef Tryz.prog 317 [.ptr p 0, .ptr q 0] none h h:=by
 refine ADef.of_run Tryz.func317 rfl rfl rfl fun K J=>?_
 simp only[Tryz.ntmps317,bM2,bM3];exact y2k
def DomU (t:Tm)(d:Int):Prop:=Dom 65536 t d/\d+t.size<=2097152
theorem DomU.one:∀k i n ls ks d,DomU (.mk k i n ls ks) d->ks.length<=1048576/\0<=d/\d<=1099511627776:=fun k i n ls ks d h=>Dom.one k i n ls ks d h.1
theorem DomU.two:∀k i n ls ks d,DomU (.mk k i n ls ks) d->∀(j:Nat)(hj:j<ks.length),DomU ks[j] (d+aI k j):=fun k i n ls ks d h j hj=>by
 refine⟨Dom.two k i n ls ks d h.1 j hj,?_⟩;have h1:=h.2;have h2:=dO hj;have h3:=bL k j;simp only[Tm.size] at h1;omega
def eL (t:Tm)(vs:List Tm)(dp:Int):Tm×Int:=
 if dp<0 then(zT,2) else
 match bld (gE dp (vs.map fun v=>(v.size:Int))) 0 t 0 with
 | .bad e _=>(zT,e)
 | .ok _ _=>match bld (cX (dB dp vs)) 0 t 0 with
  | .bad e _=>(zT,e)
  | .ok t' _=>if 200<(t'.depth:Int) then(zT,7) else(t',0)
def eT (zs:List Int)(m:Nat):List AV:=(zs.map fun z=>iA z)++List.replicate m (iA 0)
theorem aIj (zs:List Int)(m:Nat):(eT zs m).length=zs.length+m:=by simp[eT]
theorem aIk (zs:List Int)(m:Nat)(z:Int):(eT zs (m+1)).set zs.length (iA z)=eT (zs++[z]) m:=by
 unfold eT;rw[bNf _ _ aA];simp[bN3]
theorem jX (n:Nat)(zs:List Int)(m:Nat):AV.underL n (eT zs m)=true:=by
 have:eT zs m=(zs.map (fun z=>iP z)++List.replicate m (iP 0)).map AV.p:=by simp[eT]
 rw[this];exact underL_p _ _
theorem aOc (h:Heap)(hh:WF h)(t:Tm)(vs:List Tm)(dp:Int)(hd:DomU t 0)(hdp1:dp<=9223372036854775807)(hvl:vs.length<=1048576)(hvd:∀v∈vs,Dom 65536 v 0)(hvs:∀v∈vs,v.size<=1099511627776)
  (hout:0<=dp->∀t' s' u s2,bld (gE dp (vs.map fun v=>(v.size:Int))) 0 t 0= .ok u s2->bld (cX (dB dp vs)) 0 t 0= .ok t' s'->t'.size<=1099511627776):
  ACalls Tryz.prog 263 [t.av, .p (.sl 5 (tmPs vs)),iA dp] h fun o h'=>o= .ret (.tup [(eL t vs dp).1.av,iA (eL t vs dp).2])/\h'=h:=by
 obtain⟨tc,htc⟩:∃tc:List AV,tc=t.cells.map .p:=⟨_,rfl⟩
 by_cases hdp0:dp<0
 ·have hr:eL t vs dp=(zT,2):=by simp[eL,hdp0]
  rw[hr];obtain⟨k,i,nm,ls,ks⟩:=t;refine ACalls.of_runD Tryz.func263 rfl ?_;simp only[Tryz.ntmps263,bM2,bM3,Tm.av,cells_mk,List.map];refine wR hdp0 ?_;simp only[wX];exact y2s
 have hout:=hout aB
 have hr:eL t vs dp=match bld (gE dp (vs.map fun v=>(v.size:Int))) 0 t 0 with
  | .bad e _=>(zT,e)
  | .ok _ _=>match bld (cX (dB dp vs)) 0 t 0 with
   | .bad e _=>(zT,e)
   | .ok t' _=>if 200<(t'.depth:Int) then(zT,7) else(t',0):=by simp only[eL,hdp0,if_false]
 --the blocks
 obtain⟨zs,hzs⟩:∃zs:List Int,zs=vs.map fun v=>(v.size:Int):=⟨_,rfl⟩
 rw[<-hzs] at hr hout;have hzl:zs.length=vs.length:=by rw[hzs];simp
 obtain⟨B,hB⟩:∃B:Int->Heap,B=fun s=>h++[some (.cells tc),some (.cells [.p (.sl 5 (tmPs vs))]),some (.cells [iA dp]),some (.cells zTm),some (.cells [iA 0]),some (.cells [.fn (.func 318) [] [.ptr (h.length+2) 0, .ptr (h.length+1) 0]]),
  some (.cells (zs.map fun z=>iA z)),some (.cells [.sm (h.length+6) 0 vs.length vs.length 1]),some (.cells [iA s]),some (.cells [.ptr (h.length+8) 0])]:=⟨_,rfl⟩
 have hlen:∀s,(B s).length=h.length+10:=fun s=>by rw[hB];simp
 have hzu:∀n,AV.underL n (zs.map fun z=>iA z)=true:=fun n=>by have:=jX n zs 0;simpa [eT] using this
 have htu:∀n,AV.underL n tc=true:=fun n=>by rw[htc];exact underL_p _ _
 have hwf:∀s,WF (B s):=fun s=>by rw[hB];exact hh.app (by simp[hzu,htu])
 have hcnt:=pQ (gE dp zs) 320 rfl [.ptr (h.length+5) 0, .ptr (h.length+9) 0, .ptr (h.length+7) 0] DomU DomU.one DomU.two t.size t 0 0 B (h.length+10) (bLx _) hd hlen hwf aA
  (fun s t d l _ hw=>aUo dp vs zs hzl B (h.length+10) (h.length+5) (h.length+9) (h.length+7) (h.length+6) (h.length+8) (h.length+2) (h.length+1) hlen hwf
   (fun s=>by rw[hB];simp) (fun s=>by rw[hB];simp) (fun s=>by rw[hB];simp) (fun s=>by rw[hB];simp) (fun s=>by rw[hB];simp) (fun s=>by rw[hB];simp) (fun s=>by rw[hB];simp) (fun s s'=>by rw[hB];simp) s t d l hw)
 generalize hc0:bld (gE dp zs) 0 t 0=cr at hcnt hr hout
 --the second building
 have hbld:∀s,ACalls Tryz.prog 296 [.agg [.fn (.func 337) [] [.ptr (h.length+10) 0]],t.av,iA 0] (B s++[some (.cells [.fn (.func 322) [] [.ptr (h.length+5) 0, .ptr (h.length+1) 0, .ptr (h.length+2) 0]])])
   (iZ (fun _=>B s++[some (.cells [.fn (.func 322) [] [.ptr (h.length+5) 0, .ptr (h.length+1) 0, .ptr (h.length+2) 0]])]) (bld (cX (dB dp vs)) 0 t 0)):=by
  intro s;obtain⟨H,hH⟩:∃H,H=B s++[some (.cells [.fn (.func 322) [] [.ptr (h.length+5) 0, .ptr (h.length+1) 0, .ptr (h.length+2) 0]])]:=⟨_,rfl⟩;rw[<-hH];have hHl:H.length=h.length+11:=by rw[hH,bM5,hlen];rfl
  have hHw:WF H:=by rw[hH];exact(hwf s).app (by rw[hlen];simp)
  have g8:H[h.length+5]?=some (some (.cells [.fn (.func 318) [] [.ptr (h.length+2) 0, .ptr (h.length+1) 0]])):=by rw[hH,hB];simp
  have g4:H[h.length+1]?=some (some (.cells [.p (.sl 5 (tmPs vs))])):=by rw[hH,hB];simp
  have g5:H[h.length+2]?=some (some (.cells [iA dp])):=by rw[hH,hB];simp
  have g10:H[h.length+10]?=some (some (.cells [.fn (.func 322) [] [.ptr (h.length+5) 0, .ptr (h.length+1) 0, .ptr (h.length+2) 0]])):=by rw[hH,hB];simp
  exact pQ (cX (dB dp vs)) 337 rfl [.ptr (h.length+10) 0] DomU DomU.one DomU.two t.size t 0 0 (fun _=>H) (h.length+11) (bLx _) hd (fun _=>hHl) (fun _=>hHw) aA
   (fun s t d l hd hw=>aOg (dB dp vs) 322 rfl [.ptr (h.length+5) 0, .ptr (h.length+1) 0, .ptr (h.length+2) 0] (fun _=>H) (h.length+11) (h.length+10) (fun _=>hHl) (fun _=>hHw) aA (fun _=>g10) s t d l hd.1.lv
    (fun l hk hw=>(aIb (H++l) hw dp vs aB hdp1 hvl hvd (h.length+5) (h.length+1) (h.length+2) ((idf g8).1 l) ((idf g4).1 l) ((idf g5).1 l) t d s hd.1 (by have:=hd.2;omega) hk).mono fun _ _ hp=>RPost.of_const (B:=fun _=>H) (s:=s) (fun _=>rfl) hp) hw)
 generalize hb0:bld (cX (dB dp vs)) 0 t 0=br at hbld hr hout;have hvar:=fun s=>mP (B s) (hwf s) 322 [.ptr (h.length+5) 0, .ptr (h.length+1) 0, .ptr (h.length+2) 0] (by rw[hlen];simp)
 simp only[hlen] at hvar;have hkeep:∀(o:AOut),True:=fun _=>trivial
 generalize eL t vs dp=r at hr⊢;obtain⟨k,i,nm,ls,ks⟩:=t;simp only[cells_mk,List.map] at htc;subst htc;refine ACalls.of_runD Tryz.func263 rfl ?_;simp only[Tryz.ntmps263,bM2,bM3,Tm.av,cells_mk,List.map] at hcnt hbld⊢;refine znrr ?_;refine zf1 hdp0 ?_;refine zr ?_;refine Run.defer (i:=317) (first:=[]) (cap:=[.ptr (h.length+3) 0, .ptr (h.length+4) 0]) rfl rfl rfl aA ?_;refine zor ?_;have hm1:vs.length*8<=140737488355328:=aB;have hm2:vs.length<=1099511627776:=aB;refine zn ?_;refine zr2 hm1 hm2 ?_;rw[show List.replicate vs.length (iA 0)=eT [] vs.length from by simp[eT]];refine znr ?_
 refine Run.loopS [3,4,5,6,7,8,9,21,22] (fun j:Nat=>j<=vs.length) (fun j=>vs.length-j) (fun j=>[(23,iA j)])
  (fun j=>h++[some (.cells [iA k,iA i, .p (sP nm), .p (.sl 2 (lvPs ls)), .p (.sl 5 (tmPs ks))]),some (.cells [.p (.sl 5 (tmPs vs))]),some (.cells [iA dp]),some (.cells zTm),some (.cells [iA 0]),some (.cells [.fn (.func 318) [] [.ptr (h.length+2) 0, .ptr (h.length+1) 0]]),
   some (.cells (eT (zs.take j) (vs.length-j))),some (.cells [.sm (h.length+6) 0 vs.length vs.length 1])]) 0 aA ?_ aA ?_
 ·exact zS
 intro j hj IH;refine cK ?_
 by_cases hjl:j<vs.length
 ·have hg:vs[j]?=some vs[j]:=bLv hjl;have hvj:=hvs _ (bLy hjl)
  have htk:zs.take (j+1)=zs.take j++[(vs[j].size:Int)]:=by
   rw[hzs,bNh,bO4,hg];rfl
  generalize vs[j]=u at hg hvj htk;have hlz:(zs.take j).length=j:=by rw[bMn,hzl];omega
  have hj1:j+1<=(eT (zs.take j) (vs.length-j)).length:=by rw[aIj,hlz];omega
  have hput:(eT (zs.take j) (vs.length-j)).set j (iA u.size)=eT (zs.take (j+1)) (vs.length-(j+1)):=by
   have:=aIk (zs.take j) (vs.length-(j+1)) u.size;rw[hlz,show vs.length-(j+1)+1=vs.length-j by omega] at this;rw[this,htk]
  have hts:=fun(g:Heap) (hg:WF g)=>aO9 g hg u hvj
  refine iY hjl hg ?_;refine Run.draw [0,0,0,0,1,1] [0,0,0,0,0,1] [0,0,0,4,15,31] [2,3,0,1,4,5] aC aC ?_;refine zd ?_;refine DR.call (args:=[u.av]) rfl rfl rfl aA rfl (hts _ (hh.app (by simp[jX]))) ?_;refine zd3 hjl hj1 hput ?_;refine y8 ?_;refine znr ?_;refine Run.keep [3,4,5,6,7,8,9,21,22,23] ?_;simp;refine Run.cutAt 8 hh rfl aB aA aA (by simp[jX]) (by simp[dU]) ?_;refine IH (j+1) _ _ aB aB ?_ aA;exact zS
 have hje:j=vs.length:=aB;subst hje
 have hze:eT (zs.take vs.length) (vs.length-vs.length)=zs.map fun z=>iA z:=by
  rw[<-hzl,bMm,Nat.sub_self];simp[eT]
 refine znfen ?_;rw[hze];refine znrr ?_;simp only[hB] at hcnt hbld hvar;have hcall:=hcnt
 cases cr with
 |bad e s1=>
  simp only at hr;subst hr;refine Run.call (args:=[.agg [.fn (.func 320) [] [.ptr (h.length+5) 0, .ptr (h.length+9) 0, .ptr (h.length+7) 0]],(Tm.mk k i nm ls ks).av,iA 0]) rfl rfl aA rfl hcall ?_ ?_
  ·intro v h' hR;simp[iZ] at hR
  ·intro v h' hR;simp only[iZ,AOut.panic.injEq] at hR;obtain⟨rfl,rfl⟩:=hR;simp only[wX];refine⟨by simp,rfl,_,oP _ (hh.app (by simp[hzu])) (h.length+3) (h.length+4) (by simp;exact⟨rfl,rfl,rfl,rfl,rfl⟩) aE aB e,?_⟩;simp;exact y5p
 |ok u s1=>
 refine Run.call (args:=[.agg [.fn (.func 320) [] [.ptr (h.length+5) 0, .ptr (h.length+9) 0, .ptr (h.length+7) 0]],(Tm.mk k i nm ls ks).av,iA 0]) rfl rfl aA rfl hcall ?_ ?_
 rotate_left
 ·intro v h' hR;simp[iZ] at hR
 intro v h' hR;simp only[iZ,AOut.ret.injEq] at hR;obtain⟨rfl,rfl⟩:=hR;obtain⟨uk,ui,un,uls,uks⟩:=u;have hvar:=hvar s1;have hbld:=hbld s1;simp only[bMj,bLz,bM4] at hbld
 cases br with
 |bad e s2=>
  simp only at hr;subst hr;have hb2:=hbld.mono (R':=fun o h'=>o= .panic (.p (errP e))/\h'=_) (fun _ _ hp=>hp);refine zo ?_;refine y1m ?_;refine y15 ?_;refine⟨_,_,_,[.agg [.fn (.func 337) [] [.ptr (h.length+10) 0]],(Tm.mk k i nm ls ks).av,iA 0],_,_,rfl,rfl,rfl,by simp,rfl,hb2,?_⟩;intro T' hT;have hT6:=hT 6 aA;have hT7:=hT 7 aA;simp at hT6 hT7;simp only[wX];refine⟨by simp,rfl,_,oP _ (hh.app (by simp[hzu])) (h.length+3) (h.length+4) (by simp;exact⟨rfl,rfl,rfl,rfl,rfl⟩) aE aB e,?_⟩;simp;refine Fin.ret' (h0:=h) (xs:=[.agg zTm,iA e]) aA rfl hh rfl (by simp[hT6,hT7]) rfl (Weak.tup (WeakL.cons Weak.zT (WeakL.refl _))) aA ⟨rfl,rfl⟩
 |ok t2 s2=>
  simp only at hr;have hts:=hout t2 s2 _ s1 rfl rfl;have hb2:=hbld.mono (R':=fun o h'=>o= .ret t2.av/\h'=_) (fun _ _ hp=>hp);have hdep:=fun(g:Heap) (hg:WF g)=>uJ t2.size t2 g (bLx _) hts hg
  generalize t2.depth=dep at hr hdep;obtain⟨k2,i2,nm2,ls2,ks2⟩:=t2;refine zo ?_;refine y1p ?_;refine y15 ?_;refine DR.call (args:=[.agg [.fn (.func 337) [] [.ptr (h.length+10) 0]],(Tm.mk k i nm ls ks).av,iA 0]) rfl rfl rfl aA rfl hb2 ?_;refine zd ?_;refine y8 ?_;refine znr ?_;refine rl (args:=[(Tm.mk k2 i2 nm2 ls2 ks2).av]) rfl rfl aA rfl (hdep _ (hh.app (by simp[hzu]))) ?_;refine zo ?_
  by_cases hdd:200<(dep:Int)
  ·rw[if_pos hdd] at hr;subst hr;refine dV hdd ?_;simp only[wX];refine⟨by simp,rfl,_,rR _ (hh.app (by simp[hzu])) (h.length+3) (h.length+4),?_⟩;exact y5o
  ·rw[if_neg hdd] at hr;subst hr;refine aFi hdd ?_;simp only[wX];refine⟨by simp,rfl,_,rR _ (hh.app (by simp[hzu])) (h.length+3) (h.length+4),?_⟩;exact y2h
open Go Go.AI
mutual
theorem aEv:∀(t:Tm)(m:Int),t.ok m->t.lvs
 | .mk k i n ls ks,m,h=>by
  simp only[Tm.ok,Tm.okN] at h;simp only[Tm.lvs];exact⟨by omega,h.1.2.2.1,aMl ks m k 0 h.2⟩
theorem aMl:∀(l:List Tm)(m k:Int)(idx:Nat),Tm.oks m k idx l->Tm.lvss l
 |[],_,_,_,_=>trivial
 |t::ts,m,k,idx,h=>by
  simp only[Tm.oks] at h;exact⟨aEv t _ h.1,aMl ts m k (idx+1) h.2⟩
end
open Go Go.AI
theorem aO0 (h:Heap)(hh:WF h)(t:Tm)(vs:List Tm)(r:Tm×Int)(hc:∀g:Heap,WF g->ACalls Tryz.prog 263 [t.av, .p (.sl 5 (tmPs vs)),iA 0] g fun o h'=>o= .ret (.tup [r.1.av,iA r.2])/\h'=g):
  ACalls Tryz.prog 205 [t.av, .p (.sl 5 (tmPs vs))] h fun o h'=>o= .ret (.tup [r.1.av,iA r.2])/\h'=h:=by
 obtain⟨t2,e⟩:=r;obtain⟨k,i,nm,ls,ks⟩:=t;obtain⟨k2,i2,nm2,ls2,ks2⟩:=t2;refine ACalls.of_run Tryz.func205 rfl ?_;simp only[Tryz.ntmps205,bM2,bM3,Tm.av,cells_mk,List.map];refine znrr ?_;refine rl (args:=[(Tm.mk k i nm ls ks).av, .p (.sl 5 (tmPs vs)),iA 0]) rfl rfl aA rfl (hc _ (hh.app aA)) ?_;refine zox ?_;exact y2h
open Go Go.AI
mutual
def nd1 (m:Int):Tm->Int
 | .mk _ _ _ _ ks=>1+nd m 0 ks
def nd (most n:Int):List Tm->Int
 |[]=>n
 |t::ts=>if most<n then n else nd most (n+nd1 (most-n) t) ts
end
open Go Go.AI
def dK (vars params metas levels:Int)(t:Tm):Int:=
 if chk (if vars<0 then 0 else vars) params metas levels 0 t≠0 then chk (if vars<0 then 0 else vars) params metas levels 0 t
 else if 4096<(t.size:Int) then 5 else if 200<(t.depth:Int) then 7 else 0
theorem lP (h:Heap)(hh:WF h)(t:Tm)(vars params metas levels:Int)(hsz:t.size<=1099511627776)(hf:t.fit):
  ACalls Tryz.prog 35 [t.av,iA vars,iA params,iA metas,iA levels] h fun o h'=>o= .ret (iA (dK vars params metas levels t))/\h'=h:=by
 have hh1:WF (h++[some (.cells (t.cells.map .p))]):=hh.app aA;have hc:=aUl (if vars<0 then 0 else vars) params metas levels t.size t 0 _ (bLx _) hf aB aB hh1;have hs:=mK t.size t _ (bLx _) hsz hh1;have hd:=lS t.size t _ (bLx _) hsz hh1;have hz:∃z,dK vars params metas levels t=z:=⟨_,rfl⟩;obtain⟨z,hz⟩:=hz;rw[hz];unfold dK at hz;generalize chk (if vars<0 then 0 else vars) params metas levels 0 t=e at hc hz;generalize t.size=sz at hs hz;generalize t.depth=dp at hd hz;obtain⟨k,i,n,ls,ks⟩:=t;refine ACalls.of_run Tryz.func35 rfl ?_;simp only[Tryz.ntmps35,bM2,bM3,Tm.av,cells_mk,List.map];refine znrr ?_;refine rl rfl rfl aA rfl hc ?_;refine zor ?_
 by_cases h1:e=0
 ·rw[if_neg (by simp[h1])] at hz;refine znf1r h1 ?_;refine rl rfl rfl aA rfl hs ?_;refine zo ?_
  by_cases h2:4096<(sz:Int)
  ·rw[if_pos h2] at hz;refine znt1 h2 ?_;exact y3u
  rw[if_neg h2] at hz;refine znf1r h2 ?_;refine rl rfl rfl aA rfl hd ?_;refine zo ?_
  by_cases h3:200<(dp:Int)
  ·rw[if_pos h3] at hz;refine znt1 h3 ?_;exact y3u
  rw[if_neg h3] at hz;refine aFh h3 ?_;exact y3u
 ·rw[if_pos h1] at hz;refine znt1 h1 ?_;exact y3u
end Go.Proofs.YtplomildbmcmfaaGreat
namespace Go.AI
open Go
def WeakP (x y:PV):Prop:=∀E w v,RepP E w x v->RepP E w y v
def WeakPL (xs ys:List PV):Prop:=xs.length=ys.length/\∀E w b off,RepAt E w b off xs->RepAt E w b off ys
def WeakPs (es es':List (List PV)):Prop:=es.length=es'.length/\∀E w b sz off,RepEs E w b sz off es->RepEs E w b sz off es'
theorem WeakP.refl (x:PV):WeakP x x:=fun _ _ _ h=>h
theorem WeakP.nil (sz:Nat):WeakP (.prim (.slice none 0 0)) (.sl sz []):=fun E w v h=>Weak.nil sz E w v h
theorem WeakPL.nil:WeakPL [] []:=⟨rfl,fun _ _ _ _ h=>h⟩
theorem WeakPL.cons {x y:PV} {xs ys:List PV} (h:WeakP x y)(hs:WeakPL xs ys):WeakPL (x::xs) (y::ys):=⟨by simp[hs.1],fun E w b off r=>by
 simp only[RepAt] at r⊢;obtain⟨v,r1,r2,r3,r4⟩:=r;exact⟨v,r1,r2,h E w v r3,hs.2 E w b _ r4⟩⟩
theorem WeakPs.nil:WeakPs [] []:=⟨rfl,fun _ _ _ _ _ h=>h⟩
theorem WeakPs.cons {x y:List PV} {xs ys:List (List PV)} (h:WeakPL x y)(hs:WeakPs xs ys):WeakPs (x::xs) (y::ys):=⟨by simp[hs.1],fun E w b sz off r=>by
 simp only[RepEs] at r⊢;obtain⟨r1,r2,r3⟩:=r;exact⟨by rw[<-h.1];exact r1,h.2 E w b _ r2,hs.2 E w b sz _ r3⟩⟩
theorem WeakP.sl {sz:Nat} {es es':List (List PV)} (h:WeakPs es es'):WeakP (.sl sz es) (.sl sz es'):=fun E w v r=>by
 simp only[RepP] at r⊢;obtain⟨a,cap,rfl,h1,h2⟩:=r;refine⟨a,cap,by rw[h.1],by rw[<-h.1];exact h1,?_⟩;rcases h2 with rfl|⟨b,off,rfl,h3⟩
 ·left;have:=h.1;cases es' with
  |nil=>rfl
  |cons _ _=>simp at this
 ·exact .inr ⟨b,off,rfl,h.2 _ _ _ _ _ h3⟩
theorem WeakP.av {x y:PV} (h:WeakP x y):Weak (.p x) (.p y):=fun E w v r=>by simp only[Rep] at r⊢;exact h E w v r
theorem ACalls.weak {P:Program} {f:FuncId} {args args':List AV} {h:Heap} {R:AOut->Heap->Prop} (hw:WeakL args args')(c:ACalls P f args' h R):ACalls P f args h R:=
 fun E w vs h1 h2 h3=>c E w vs h1 h2 (hw E w vs h3)
end Go.AI
namespace Go.Proofs.YtplomildbmcmfaaGreat
open Go Go.AI
def natB:List UInt8:=[78,97,116]
def natT:Tm:= .mk 3 0 natB [] []
def aOz (a b:Tm):Tm:= .mk 4 0 [] [] [a,b]
def lamT (a b:Tm):Tm:= .mk 5 0 [] [] [a,b]
def fnT (a b:Tm):Tm:=lamT natT (aOz a b)
end Go.Proofs.YtplomildbmcmfaaGreat
