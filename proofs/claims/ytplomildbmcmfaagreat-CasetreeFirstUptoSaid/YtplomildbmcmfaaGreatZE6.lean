import Derived.Test.YtplomildbmcmfaaGreatZA0
import Derived.Test.YtplomildbmcmfaaGreatZC
import Derived.Test.YtplomildbmcmfaaGreatZD
set_option maxRecDepth 8000
set_option maxHeartbeats 8000000
namespace Go.AI
open Go
theorem Run.joinH {P:Program} {rd:Option Nat} {nb:Nat} {k:List It} {T:List AV} {h:Heap} {D:List AD} {Q:AX->List AV->Heap->List AD->Prop} {c:Code} (keep:List Nat)(sets:List (Nat×AV))(h2:Heap)(r:(∀T',WeakL T' (setMany (keepT keep T) sets)->Run P rd nb k T' h2 D Q)->Run P rd nb (.code c::k) T h D Q)
  (next:Run P rd nb k (setMany (keepT keep T) sets) h2 D Q):Run P rd nb (.code c::k) T h D Q:=r fun _ hw=>Run.weak hw next
end Go.AI
namespace Go.Proofs.YtplomildbmcmfaaGreat
open Go Go.AI
def eR (dp:Int)(len:Nat)(t:Tm)(b:Int):Int:=
 if 0<=IntKind.i64.wrap (IntKind.i64.wrap (t.index-b)-dp)/\IntKind.i64.wrap (IntKind.i64.wrap (t.index-b)-dp)<len then IntKind.i64.wrap (IntKind.i64.wrap (t.index-b)-dp) else-1
theorem aA8 (h:Heap)(hh:WF h)(t:Tm)(b dp:Int)(vs:List Tm)(p q:Nat)(hp:h[p]?=some (some (.cells [iA dp])))(hq:h[q]?=some (some (.cells [.p (.sl 5 (tmPs vs))]))):
  ACalls Tryz.prog 318 [t.av,iA b, .ptr p 0, .ptr q 0] h fun o h'=>o= .ret (iA (eR dp vs.length t b))/\h'=h:=by
 obtain⟨p1,_⟩:=idf hp;obtain⟨q1,_⟩:=idf hq;obtain⟨k,i,n,ls,ks⟩:=t;obtain⟨z,hz⟩:∃z,IntKind.i64.wrap (IntKind.i64.wrap (i-b)-dp)=z:=⟨_,rfl⟩;refine ACalls.of_run Tryz.func318 rfl ?_;simp only[Tryz.ntmps318,bM2,bM3,Tm.av,cells_mk,List.map];refine wQ p1 ?_;rw[hz];refine nv ?_;refine Run.regJ [0,7] 21 (decide (0<=z)&& decide (z<vs.length)) (fun K J=>?_) ?_
 ·simp[q1];exact y1x
 refine y6 ?_;simp;refine Run.condB rfl (fun h1=>?_) (fun h1=>?_)
 ·refine zA ?_;refine Fin.ret' aA rfl hh rfl rfl rfl (Weak.refl _) rfl ⟨?_,rfl⟩;simp only[eR,Tm.index,hz];rw[if_pos (by simpa using h1)];rfl
 ·refine zA ?_;refine Fin.ret' aA rfl hh rfl rfl rfl (Weak.refl _) rfl ⟨?_,rfl⟩;simp only[eR,Tm.index,hz];rw[if_neg (by simpa using h1)];rfl
theorem aU4 (h:Heap)(hh:WF h)(p:Nat)(s n:Int)(hp:h[p]?=some (some (.cells [iA s]))):
  ACalls Tryz.prog 321 [.ptr p 0,iA n] h fun o h'=>o=(if 4096<IntKind.i64.wrap (s+n) then .panic (.p (errP 5)) else .ret (.tup []))/\h'=h.set p (some (.cells [iA (IntKind.i64.wrap (s+n))])):=by
 obtain⟨p1,p2,p3,p4,p5,p6⟩:=idf hp;refine zE Tryz.func321 Tryz.ntmps321 ?_;refine sD hp ?_;generalize IntKind.i64.wrap (s+n)=z;refine sD p3 ?_
 by_cases hz:4096<z
 ·refine lH hz ?_;refine Run.call (args:=[iA 5]) rfl rfl aA rfl (wH _ (hh.set aA) 5) ?_ ?_
  ·rintro v h' ⟨hv,_⟩;cases hv
  ·rintro v h' ⟨hv,rfl⟩;simp only[AOut.panic.injEq] at hv;subst hv;exact Fin.pan aA (hh.set aA) (bM1 _).symm ⟨by simp[hz],rfl⟩
 ·refine aFh hz ?_;refine Run.nil ?_;exact Fin.ret' aA aA (hh.set aA) (bM1 _).symm rfl rfl (Weak.refl _) rfl ⟨by simp[hz],rfl⟩
def aJa (dp:Int)(zs:List Int)(t:Tm)(b:Int):Int:=if t.kind=0/\0<=eR dp zs.length t b then(zs[(eR dp zs.length t b).toNat]?).getD 0 else 1
def gE (dp:Int)(zs:List Int)(s:Int)(t:Tm)(b:Int):VO:=
 if 4096<IntKind.i64.wrap (s+aJa dp zs t b) then .bad 5 (IntKind.i64.wrap (s+aJa dp zs t b)) else if t.kind=0 then .done zT (IntKind.i64.wrap (s+aJa dp zs t b)) else .go zT (IntKind.i64.wrap (s+aJa dp zs t b))
theorem aA7 (dp:Int)(len:Nat)(t:Tm)(b:Int)(h:0<=eR dp len t b):(eR dp len t b).toNat<len:=by
 unfold eR at h⊢;split
 ·rename_i hc;omega
 ·rename_i hc;rw[if_neg hc] at h;omega
theorem aUo (dp:Int)(vs:List Tm)(zs:List Int)(hzl:zs.length=vs.length)(B:Int->Heap)(n pv pc p9 pz pn p5 p4:Nat)(hlen:∀s,(B s).length=n)(hwf:∀s,WF (B s))
  (hpv:∀s,(B s)[pv]?=some (some (.cells [.fn (.func 318) [] [.ptr p5 0, .ptr p4 0]]))) (hpc:∀s,(B s)[pc]?=some (some (.cells [.ptr pn 0]))) (hp9:∀s,(B s)[p9]?=some (some (.cells [.sm pz 0 vs.length vs.length 1])))
  (hpz:∀s,(B s)[pz]?=some (some (.cells (zs.map fun z=>iA z)))) (hpn:∀s,(B s)[pn]?=some (some (.cells [iA s]))) (hp5:∀s,(B s)[p5]?=some (some (.cells [iA dp]))) (hp4:∀s,(B s)[p4]?=some (some (.cells [.p (.sl 5 (tmPs vs))])))
  (hB:∀s s',(B s).set pn (some (.cells [iA s']))=B s') (s:Int) (t:Tm) (b:Int) (l:List (Option AO)) (hw:WF (B s++l)):
  ACalls Tryz.prog 320 ([t.av,iA b]++[.ptr pv 0, .ptr pc 0, .ptr p9 0]) (B s++l) (VPost B l (gE dp zs s t b)):=by
 have lt:∀ {q:Nat} {o:Option AO},(∀s,(B s)[q]?=some o)->q<n:=fun hq=>by have:=(bLw.1 (hq 0)).1;rwa [hlen] at this
 have up:∀ {q:Nat} {o:Option AO},(∀s,(B s)[q]?=some o)->∀s (l:List (Option AO)),(B s++l)[q]?=some o:=fun hq s l=>by rw[bM9 (by rw[hlen];exact lt hq)];exact hq s
 have cv:=up hpv;have cc:=up hpc;have c9:=up hp9;have cz:=up hpz;have ltn:pn<n:=by have:=(bLw.1 (hpn 0)).1;rwa [hlen] at this
 have cn:∀s (l:List (Option AO)),(B s++l)[pn]?=some (some (.cells [iA s])):=fun s l=>by rw[bM9 (by rw[hlen];exact ltn)];exact hpn s
 have hB2:∀s s' (l:List (Option AO)),(B s++l).set pn (some (.cells [iA s']))=B s'++l:=fun s s' l=>by rw[bMq _ _ (by rw[hlen];exact ltn),hB]
 have gl:∀s (l':List (Option AO)) (k:Nat),(B s++(l++l'))[n+(l.length+k)]?=l'[k]?:=fun s l' k=>by rw[cG (hlen s),lX]
 have gl0:∀s (l':List (Option AO)),(B s++(l++l'))[n+l.length]?=l'[0]?:=fun s l'=>gl s l' 0
 have sl:∀s (l':List (Option AO)) (k:Nat) (o:Option AO),(B s++(l++l')).set (n+(l.length+k)) o=B s++(l++l'.set k o):=fun s l' k o=>by rw[cH (hlen s),mJ]
 have hl0:l.all (AO.under (n+l.length))=true:=by
  exact y79
 have hl1:∀k,l.all (AO.under (n+(l.length+k)))=true:=fun k=>by
  exact y7y
 have hwB:∀s',WF (B s'++l):=fun s'=>(hwf s').app (by rw[hlen];exact hl0)
 obtain⟨k,i,nm,ls,ks⟩:=t;obtain⟨L,hL⟩:∃L:List (Option AO),L=[some (.cells [iA k,iA i, .p (sP nm), .p (.sl 2 (lvPs ls)), .p (.sl 5 (tmPs ks))]),some (.cells zTm)]:=⟨_,rfl⟩;have hwL:∀s',WF (B s'++(l++L)):=fun s'=>(hwf s').app (by rw[hlen,bO9,bM8,hL];exact⟨by simpa using hl1 2,by simp⟩)
 have hval:=aA8 (B s++(l++L)) (hwL s) (.mk k i nm ls ks) b dp vs p5 p4 (up hp5 s _) (up hp4 s _);have hadd:=fun z=>aU4 (B s++(l++L)) (hwL s) pn s z (cn s _)
 obtain⟨v,hv⟩:∃v,eR dp vs.length (.mk k i nm ls ks) b=v:=⟨_,rfl⟩;have hvlt:=aA7 dp vs.length (.mk k i nm ls ks) b;rw[hv] at hval hvlt;have hcn:aJa dp zs (.mk k i nm ls ks) b=if k=0/\0<=v then(zs[v.toNat]?).getD 0 else 1:=by simp only[aJa,Tm.kind,hzl,hv]
 rw[hL] at hval hadd;refine y1f ?_;refine ACalls.of_run Tryz.func320 rfl ?_;simp only[Tryz.ntmps320,bM2,bM3,Tm.av,cells_mk,List.map];refine sD hlen ?_;refine zr2 cv gl0 ?_;refine Run.call rfl rfl aA rfl hval ?_ ?_
 rotate_left
 ·rintro v h' ⟨hv,_⟩;cases hv
 rintro v0 h' ⟨hv0,rfl⟩;simp only[AOut.ret.injEq] at hv0;subst hv0;refine zo ?_;refine Run.regJ [1,2,3,4,5,7,9] 20 (k==0&& decide (0<=v)) (fun K J=>?_) ?_
 ·simp[gl0];exact y1x
 refine y6 ?_;simp;obtain⟨cz0,hcz0⟩:∃z,aJa dp zs (.mk k i nm ls ks) b=z:=⟨_,rfl⟩;rw[hcz0] at hcn;obtain⟨w2,hw2⟩:∃z,IntKind.i64.wrap (s+cz0)=z:=⟨_,rfl⟩;have hvis:gE dp zs s (.mk k i nm ls ks) b=if 4096<w2 then .bad 5 w2 else if k=0 then .done zT w2 else .go zT w2:=by simp only[gE,hcz0,hw2,Tm.kind]
 rw[hvis];have hadd2:=hadd cz0;rw[hw2] at hadd2;simp only[hB2] at hadd2;clear hadd hvis hval
 have hcase:(k=0/\0<=v/\zs[v.toNat]?=some cz0/\v.toNat<vs.length)\/((k==0&& decide (0<=v))=false/\cz0=1):=by
  by_cases hc:k=0/\0<=v
  ·left;rw[if_pos hc] at hcn;have hlt:=hvlt hc.2;refine⟨hc.1,hc.2,?_,hlt⟩;rw[bLv aB] at hcn⊢;simp only[bMc] at hcn;rw[hcn]
  ·right;rw[if_neg hc] at hcn;exact⟨by simpa using hc,hcn⟩
 by_cases hbad:4096<w2
 ·rw[if_pos hbad];simp only[if_pos hbad] at hadd2;rcases hcase with ⟨hk,hv0,hzv,hlt⟩|⟨hk,rfl⟩
  ·have hk2:(k==0&& decide (0<=v))=true:=by simp[hk,hv0]
   have hn:¬v<0:=aB;have hlt2:v<(vs.length:Int):=aB;refine ct (by simp only[aev,tget];rw[hk2]) (nv ?_);refine Run.drawPanic [0,0,0,0,0,0] [0,0,0,0,0,0] [0,0,0,6,14,31] [0,1,2,3,4] 5 aC aC ?_;refine zd6 cc c9 cz hn hlt2 hzv ?_;refine⟨_,_,_,_,_,_,rfl,rfl,rfl,by simp,rfl,hadd2,?_⟩;intro T' hT;exact y7u
  ·refine cf (by simp only[aev,tget];rw[hk]) ?_;refine sD cc ?_;refine Run.call rfl rfl aA rfl hadd2 ?_ ?_
   ·rintro v h' ⟨hv,_⟩;cases hv
   ·rintro v h' ⟨hv,rfl⟩;simp only[AOut.panic.injEq] at hv;subst hv;exact y7u
 ·rw[if_neg hbad];simp only[if_neg hbad] at hadd2;refine Run.joinH [1,2,3,4,5,7] [] (B w2++(l++[some (.cells [iA k,iA i, .p (sP nm), .p (.sl 2 (lvPs ls)), .p (.sl 5 (tmPs ks))]),some (.cells zTm)])) (fun hJ=>?_) ?_
  ·rcases hcase with ⟨hk,hv0,hzv,hlt⟩|⟨hk,rfl⟩
   ·have hk2:(k==0&& decide (0<=v))=true:=by simp[hk,hv0]
    have hn:¬v<0:=aB;have hlt2:v<(vs.length:Int):=aB;refine ct (by simp only[aev,tget];rw[hk2]) (nv ?_);refine Run.draw [0,0,0,0,0,0] [0,0,0,0,0,0] [0,0,0,6,14,31] [0,1,2,3,4,5] aC aC ?_;refine zd6 cc c9 cz hn hlt2 hzv ?_;refine DR.call rfl rfl rfl aA rfl hadd2 ?_;refine zd ?_;refine hJ _ ?_;exact zS
   ·refine cf (by simp only[aev,tget];rw[hk]) ?_;refine zn ?_;refine zq1 cc ?_
    repeat (first|refine Run.skip ?_|refine Run.opsNil ?_|refine Run.inBlock ?_)
    refine Run.call rfl rfl aA rfl hadd2 ?_ ?_
    rotate_left
    ·rintro v h' ⟨hv,_⟩;cases hv
    rintro v0 h' ⟨hv0,rfl⟩;simp only[AOut.ret.injEq] at hv0;subst hv0;refine Run.ops fun K J=>?_
    simp;refine zi ?_;clear J;exact y33
  refine y17 ?_;refine zsn ?_;refine Run.draw [0,0,0,0,0,1] [0,0,0,0,0,0] [0,0,2,6,1,31] [0,4,1,2,3,5] aC aC ?_;refine zdv3 gl gl0 ?_;refine y8 ?_;refine znx ?_
  by_cases hk:k=0
  ·rw[if_pos hk];refine y11 ?_;simp[VPost,hk]
  ·rw[if_neg hk];refine y11 ?_;simp[VPost,hk]
end Go.Proofs.YtplomildbmcmfaaGreat
namespace Go.AI
open Go
theorem Run.joinA {P:Program} {rd:Option Nat} {nb:Nat} {k:List It} {T:List AV} {h:Heap} {D:List AD} {Q:AX->List AV->Heap->List AD->Prop} {c:Code} (keep:List Nat)(sets:List (Nat×AV))(r:(∀T',WeakL T' (setMany (keepT keep T) sets)->Run P rd nb k T' h D Q)->Run P rd nb (.code c::k) T h D Q)
  (next:Run P rd nb k (setMany (keepT keep T) sets) h D Q):Run P rd nb (.code c::k) T h D Q:=r fun _ hw=>Run.weak hw next
end Go.AI
namespace Go.Proofs.YtplomildbmcmfaaGreat
open Go Go.AI
abbrev aIe (a b:Bool)(l k w:Int):List AV:=[bA a,bA b,iA l,iA k,iA w]
def usesL:List AV:=aIe true false 0 0 (-1)++aIe false false 0 0 (-1)++aIe false false 1 0 (-1)++aIe false true (-1) 0 (-1)++aIe false false 0 2 (-1)++aIe false false 0 2 1++aIe false false 0 2 1++aIe false false 0 2 1++
 aIe false false 0 3 (-1)++aIe false false 0 1 (-1)++aIe false false 0 1 (-1)++aIe false false 0 3 2++aIe true false 0 0 (-1)
@[simp] theorem st378:stT Tryz.prog 378=some ((List.range 13).map fun i=>(i*5,5)):=aC
theorem wL (h:Heap)(hh:WF h):ACalls Tryz.prog 286 [] h fun o h'=>o= .ret (.agg usesL)/\h'=h:=by
 refine ACalls.of_run Tryz.func286 rfl ?_;simp only[Tryz.ntmps286,bM3];refine znr ?_;refine Run.reg fun K J=>?_
 simp[List.range,List.range.loop];refine zj ?_;clear J;refine Run.ret ?_;exact Fin.ret' aA rfl hh rfl aE rfl (Weak.refl _) rfl ⟨rfl,rfl⟩
def belowK (k:Int):Int:=if k=5\/k=6\/k=7 then 1 else if k=11 then 2 else-1
theorem xG (k:Int)(j:Nat):aI k j=if(j:Int)=belowK k then 1 else 0:=by
 unfold aI belowK;split<;>split<;>(try split)<;>omega
theorem usesL_at (k:Int)(h0:0<=k)(h1:k<13):usesL[k.toNat*5+4]?=some (iA (belowK k)):=by
 exact y49
theorem usesL_len:usesL.length=65:=rfl
theorem rV (n:Nat):AV.underL n usesL=true:=by simp[usesL]
section
variable {σ:Type} (st:σ->Int->Tm->σ×Bool)
mutual
def vis (s:σ)(d:Int):Tm->σ×Bool
 | .mk k i n ls ks=>if(st s d (.mk k i n ls ks)).2=true then lK (st s d (.mk k i n ls ks)).1 k d 0 ks else((st s d (.mk k i n ls ks)).1,false)
def lK (s:σ)(k d:Int)(idx:Nat):List Tm->σ×Bool
 |[]=>(s,true)
 |t::ts=>if(vis s (d+aI k idx) t).2=true then lK (vis s (d+aI k idx) t).1 k d (idx+1) ts else((vis s (d+aI k idx) t).1,false)
end
end
theorem sA {σ:Type} (st:σ->Int->Tm->σ×Bool)(k d:Int):∀(l:List Tm)(s:σ)(idx:Nat)(t:Tm),lK st s k d idx (l++[t])=
  if(lK st s k d idx l).2=true then vis st (lK st s k d idx l).1 (d+aI k (idx+l.length:Nat)) t else((lK st s k d idx l).1,false)
 |[],s,idx,t=>by
  simp only[bM4,lK,bM3,bO7,if_true]
  cases h:vis st s (d+aI k idx) t with
  |mk a b=>cases b<;>simp
 |x::l,s,idx,t=>by
  simp only[bLz,lK];rw[sA st k d l _ (idx+1) t]
  by_cases h:(vis st s (d+aI k idx) x).2=true
  ·simp only[h,if_true,bM2];rw[show idx+1+l.length=idx+(l.length+1) by omega]
  ·simp only[h,if_false,bMe]
theorem sB {σ:Type} (st:σ->Int->Tm->σ×Bool)(k d:Int)(s':σ):∀(l r:List Tm)(s:σ)(idx:Nat),lK st s k d idx l=(s',false)->lK st s k d idx (l++r)=(s',false)
 |[],r,s,idx,h=>by simp[lK] at h
 |x::l,r,s,idx,h=>by
  simp only[bLz,lK] at h⊢
  by_cases hx:(vis st s (d+aI k idx) x).2=true
  ·simp only[hx,if_true] at h⊢;exact sB st k d s' l r _ (idx+1) h
  ·simp only[hx,if_false,bMe] at h⊢;exact h
abbrev yv (y:Nat):AV:= .fn (.yield y) [] []
abbrev vf (p2 p3 p4:Nat):AV:= .fn (.func 287) [] [.ptr p2 0, .ptr p3 0, .ptr p4 0]
theorem aOj {σ:Type} (st:σ->Int->Tm->σ×Bool)(y p2 p3 p4:Nat)(Pre:Tm->Int->Prop)(hP:∀k i n ls ks d,Pre (.mk k i n ls ks) d->∀(j:Nat)(hj:j<ks.length),Pre ks[j] (d+aI k j))(N:Nat):
  ∀(t:Tm) (s:σ) (d:Int) (B:σ->Heap) (n:Nat),t.size<=N->Pre t d->0<=d->d+t.size<=1099511627776->(∀s,(B s).length=n)->(∀s,WF (B s))->
   (∀s,(B s)[p2]?=some (some (.cells [yv y]))/\(B s)[p3]?=some (some (.cells usesL))/\(B s)[p4]?=some (some (.cells [vf p2 p3 p4])))->
   (∀s d u l,Pre u d->WF (B s++l)->AYield Tryz.prog y [iA d,u.av] (B s++l) (fun o h'=>o= .ret (bA (st s d u).2)/\h'=B (st s d u).1++l))->
   ACalls Tryz.prog 287 ([t.av,iA d]++[.ptr p2 0, .ptr p3 0, .ptr p4 0]) (B s) (fun o h'=>o= .ret (bA (vis st s d t).2)/\h'=B (vis st s d t).1):=by
 induction N with
 |zero=>intro t _ _ _ _ hN;have:=t.size_pos;omega
 |succ N ih=>
 intro t s d B n hN hpre hd0 hd1 hlen hwf hcells HY;obtain⟨k,i,nm,ls,ks⟩:=t;have hp2:=(bLw.1 (hcells s).1).1;have hp3:=(bLw.1 (hcells s).2.1).1;have hp4:=(bLw.1 (hcells s).2.2).1;rw[hlen] at hp2 hp3 hp4;have c2:∀s (l:List (Option AO)),(B s++l)[p2]?=some (some (.cells [yv y])):=fun s l=>by rw[bM9 (by rw[hlen];exact hp2)];exact(hcells s).1
 have c3:∀s (l:List (Option AO)),(B s++l)[p3]?=some (some (.cells usesL)):=fun s l=>by rw[bM9 (by rw[hlen];exact hp3)];exact(hcells s).2.1
 have c4:∀s (l:List (Option AO)),(B s++l)[p4]?=some (some (.cells [vf p2 p3 p4])):=fun s l=>by rw[bM9 (by rw[hlen];exact hp4)];exact(hcells s).2.2
 have gl:∀s (l:List (Option AO)) (k:Nat),(B s++l)[n+k]?=l[k]?:=fun s l k=>cG (hlen s)
 have gl0:∀s (l:List (Option AO)),(B s++l)[n]?=l[0]?:=fun s l=>eG (hlen s)
 have sl:∀s (l:List (Option AO)) (k:Nat) (o:Option AO),(B s++l).set (n+k) o=B s++l.set k o:=fun s l k o=>cH (hlen s)
 have sl0:∀s (l:List (Option AO)) (o:Option AO),(B s++l).set n o=B s++l.set 0 o:=fun s l o=>gU (hlen s)
 have wfl:∀s (l:List (Option AO)),l.all (AO.under (n+l.length))=true->WF (B s++l):=fun s l hl=>(hwf s).app (by rw[hlen];exact hl)
 simp only[Tm.size] at hN hd1;have hll:=aR ks;refine y1f ?_;refine ACalls.of_run Tryz.func287 rfl ?_;refine y1u ?_;refine sD hlen ?_;refine zr2 gl0 c2 ?_;have hy:=HY s d (.mk k i nm ls ks) [some (.cells [iA k,iA i, .p (sP nm), .p (.sl 2 (lvPs ls)), .p (.sl 5 (tmPs ks))])] hpre (wfl _ _ aA);obtain⟨⟨s1,g1⟩,hst⟩:∃r,st s d (.mk k i nm ls ks)=r:=⟨_,rfl⟩;rw[hst] at hy;simp only at hy;refine Run.yield rfl rfl aA hy ?_ ?_
 rotate_left
 ·rintro v h' ⟨hv,_⟩;cases hv
 rintro v h' ⟨hv,rfl⟩;simp only[AOut.ret.injEq] at hv;subst hv;have hvis:vis st s d (.mk k i nm ls ks)=if g1=true then lK st s1 k d 0 ks else(s1,false):=by simp only[vis,hst]
 cases g1 with
 |false=>
  exact y4x
 |true=>
  simp only[if_true] at hvis;rw[hvis];refine zofr ?_;refine Run.regJ [1,2,3,4,5,8] 24 (decide (0<=k)&& decide (k<13)) (fun K J=>?_) ?_
  ·simp[gl0];exact y1x
  refine y6 ?_;simp;refine Run.joinA [1,2,3,4,5] [(8,iA (belowK k))] (fun hJ=>?_) ?_
  ·exact y2p
  refine y6 ?_;refine aAk gl0 ?_
  refine Run.loopS (ι:=Nat×σ) [1,2,3,4,5,8,31,32] (fun p=>p.1<=ks.length/\lK st s1 k d 0 (ks.take p.1)=(p.2,true)) (fun p=>ks.length-p.1) (fun p=>[(33,iA p.1)])
   (fun p=>B p.2++[some (.cells [iA k,iA i, .p (sP nm), .p (.sl 2 (lvPs ls)), .p (.sl 5 (tmPs ks))])]) (0,s1) (by simp[lK]) ?_ aA ?_
  ·exact zS
  rintro⟨j,sj⟩ ⟨hj,hvj⟩ IH;simp only at hj hvj;refine cK ?_
  by_cases hjl:j<ks.length
  ·have hg:ks[j]?=some ks[j]:=bLv hjl;have hs:=dO hjl;have hpj:=hP _ _ _ _ _ _ hpre j hjl;have hbz:=bL k j;have htk:ks.take (j+1)=ks.take j++[ks[j]]:=bM6 hjl;have hsn:=sA st k d (ks.take j) s1 0 ks[j];rw[hvj,<-htk] at hsn;simp only[if_true,bMw,bMn,bNc hj] at hsn;have hbk:=xG k j;have hstop:=sB st k d (vis st sj (d+aI k j) ks[j]).1 (ks.take (j+1)) (ks.drop (j+1)) s1 0;rw[bN5] at hstop;generalize ks[j]=u at hg hs hpj hsn hstop;refine znt1 hjl ?_;refine zr2 hg hlen ?_;refine zr ?_;refine zr ?_;refine Run.joinA [1,2,3,4,5,8,10,31,32,33] [(11,iA (d+aI k j))] (fun hJ=>?_) ?_
   ·exact y2x
   refine y6 ?_;refine zsn ?_;refine zr2 c4 gl ?_;obtain⟨L,hL⟩:∃L:List (Option AO),L=[some (.cells [iA k,iA i, .p (sP nm), .p (.sl 2 (lvPs ls)), .p (.sl 5 (tmPs ks))]),some (.cells (u.cells.map .p))]:=⟨_,rfl⟩;have hLl:L.length=2:=by rw[hL];rfl
   have hLu:L.all (AO.under (n+L.length))=true:=by rw[hLl,hL];simp
   have hcall:=ih u sj (d+aI k j) (fun s=>B s++L) (n+2) aB hpj aB aB (fun s=>by rw[bM5,hlen,hLl]) (fun s=>wfl s L hLu) (fun s=>⟨c2 s L,c3 s L,c4 s L⟩)
    (fun s d u l hp hw=>by
     have:=HY s d u (L++l) hp (by rw[<-bMj];exact hw);refine y1h ?_;intro o h' hq;exact⟨hq.1,by rw[hq.2,bMj]⟩)
   rw[hL] at hcall;obtain⟨⟨s2,g2⟩,hv2⟩:∃r,vis st sj (d+aI k j) u=r:=⟨_,rfl⟩;rw[hv2] at hcall hsn hstop;simp only at hcall hstop;refine rl rfl rfl aA rfl hcall ?_
   cases g2 with
   |false=>
    exact y5i
   |true=>
    refine y19 ?_;refine IH (j+1,s2) _ _ ⟨by simp only;omega,hsn⟩ (by simp only;omega) ?_ aA;exact zS
  ·exact y4i
open Go Go.AI
theorem aQj {σ:Type} (st:σ->Int->Tm->σ×Bool)(y q:Nat)(Pre:Tm->Int->Prop)(hP:∀k i n ls ks d,Pre (.mk k i n ls ks) d->∀(j:Nat)(hj:j<ks.length),Pre ks[j] (d+aI k j))
  (t:Tm) (s:σ) (B:σ->Heap) (n:Nat) (hpre:Pre t 0) (hsz:t.size<=1099511627776) (hlen:∀s,(B s).length=n) (hwf:∀s,WF (B s)) (hq:∀s,(B s)[q]?=some (some (.cells (t.cells.map .p))))
  (HY:∀s d u l,Pre u d->WF (B s++l)->AYield Tryz.prog y [iA d,u.av] (B s++l) (fun o h'=>o= .ret (bA (st s d u).2)/\h'=B (st s d u).1++l)):
  ACalls Tryz.prog 285 [yv y, .ptr q 0] (B s) (fun o h'=>o= .ret (.tup [])/\h'=B (vis st s 0 t).1):=by
 have hqlt:=(bLw.1 (hq s)).1;rw[hlen] at hqlt;have cq:∀s (l:List (Option AO)),(B s++l)[q]?=some (some (.cells (t.cells.map .p))):=fun s l=>by rw[bM9 (by rw[hlen];exact hqlt)];exact hq s
 have gl:∀s (l:List (Option AO)) (k:Nat),(B s++l)[n+k]?=l[k]?:=fun s l k=>cG (hlen s)
 have gl0:∀s (l:List (Option AO)),(B s++l)[n]?=l[0]?:=fun s l=>eG (hlen s)
 have sl:∀s (l:List (Option AO)) (k:Nat) (o:Option AO),(B s++l).set (n+k) o=B s++l.set k o:=fun s l k o=>cH (hlen s)
 have wfl:∀s (l:List (Option AO)),l.all (AO.under (n+l.length))=true->WF (B s++l):=fun s l hl=>(hwf s).app (by rw[hlen];exact hl)
 obtain⟨L,hL⟩:∃L:List (Option AO),L=[some (.cells [yv y]),some (.cells usesL),some (.cells [vf n (n+1) (n+2)])]:=⟨_,rfl⟩;have hLl:L.length=3:=by rw[hL];rfl
 have hLu:L.all (AO.under (n+L.length))=true:=by rw[hLl,hL];simp[rV]
 have hv:=aOj st y n (n+1) (n+2) Pre hP t.size t s 0 (fun s=>B s++L) (n+3) (bLx _) hpre aB aB (fun s=>by rw[bM5,hlen,hLl]) (fun s=>wfl s L hLu)
  (fun s=>by rw[hL];exact⟨by rw[gl0];rfl,by rw[gl];rfl,by rw[gl];rfl⟩)
  (fun s d u l hp hw=>by
   have:=HY s d u (L++l) hp (by rw[<-bMj];exact hw);refine y1h ?_;intro o h' hq;exact⟨hq.1,by rw[hq.2,bMj]⟩)
 rw[hL] at hv;have hu:=wL (B s++[some (.cells [yv y])]) (wfl s _ aA);refine zE Tryz.func285 Tryz.ntmps285 ?_;refine sD hlen ?_;refine zr ?_;refine Run.call rfl rfl aA rfl hu ?_ ?_
 rotate_left
 ·rintro v h' ⟨hv,_⟩;cases hv
 rintro v h' ⟨hv',rfl⟩;simp only[AOut.ret.injEq] at hv';subst hv';have hone:usesL.all lI=true:=rfl;have hone':∀x∈usesL,lI x=true:=by rw[bMg] at hone;exact hone
 refine zov9 hlen ?_;refine zr1 hlen ?_;refine bAa hlen ?_;refine zr2 hlen cq ?_;obtain⟨k,i,nm,ls,ks⟩:=t;refine Run.call rfl rfl aA rfl hv ?_ ?_
 rotate_left
 ·rintro v h' ⟨hv,_⟩;cases hv
 rintro v h' ⟨hv',rfl⟩;exact y4n
theorem tQ (h:Heap)(hh:WF h)(t:Tm):ACalls Tryz.prog 232 [t.av] h fun o h'=>o= .ret (.fn (.func 285) [] [.ptr h.length 0])/\h'=h++[some (.cells (t.cells.map .p))]:=by
 obtain⟨k,i,nm,ls,ks⟩:=t;refine ACalls.of_run Tryz.func232 rfl ?_;simp only[Tryz.ntmps232,bM2,bM3,Tm.av,cells_mk,List.map];refine aT0 ?_;refine Fin.retM (h0:=h++[some (.cells [iA k,iA i, .p (sP nm), .p (.sl 2 (lvPs ls)), .p (.sl 5 (tmPs ks))])]) (l:=[]) aA aA (hh.app aA) aA aE rfl (Weak.refl _) aA ⟨rfl,rfl⟩
mutual
theorem aAa (d:Int):∀(t:Tm)(s:Int),0<=s->s+t.size<=1099511627776->vis (fun(s:Int) _ _=>(IntKind.i64.wrap (s+1),true)) s d t=(s+t.size,true)
 | .mk k i n ls ks,s,h0,h1=>by
  simp only[Tm.size] at h1;simp only[vis,if_true];rw[wrap_id (n:=s+1) aB aB,uN d k ks (s+1) 0 aB aB];simp only[Tm.size]
  congr 1;omega
theorem uN (d k:Int):∀(l:List Tm)(s:Int)(idx:Nat),0<=s->s+Tm.sizes l<=1099511627776->lK (fun(s:Int) _ _=>(IntKind.i64.wrap (s+1),true)) s k d idx l=(s+Tm.sizes l,true)
 |[],s,idx,_,_=>by simp[lK,Tm.sizes]
 |t::ts,s,idx,h0,h1=>by
  simp only[Tm.sizes] at h1;simp only[lK];rw[aAa (d+aI k idx) t s h0 aB];simp only[if_true];rw[uN d k ts (s+t.size) (idx+1) aB aB];simp only[Tm.sizes]
  congr 1;omega
end
theorem aO9 (h:Heap)(hh:WF h)(t:Tm)(hsz:t.size<=1099511627776):ACalls Tryz.prog 319 [t.av] h fun o h'=>o= .ret (iA t.size)/\h'=h:=by
 obtain⟨k,i,nm,ls,ks⟩:=t;have hno:=tQ (h++[some (.cells [iA k,iA i, .p (sP nm), .p (.sl 2 (lvPs ls)), .p (.sl 5 (tmPs ks))]),some (.cells [iA 0])]) (hh.app aA) (.mk k i nm ls ks);refine ACalls.of_runM Tryz.func319 rfl ?_;simp only[Tryz.ntmps319,bM2,bM3,Tm.av,cells_mk,List.map];refine sE ?_;refine Run.call rfl rfl aA rfl hno ?_ ?_
 rotate_left
 ·rintro v h' ⟨hv,_⟩;cases hv
 rintro v h' ⟨hv',rfl⟩;simp only[AOut.ret.injEq] at hv';subst hv';refine zo ?_;refine Run.keep [1,3,5] ?_;simp;refine Run.range (gf:=285) (cap:=[.ptr (h.length+2) 0]) aA rfl fun y=>?_
 generalize hT:[AV.junk,AV.ptr h.length 0,AV.junk,AV.ptr (h.length+1) 0,AV.junk,AV.fn (Fn.func 285) [] [AV.ptr (h.length+2) 0],AV.junk,AV.junk,AV.junk,AV.junk,AV.junk]=Tl;have hTu:∀k,AV.underL (h.length+(3+k)) Tl=true:=fun k=>by rw[<-hT];simp;omega
 generalize hbd:(Code.block 1 _)=bd;obtain⟨B,hB⟩:∃B:Int->Heap,B=fun s=>h++[some (.cells ((Tm.mk k i nm ls ks).cells.map .p)),some (.cells [iA s]),some (.cells ((Tm.mk k i nm ls ks).cells.map .p)),some (.aux .dblk),some (.aux (.loop y .ready none Tl #[6,7] .skip bd))]:=⟨_,rfl⟩
 have hlen:∀s,(B s).length=h.length+5:=fun s=>by rw[hB];simp
 have hwf:∀s,WF (B s):=fun s=>by rw[hB];exact hh.app (by simp[AO.under,hTu 2])
 have hst:∀s (o:Option AO) (l:List (Option AO)),(B s++l).set (h.length+4) o=h++[some (.cells ((Tm.mk k i nm ls ks).cells.map .p)),some (.cells [iA s]),some (.cells ((Tm.mk k i nm ls ks).cells.map .p)),some (.aux .dblk),o]++l:=fun s o l=>by rw[hB];simp
 have hat4:∀s (l:List (Option AO)),Heap.at (B s++l) (h.length+4)=some (.aux (.loop y .ready none Tl #[6,7] .skip bd)):=fun s l=>by rw[hB];simp
 have hit:=aQj (fun(s:Int) _ _=>(IntKind.i64.wrap (s+1),true)) y (h.length+2) (fun _ _=>True) (fun _ _ _ _ _ _ _ _ _=>trivial) (.mk k i nm ls ks) 0 B (h.length+5) trivial hsz hlen hwf (fun s=>by rw[hB];simp)
  (fun s d u l _ hw=>by
   refine AYield.of_run (hat4 s l) aA ?_;refine Run.skip (Run.nil ⟨rfl,rfl,hat4 s l,?_⟩);rw[hst];subst hbd;rw[<-hT];obtain⟨uk,ui,un,uls,uks⟩:=u;refine cK ?_;refine Run.nil ?_;rw[hT]
   have hw2:WF (B (IntKind.i64.wrap (s+1))++l):=by
    have:=hw.set (id:=h.length+1) (o:=some (.cells [iA (IntKind.i64.wrap (s+1))])) aA
    rwa [show List.set (B s++l) (h.length+1) (some (.cells [iA (IntKind.i64.wrap (s+1))]))=B (IntKind.i64.wrap (s+1))++l from by rw[hB];simp] at this
   refine⟨none,(B (IntKind.i64.wrap (s+1))++l).length,rfl,rfl,by simp[hlen],by simp[hlen];omega,by simp,?_,rfl,?_⟩
   ·rw[show(List.set _ (h.length+4) _:Heap)=B (IntKind.i64.wrap (s+1))++l from by rw[hB];simp[stOf],bMm];exact hw2
   ·rw[show(List.set _ (h.length+4) _:Heap)=B (IntKind.i64.wrap (s+1))++l from by rw[hB];simp[stOf],bMm])
 rw[aAa 0 _ 0 aB aB] at hit;have hB0:B 0=(h++[some (.cells ((Tm.mk k i nm ls ks).cells.map .p)),some (.cells [iA 0]),some (.cells ((Tm.mk k i nm ls ks).cells.map .p))])++[some (.aux .dblk),some (.aux (.loop y .ready none Tl #[6,7] .skip bd))]:=by rw[hB];simp
 refine⟨_,hB0▸hit,?_⟩;rintro o h' ⟨rfl,rfl⟩;have hsz2:(0+((Tm.mk k i nm ls ks).size:Int))=(Tm.mk k i nm ls ks).size:=aB;rw[hsz2];generalize (Tm.mk k i nm ls ks).size=sz;refine⟨_, .ready,none,rfl,by rw[hB];simp[bO0],by simp,?_⟩;rw[hB];simp[bO0];rw[<-hT];refine znrx ?_;refine⟨by simp,?_⟩;exact Fin.ret' (h0:=h) aA rfl hh aE rfl rfl (Weak.refl _) rfl ⟨rfl,rfl⟩
end Go.Proofs.YtplomildbmcmfaaGreat
