import Derived.Test.YtcfcolkbeelegaaGreatJA0
import Derived.Test.YtcfcolkbeelegaaGreatJD
import Derived.Test.YtcfcolkbeelegaaGreatJC
import Derived.Laws.Strings
set_option maxRecDepth 8000
set_option maxHeartbeats 8000000
namespace Go.AI
open Go
theorem Run.joinA {P:Program} {rd:Option Nat} {nb:Nat} {k:List It} {T:List AV} {h:Heap} {D:List AD} {Q:AX->List AV->Heap->List AD->Prop} {c:Code} (keep:List Nat)(sets:List (Nat×AV))(r:(∀T',WeakL T' (bQ (keepT keep T) sets)->Run P rd nb k T' h D Q)->Run P rd nb (.code c::k) T h D Q)
  (next:Run P rd nb k (bQ (keepT keep T) sets) h D Q):Run P rd nb (.code c::k) T h D Q:=r fun _ hw=>Run.weak hw next
end Go.AI
namespace Go.Proofs.YtcfcolkbeelegaaGreat
open Go Go.AI
abbrev aJz (a b:Bool)(l k w:Int):List AV:=[bA a,bA b,iA l,iA k,iA w]
def usesL:List AV:=aJz true false 0 0 (-1)++aJz false false 0 0 (-1)++aJz false false 1 0 (-1)++aJz false true (-1) 0 (-1)++aJz false false 0 2 (-1)++aJz false false 0 2 1++aJz false false 0 2 1++aJz false false 0 2 1++
 aJz false false 0 3 (-1)++aJz false false 0 1 (-1)++aJz false false 0 1 (-1)++aJz false false 0 3 2++aJz true false 0 0 (-1)
@[simp] theorem st251:stT Tryz.prog 251=some ((List.range 13).map fun i=>(i*5,5)):=aC
theorem aR5 (h:Heap)(hh:WF h):AC 185 [] h (.agg usesL):=by
 refine ACalls.of_run Tryz.func185 rfl ?_;simp only[Tryz.ntmps185,aZ2];refine znr ?_;refine Run.reg fun K J=>?_
 simp[List.range,List.range.loop];refine zj ?_;clear J;refine Run.ret ?_;exact Fin.ret' aA rfl hh rfl aE rfl (Weak.refl _) rfl ⟨rfl,rfl⟩
def sN (k:Int):Int:=if k=5\/k=6\/k=7 then 1 else if k=11 then 2 else-1
theorem aKo (k:Int)(j:Nat):aO k j=if(j:Int)=sN k then 1 else 0:=by
 unfold aO sN;split<;>split<;>(try split)<;>omega
theorem aR4 (k:Int)(h0:0<=k)(h1:k<13):usesL[k.toNat*5+4]?=some (iA (sN k)):=by
 have:k=0\/k=1\/k=2\/k=3\/k=4\/k=5\/k=6\/k=7\/k=8\/k=9\/k=10\/k=11\/k=12:=aB;rcases this with rfl|rfl|rfl|rfl|rfl|rfl|rfl|rfl|rfl|rfl|rfl|rfl|rfl<;>rfl
theorem aO7:usesL.length=65:=rfl
theorem aFl (n:Nat):AV.underL n usesL=true:=by simp[usesL]
section
variable {σ:Type} (st:σ->Int->Tm->σ×Bool)
mutual
def vis (s:σ)(d:Int):Tm->σ×Bool
 | .mk k i n ls ks=>if(st s d (.mk k i n ls ks)).2=true then aAb (st s d (.mk k i n ls ks)).1 k d 0 ks else((st s d (.mk k i n ls ks)).1,false)
def aAb (s:σ)(k d:Int)(idx:Nat):List Tm->σ×Bool
 |[]=>(s,true)
 |t::ts=>if(vis s (d+aO k idx) t).2=true then aAb (vis s (d+aO k idx) t).1 k d (idx+1) ts else((vis s (d+aO k idx) t).1,false)
end
end
theorem aDb {σ:Type} (st:σ->Int->Tm->σ×Bool)(k d:Int):∀(l:List Tm)(s:σ)(idx:Nat)(t:Tm),aAb st s k d idx (l++[t])=
  if(aAb st s k d idx l).2=true then vis st (aAb st s k d idx l).1 (d+aO k (idx+l.length:Nat)) t else((aAb st s k d idx l).1,false)
 |[],s,idx,t=>by
  simp only[aZ3,aAb,aZ2,bB6,if_true]
  cases h:vis st s (d+aO k idx) t with
  |mk a b=>cases b<;>simp
 |x::l,s,idx,t=>by
  simp only[aYy,aAb];rw[aDb st k d l _ (idx+1) t]
  by_cases h:(vis st s (d+aO k idx) x).2=true
  ·simp only[h,if_true,aZ1];rw[show idx+1+l.length=idx+(l.length+1) by omega]
  ·simp only[h,if_false,aZd]
theorem aDc {σ:Type} (st:σ->Int->Tm->σ×Bool)(k d:Int)(s':σ):∀(l r:List Tm)(s:σ)(idx:Nat),aAb st s k d idx l=(s',false)->aAb st s k d idx (l++r)=(s',false)
 |[],r,s,idx,h=>by simp[aAb] at h
 |x::l,r,s,idx,h=>by
  simp only[aYy,aAb] at h⊢
  by_cases hx:(vis st s (d+aO k idx) x).2=true
  ·simp only[hx,if_true] at h⊢;exact aDc st k d s' l r _ (idx+1) h
  ·simp only[hx,if_false,aZd] at h⊢;exact h
abbrev yv (y:Nat):AV:= .fn (.yield y) [] []
abbrev vf (p2 p3 p4:Nat):AV:= .fn (.func 186) [] [.ptr p2 0, .ptr p3 0, .ptr p4 0]
theorem aOa {σ:Type} (st:σ->Int->Tm->σ×Bool)(y p2 p3 p4:Nat)(Pre:Tm->Int->Prop)(hP:∀k i n ls ks d,Pre (.mk k i n ls ks) d->∀(j:Nat)(hj:j<ks.length),Pre ks[j] (d+aO k j))(N:Nat):
  ∀(t:Tm) (s:σ) (d:Int) (B:σ->Heap) (n:Nat),t.size<=N->Pre t d->0<=d->d+t.size<=1099511627776->(∀s,(B s).length=n)->(∀s,WF (B s))->
   (∀s,(B s)[p2]?=some (some (.cells [yv y]))/\(B s)[p3]?=some (some (.cells usesL))/\(B s)[p4]?=some (some (.cells [vf p2 p3 p4])))->
   (∀s d u l,Pre u d->WF (B s++l)->AYield Tryz.prog y [iA d,u.av] (B s++l) (fun o h'=>o= .ret (bA (st s d u).2)/\h'=B (st s d u).1++l))->
   ACalls Tryz.prog 186 ([t.av,iA d]++[.ptr p2 0, .ptr p3 0, .ptr p4 0]) (B s) (fun o h'=>o= .ret (bA (vis st s d t).2)/\h'=B (vis st s d t).1):=by
 induction N with
 |zero=>intro t _ _ _ _ hN;have:=t.size_pos;omega
 |succ N ih=>
 intro t s d B n hN hpre hd0 hd1 hlen hwf hcells HY;obtain⟨k,i,nm,ls,ks⟩:=t;have hp2:=(aYv.1 (hcells s).1).1;have hp3:=(aYv.1 (hcells s).2.1).1;have hp4:=(aYv.1 (hcells s).2.2).1;rw[hlen] at hp2 hp3 hp4;have c2:∀s (l:List (Option AO)),(B s++l)[p2]?=some (some (.cells [yv y])):=fun s l=>by rw[aZ8 (by rw[hlen];exact hp2)];exact(hcells s).1
 have c3:∀s (l:List (Option AO)),(B s++l)[p3]?=some (some (.cells usesL)):=fun s l=>by rw[aZ8 (by rw[hlen];exact hp3)];exact(hcells s).2.1
 have c4:∀s (l:List (Option AO)),(B s++l)[p4]?=some (some (.cells [vf p2 p3 p4])):=fun s l=>by rw[aZ8 (by rw[hlen];exact hp4)];exact(hcells s).2.2
 have gl:∀s (l:List (Option AO)) (k:Nat),(B s++l)[n+k]?=l[k]?:=fun s l k=>eG (hlen s)
 have gl0:∀s (l:List (Option AO)),(B s++l)[n]?=l[0]?:=fun s l=>fV (hlen s)
 have sl:∀s (l:List (Option AO)) (k:Nat) (o:Option AO),(B s++l).set (n+k) o=B s++l.set k o:=fun s l k o=>eU (hlen s)
 have sl0:∀s (l:List (Option AO)) (o:Option AO),(B s++l).set n o=B s++l.set 0 o:=fun s l o=>jK (hlen s)
 have wfl:∀s (l:List (Option AO)),l.all (AO.under (n+l.length))=true->WF (B s++l):=fun s l hl=>(hwf s).app (by rw[hlen];exact hl)
 simp only[Tm.size] at hN hd1;have hll:=aR ks;simp only[aYy,aZ3];refine ACalls.of_run Tryz.func186 rfl ?_;simp only[Tryz.ntmps186,aZ1,aZ2,Tm.av,aH,List.map];refine nv ?_;rw[hlen s];refine nQ hlen ?_;refine Run.reg fun K J=>?_
 simp[gl0,c2];refine zj ?_;clear J;have hy:=HY s d (.mk k i nm ls ks) [some (.cells [iA k,iA i, .p (sP nm), .p (.sl 2 (aW ls)), .p (.sl 5 (aL ks))])] hpre (wfl _ _ aA);obtain⟨⟨s1,g1⟩,hst⟩:∃r,st s d (.mk k i nm ls ks)=r:=⟨_,rfl⟩;rw[hst] at hy;simp only at hy;refine Run.yield rfl rfl aA hy ?_ ?_
 rotate_left
 ·rintro v h' ⟨hv,_⟩;cases hv
 rintro v h' ⟨hv,rfl⟩;simp only[AOut.ret.injEq] at hv;subst hv;have hvis:vis st s d (.mk k i nm ls ks)=if g1=true then aAb st s1 k d 0 ks else(s1,false):=by simp only[vis,hst]
 cases g1 with
 |false=>
  simp only[aZd,if_false] at hvis;refine zo ?_;refine zA ?_;exact Fin.ret' (h0:=B s1) aA (hlen s1) (hwf s1) rfl rfl rfl (Weak.refl _) rfl ⟨by rw[hvis];rfl,by rw[hvis]⟩
 |true=>
  simp only[if_true] at hvis;rw[hvis];refine rJ ?_;refine Run.regJ [1,2,3,4,5,8] 24 (decide (0<=k)&& decide (k<13)) (fun K J=>?_) ?_
  ·simp[gl0];exact y2p
  refine y7 ?_;simp;refine Run.joinA [1,2,3,4,5] [(8,iA (sN k))] (fun hJ=>?_) ?_
  ·by_cases hk:0<=k/\k<13
   ·have hu:=aR4 k hk.1 hk.2;have hk0:¬k<0:=aB;refine nv ?_;refine ct (by simp[hk]) ?_
    repeat (first|refine Run.skip ?_|refine Run.opsNil ?_|refine Run.inBlock ?_)
    refine nv ?_;refine Run.reg fun K J=>?_
    simp[gl0,c3,hk,hk0,hu];refine zi ?_;clear J;exact y3e
   ·have hb:sN k=-1:=by unfold sN;split<;>(try split)<;>omega
    have hk2:(decide (0<=k)&& decide (k<13))=false:=by simp;omega
    refine cf (by simp only[aev,nO];rw[hk2]) ?_
    repeat (first|refine Run.skip ?_|refine Run.opsNil ?_|refine Run.inBlock ?_)
    refine hJ _ ?_;rw[hb];exact zS
  refine y7 ?_;refine zsn ?_;refine Run.reg fun K J=>?_
  simp[gl0];refine zj ?_;clear J
  refine Run.loopS (ι:=Nat×σ) [1,2,3,4,5,8,31,32] (fun p=>p.1<=ks.length/\aAb st s1 k d 0 (ks.take p.1)=(p.2,true)) (fun p=>ks.length-p.1) (fun p=>[(33,iA p.1)])
   (fun p=>B p.2++[some (.cells [iA k,iA i, .p (sP nm), .p (.sl 2 (aW ls)), .p (.sl 5 (aL ks))])]) (0,s1) (by simp[aAb]) ?_ aA ?_
  ·exact zS
  rintro⟨j,sj⟩ ⟨hj,hvj⟩ IH;simp only at hj hvj;refine cI ?_
  by_cases hjl:j<ks.length
  ·have hg:ks[j]?=some ks[j]:=aYu hjl;have hs:=eL hjl;have hpj:=hP _ _ _ _ _ _ hpre j hjl;have hbz:=cE k j;have htk:ks.take (j+1)=ks.take j++[ks[j]]:=aZ5 hjl;have hsn:=aDb st k d (ks.take j) s1 0 ks[j];rw[hvj,<-htk] at hsn;simp only[if_true,aZv,aZm,bAb hj] at hsn;have hbk:=aKo k j;have hstop:=aDc st k d (vis st sj (d+aO k j) ks[j]).1 (ks.take (j+1)) (ks.drop (j+1)) s1 0;rw[bA4] at hstop;generalize ks[j]=u at hg hs hpj hsn hstop;refine dF hjl ?_;refine zr2 hg hlen ?_;refine y26 ?_;refine Run.joinA [1,2,3,4,5,8,10,31,32,33] [(11,iA (d+aO k j))] (fun hJ=>?_) ?_
   ·by_cases hb:(j:Int)=sN k
    ·rw[if_pos hb] at hbk;refine nv ?_;refine ct (by simp[hb]) ?_
     repeat (first|refine Run.skip ?_|refine Run.opsNil ?_|refine Run.inBlock ?_)
     refine znq ?_;exact y83
    ·rw[if_neg hb] at hbk;refine nv ?_;refine cf (by simp[hb]) ?_;exact y83
   refine y7 ?_;refine zsn ?_;refine Run.reg fun K J=>?_
   simp[c4,gl];refine zj ?_;clear J;obtain⟨L,hL⟩:∃L:List (Option AO),L=[some (.cells [iA k,iA i, .p (sP nm), .p (.sl 2 (aW ls)), .p (.sl 5 (aL ks))]),some (.cells (u.cells.map .p))]:=⟨_,rfl⟩;have hLl:L.length=2:=by rw[hL];rfl
   have hLu:L.all (AO.under (n+L.length))=true:=by rw[hLl,hL];simp
   have hcall:=ih u sj (d+aO k j) (fun s=>B s++L) (n+2) aB hpj aB aB (fun s=>by rw[aZ4,hlen,hLl]) (fun s=>wfl s L hLu) (fun s=>⟨c2 s L,c3 s L,c4 s L⟩)
    (fun s d u l hp hw=>by
     have:=HY s d u (L++l) hp (by rw[<-aZi];exact hw);rw[aZi];refine this.mono ?_;intro o h' hq;exact⟨hq.1,by rw[hq.2,aZi]⟩)
   rw[hL] at hcall;obtain⟨⟨s2,g2⟩,hv2⟩:∃r,vis st sj (d+aO k j) u=r:=⟨_,rfl⟩;rw[hv2] at hcall hsn hstop;simp only at hcall hstop;refine rl rfl rfl aA rfl hcall ?_
   cases g2 with
   |false=>
    have hs3:=hstop hsn;refine zo ?_;refine zA ?_;exact Fin.ret' (h0:=B s2) aA (hlen s2) (hwf s2) rfl rfl rfl (Weak.refl _) rfl ⟨by rw[hs3];rfl,by rw[hs3]⟩
   |true=>
    refine rJ ?_;refine Run.keep [1,2,3,4,5,8,31,32,33] ?_;simp;refine Run.cutAt 1 (hwf s2) rfl (by rw[hlen];omega) aA (by simp[hlen];omega) aA rfl ?_;refine IH (j+1,s2) _ _ ⟨by simp only;omega,hsn⟩ (by simp only;omega) ?_ aA;exact zS
  ·have hje:j=ks.length:=aB;subst hje;rw[aZl] at hvj;refine dP ?_;refine zA ?_;exact Fin.ret' (h0:=B sj) aA (hlen sj) (hwf sj) rfl rfl rfl (Weak.refl _) rfl ⟨by rw[hvj];rfl,by rw[hvj]⟩
open Go Go.AI
theorem aPz {σ:Type} (st:σ->Int->Tm->σ×Bool)(y q:Nat)(Pre:Tm->Int->Prop)(hP:∀k i n ls ks d,Pre (.mk k i n ls ks) d->∀(j:Nat)(hj:j<ks.length),Pre ks[j] (d+aO k j))
  (t:Tm) (s:σ) (B:σ->Heap) (n:Nat) (hpre:Pre t 0) (hsz:t.size<=1099511627776) (hlen:∀s,(B s).length=n) (hwf:∀s,WF (B s)) (hq:∀s,(B s)[q]?=some (some (.cells (t.cells.map .p))))
  (HY:∀s d u l,Pre u d->WF (B s++l)->AYield Tryz.prog y [iA d,u.av] (B s++l) (fun o h'=>o= .ret (bA (st s d u).2)/\h'=B (st s d u).1++l)):
  ACalls Tryz.prog 184 [yv y, .ptr q 0] (B s) (fun o h'=>o= .ret (.tup [])/\h'=B (vis st s 0 t).1):=by
 have hqlt:=(aYv.1 (hq s)).1;rw[hlen] at hqlt;have cq:∀s (l:List (Option AO)),(B s++l)[q]?=some (some (.cells (t.cells.map .p))):=fun s l=>by rw[aZ8 (by rw[hlen];exact hqlt)];exact hq s
 have gl:∀s (l:List (Option AO)) (k:Nat),(B s++l)[n+k]?=l[k]?:=fun s l k=>eG (hlen s)
 have gl0:∀s (l:List (Option AO)),(B s++l)[n]?=l[0]?:=fun s l=>fV (hlen s)
 have sl:∀s (l:List (Option AO)) (k:Nat) (o:Option AO),(B s++l).set (n+k) o=B s++l.set k o:=fun s l k o=>eU (hlen s)
 have wfl:∀s (l:List (Option AO)),l.all (AO.under (n+l.length))=true->WF (B s++l):=fun s l hl=>(hwf s).app (by rw[hlen];exact hl)
 obtain⟨L,hL⟩:∃L:List (Option AO),L=[some (.cells [yv y]),some (.cells usesL),some (.cells [vf n (n+1) (n+2)])]:=⟨_,rfl⟩;have hLl:L.length=3:=by rw[hL];rfl
 have hLu:L.all (AO.under (n+L.length))=true:=by rw[hLl,hL];simp[aFl]
 have hv:=aOa st y n (n+1) (n+2) Pre hP t.size t s 0 (fun s=>B s++L) (n+3) (aYw _) hpre aB aB (fun s=>by rw[aZ4,hlen,hLl]) (fun s=>wfl s L hLu)
  (fun s=>by rw[hL];exact⟨by rw[gl0];rfl,by rw[gl];rfl,by rw[gl];rfl⟩)
  (fun s d u l hp hw=>by
   have:=HY s d u (L++l) hp (by rw[<-aZi];exact hw);rw[aZi];refine this.mono ?_;intro o h' hq;exact⟨hq.1,by rw[hq.2,aZi]⟩)
 rw[hL] at hv;have hu:=aR5 (B s++[some (.cells [yv y])]) (wfl s _ aA);refine zE Tryz.func184 Tryz.ntmps184 ?_;refine nQ hlen ?_;refine zr ?_;refine Run.call rfl rfl aA rfl hu ?_ ?_
 rotate_left
 ·rintro v h' ⟨hv,_⟩;cases hv
 rintro v h' ⟨hv',rfl⟩;simp only[AOut.ret.injEq] at hv';subst hv';have hone:usesL.all vO=true:=rfl;have hone':∀x∈usesL,vO x=true:=by rw[aZf] at hone;exact hone
 refine Run.ops fun K J=>?_
 simp[hlen,sl,aO7];refine zj ?_;clear J;refine zr1 hlen ?_;refine Run.reg fun K J=>?_
 simp[hlen,sl];refine zj ?_;clear J;refine zr2 hlen cq ?_;obtain⟨k,i,nm,ls,ks⟩:=t;refine Run.call rfl rfl aA rfl hv ?_ ?_
 rotate_left
 ·rintro v h' ⟨hv,_⟩;cases hv
 rintro v h' ⟨hv',rfl⟩;simp only[AOut.ret.injEq] at hv';subst hv';refine zo ?_;refine Run.nil ?_;exact Fin.ret' (h0:=B (vis st s 0 (Tm.mk k i nm ls ks)).1) aA (by rw[hlen,hlen]) (hwf _) rfl rfl rfl (Weak.refl _) rfl ⟨rfl,rfl⟩
theorem aIt (h:Heap)(hh:WF h)(t:Tm):ACalls Tryz.prog 144 [t.av] h fun o h'=>o= .ret (.fn (.func 184) [] [.ptr h.length 0])/\h'=h++[some (.cells (t.cells.map .p))]:=by
 obtain⟨k,i,nm,ls,ks⟩:=t;refine ACalls.of_run Tryz.func144 rfl ?_;simp only[Tryz.ntmps144,aZ1,aZ2,Tm.av,aH,List.map];refine aDl ?_;refine Fin.retM (h0:=h++[some (.cells [iA k,iA i, .p (sP nm), .p (.sl 2 (aW ls)), .p (.sl 5 (aL ks))])]) (l:=[]) aA aA (hh.app aA) aA aE rfl (Weak.refl _) aA ⟨rfl,rfl⟩
mutual
theorem aDd (d:Int):∀(t:Tm)(s:Int),0<=s->s+t.size<=1099511627776->vis (fun(s:Int) _ _=>(IntKind.i64.wrap (s+1),true)) s d t=(s+t.size,true)
 | .mk k i n ls ks,s,h0,h1=>by
  simp only[Tm.size] at h1;simp only[vis,if_true];rw[aQ (n:=s+1) aB aB,xG d k ks (s+1) 0 aB aB];simp only[Tm.size]
  congr 1;omega
theorem xG (d k:Int):∀(l:List Tm)(s:Int)(idx:Nat),0<=s->s+Tm.sizes l<=1099511627776->aAb (fun(s:Int) _ _=>(IntKind.i64.wrap (s+1),true)) s k d idx l=(s+Tm.sizes l,true)
 |[],s,idx,_,_=>by simp[aAb,Tm.sizes]
 |t::ts,s,idx,h0,h1=>by
  simp only[Tm.sizes] at h1;simp only[aAb];rw[aDd (d+aO k idx) t s h0 aB];simp only[if_true];rw[xG d k ts (s+t.size) (idx+1) aB aB];simp only[Tm.sizes]
  congr 1;omega
end
theorem aO1 (h:Heap)(hh:WF h)(t:Tm)(hsz:t.size<=1099511627776):AC 155 [t.av] h (iA t.size):=by
 obtain⟨k,i,nm,ls,ks⟩:=t;have hno:=aIt (h++[some (.cells [iA k,iA i, .p (sP nm), .p (.sl 2 (aW ls)), .p (.sl 5 (aL ks))]),some (.cells [iA 0])]) (hh.app aA) (.mk k i nm ls ks);refine ACalls.of_runM Tryz.func155 rfl ?_;simp only[Tryz.ntmps155,aZ1,aZ2,Tm.av,aH,List.map];refine iQ ?_;refine Run.call rfl rfl aA rfl hno ?_ ?_
 rotate_left
 ·rintro v h' ⟨hv,_⟩;cases hv
 rintro v h' ⟨hv',rfl⟩;simp only[AOut.ret.injEq] at hv';subst hv';refine zo ?_;refine Run.keep [1,3,5] ?_;simp;refine Run.range (gf:=184) (cap:=[.ptr (h.length+2) 0]) aA rfl fun y=>?_
 generalize hT:[AV.junk,AV.ptr h.length 0,AV.junk,AV.ptr (h.length+1) 0,AV.junk,AV.fn (Fn.func 184) [] [AV.ptr (h.length+2) 0],AV.junk,AV.junk,AV.junk,AV.junk,AV.junk]=Tl;have hTu:∀k,AV.underL (h.length+(3+k)) Tl=true:=fun k=>by rw[<-hT];simp;omega
 generalize hbd:(Code.block 1 _)=bd;obtain⟨B,hB⟩:∃B:Int->Heap,B=fun s=>h++[some (.cells ((Tm.mk k i nm ls ks).cells.map .p)),some (.cells [iA s]),some (.cells ((Tm.mk k i nm ls ks).cells.map .p)),some (.aux .dblk),some (.aux (.loop y .ready none Tl #[6,7] .skip bd))]:=⟨_,rfl⟩
 have hlen:∀s,(B s).length=h.length+5:=fun s=>by rw[hB];simp
 have hwf:∀s,WF (B s):=fun s=>by rw[hB];exact hh.app (by simp[AO.under,hTu 2])
 have hst:∀s (o:Option AO) (l:List (Option AO)),(B s++l).set (h.length+4) o=h++[some (.cells ((Tm.mk k i nm ls ks).cells.map .p)),some (.cells [iA s]),some (.cells ((Tm.mk k i nm ls ks).cells.map .p)),some (.aux .dblk),o]++l:=fun s o l=>by rw[hB];simp
 have hat4:∀s (l:List (Option AO)),Heap.at (B s++l) (h.length+4)=some (.aux (.loop y .ready none Tl #[6,7] .skip bd)):=fun s l=>by rw[hB];simp
 have hit:=aPz (fun(s:Int) _ _=>(IntKind.i64.wrap (s+1),true)) y (h.length+2) (fun _ _=>True) (fun _ _ _ _ _ _ _ _ _=>trivial) (.mk k i nm ls ks) 0 B (h.length+5) trivial hsz hlen hwf (fun s=>by rw[hB];simp)
  (fun s d u l _ hw=>by
   refine AYield.of_run (hat4 s l) aA ?_;refine Run.skip (Run.nil ⟨rfl,rfl,hat4 s l,?_⟩);rw[hst];subst hbd;rw[<-hT];obtain⟨uk,ui,un,uls,uks⟩:=u;refine cI ?_;refine Run.nil ?_;rw[hT]
   have hw2:WF (B (IntKind.i64.wrap (s+1))++l):=by
    have:=hw.set (id:=h.length+1) (o:=some (.cells [iA (IntKind.i64.wrap (s+1))])) aA
    rwa [show List.set (B s++l) (h.length+1) (some (.cells [iA (IntKind.i64.wrap (s+1))]))=B (IntKind.i64.wrap (s+1))++l from by rw[hB];simp] at this
   refine⟨none,(B (IntKind.i64.wrap (s+1))++l).length,rfl,rfl,by simp[hlen],by simp[hlen];omega,by simp,?_,rfl,?_⟩
   ·rw[show(List.set _ (h.length+4) _:Heap)=B (IntKind.i64.wrap (s+1))++l from by rw[hB];simp[aQz],aZl];exact hw2
   ·rw[show(List.set _ (h.length+4) _:Heap)=B (IntKind.i64.wrap (s+1))++l from by rw[hB];simp[aQz],aZl])
 rw[aDd 0 _ 0 aB aB] at hit;have hB0:B 0=(h++[some (.cells ((Tm.mk k i nm ls ks).cells.map .p)),some (.cells [iA 0]),some (.cells ((Tm.mk k i nm ls ks).cells.map .p))])++[some (.aux .dblk),some (.aux (.loop y .ready none Tl #[6,7] .skip bd))]:=by rw[hB];simp
 refine⟨_,hB0▸hit,?_⟩;rintro o h' ⟨rfl,rfl⟩;have hsz2:(0+((Tm.mk k i nm ls ks).size:Int))=(Tm.mk k i nm ls ks).size:=aB;rw[hsz2];generalize (Tm.mk k i nm ls ks).size=sz;refine⟨_, .ready,none,rfl,by rw[hB];simp[bAz],by simp,?_⟩;rw[hB];simp[bAz];rw[<-hT];refine aOs ?_;refine⟨by simp,?_⟩;exact Fin.ret' (h0:=h) aA rfl hh aE rfl rfl (Weak.refl _) rfl ⟨rfl,rfl⟩
open Go Go.AI
def qC (a b:Int×Int):Bool:=a.1==b.1&& a.2==b.2
abbrev xF (xs ys:List (Int×Int))(j:Nat):Bool:=match xs[j]?,ys[j]? with|some u,some v=>qC u v|_,_=>true
def oX (a b:Lv):Bool:=
 !(a.c !=b.c||(a.vars.length:Int) !=b.vars.length)&& bB (xF a.vars b.vars) a.vars.length
theorem aJn (h:Heap)(hh:WF h)(a b:Lv)(hb:a.vars.length<=1048576):AC 117 [a.av,b.av] h (bA (oX a b)):=by
 obtain⟨c,vs⟩:=a;obtain⟨c',vs'⟩:=b;simp only at hb;refine y12 ?_;refine zER Tryz.func117 Tryz.ntmps117 ?_;refine Run.regJ [2,3] 19 (c !=c'||(vs.length:Int) !=vs'.length) (fun K J=>?_) ?_
 ·simp;exact y2p
 refine y7 ?_;simp;refine Run.condB rfl (fun h0=>?_) (fun h0=>?_)
 ·refine zA ?_;refine zF2 hh ?_;exact⟨by simp only[oX,h0];simp,rfl⟩
 ·have hl:vs.length=vs'.length:=by simp at h0;omega
  refine znr ?_;refine Run.loopS [2,3] (fun j:Nat=>j<=vs.length/\bB (xF vs vs') j=true) (fun j=>vs.length-j) (fun j=>[(5,iA j)]) (fun _=>_) 0 (by simp[bB]) ?_ rfl ?_
  ·exact zS
  ·rintro j ⟨hj,hall⟩ IH;refine cI ?_
   by_cases hjl:j<vs.length
   ·have hg:vs[j]?=some vs[j]:=aYu hjl;have hg':vs'[j]?=some vs'[j]:=aYu aB;obtain⟨⟨x,y⟩,hxy⟩:∃p,vs[j]=p:=⟨_,rfl⟩;obtain⟨⟨x',y'⟩,hxy'⟩:∃p,vs'[j]'aB=p:=⟨_,rfl⟩;rw[hxy] at hg;rw[hxy'] at hg';refine dF hjl ?_;refine Run.draw [0,0,0,0,0,0,0,0,0,0,0] [0,0,0,0,0,0,0,0,0,0,0] [0,1,0,7,15,0,32,0,224,480,1023] [0,1,2,3,4,5,6,7,8,9,10] aC aC ?_;refine zd2 hg hg' ?_;refine y9 ?_;refine nv ?_;refine Run.condB rfl (fun h1=>?_) (fun h1=>?_)
    ·refine zA ?_;have h2:qC (x,y) (x',y')=false:=by simp only[qC];simp at h1⊢;omega
     have:=aU (p:=xF vs vs') hjl (by simp only[xF,hg,hg',h2]);refine zF2 hh ?_;exact⟨by simp only[oX,this];simp,rfl⟩
    ·refine znr ?_;have h2:qC (x,y) (x',y')=true:=by simpa [qC] using h1
     refine IH (j+1) _ _ ⟨by omega,by rw[bK,hall];simp only[xF,hg,hg',h2];rfl⟩ aB ?_ rfl;exact zS
   ·have hje:j=vs.length:=aB;subst hje;refine dP ?_;refine zA ?_;refine zF2 hh ?_;exact⟨by simp only[oX,h0,hall];simp,rfl⟩
abbrev aJ0 (xs ys:List Lv)(j:Nat):Bool:=match xs[j]?,ys[j]? with|some u,some v=>oX u v|_,_=>true
def kE (xs ys:List Lv):Bool:=
 !((xs.length:Int) !=ys.length)&& bB (aJ0 xs ys) xs.length
@[simp] theorem aXe (t:Lv):List.take 2 (List.map AV.p t.cells)=List.map AV.p t.cells:=aFf t
theorem aF5 (h:Heap)(hh:WF h)(xs ys:List Lv)(hb:xs.length<=1048576)(hbv:∀l∈xs,l.vars.length<=1048576):AC 60 [.p (.sl 2 (aW xs)), .p (.sl 2 (aW ys))] h (bA (kE xs ys)):=by
 refine cW Tryz.func60 Tryz.ntmps60 ?_
 by_cases hl:xs.length=ys.length
 ·have h0:((xs.length:Int) !=ys.length)=false:=by simp[hl]
  refine dJ hl ?_;refine Run.loopS [0,1] (fun j:Nat=>j<=xs.length/\bB (aJ0 xs ys) j=true) (fun j=>xs.length-j) (fun j=>[(5,iA j)]) (fun _=>_) 0 (by simp[bB]) ?_ rfl ?_
  ·exact zS
  ·rintro j ⟨hj,hall⟩ IH;refine cI ?_
   by_cases hjl:j<xs.length
   ·have hg:xs[j]?=some xs[j]:=aYu hjl;have hg':ys[j]?=some ys[j]:=aYu aB;have hv:=hbv _ (aYx hjl);generalize xs[j]=u at hg hv;generalize ys[j]'aB=v at hg';refine dF hjl ?_;refine Run.draw [0,0,0,0,0,0,0,0,0,1] [0,0,0,0,0,0,0,0,0,0] [0,0,3,7,0,0,48,112,255,511] [0,1,2,3,4,5,6,7,8,9] aC aC ?_;refine zd2 hg hg' ?_;refine DR.call (args:=[u.av,v.av]) rfl rfl rfl aA rfl (aJn h hh u v hv) ?_;refine zd ?_;refine y9 ?_;refine nv ?_;refine Run.condB rfl (fun h1=>?_) (fun h1=>?_)
    ·refine zA ?_;have h2:oX u v=false:=by simpa using h1
     have:=aU (p:=aJ0 xs ys) hjl (by simp only[aJ0,hg,hg',h2]);refine zF3 hh ?_;exact⟨by simp only[kE,this];simp,rfl⟩
    ·refine znr ?_;have h2:oX u v=true:=by simpa using h1
     refine IH (j+1) _ _ ⟨by omega,by rw[bK,hall];simp only[aJ0,hg,hg',h2];rfl⟩ aB ?_ rfl;exact zS
   ·have hje:j=xs.length:=aB;subst hje;refine dP ?_;refine zA ?_;refine zF3 hh ?_;exact⟨by simp only[kE,h0,hall];simp,rfl⟩
 ·have h0:((xs.length:Int) !=ys.length)=true:=by simp;omega
  have hl':¬(xs.length:Int)=ys.length:=aB;refine dF hl' ?_;refine zA ?_;refine zF3 hh ?_;exact⟨by simp only[kE,h0];simp,rfl⟩
def gW (a b:Tm):Bool:=
 !(a.kind !=b.kind||a.index !=b.index||!(a.name==b.name)||!kE a.levels b.levels||(a.kids.length:Int) !=b.kids.length)
mutual
def fQ:Tm->Tm->Bool
 | .mk k i n ls ks, .mk k' i' n' ls' ks'=>gW (.mk k i n ls ks) (.mk k' i' n' ls' ks')&& lH ks ks'
def lH:List Tm->List Tm->Bool
 |a::xs,b::ys=>fQ a b&& lH xs ys
 |_,_=>true
end
abbrev qG (xs ys:List Tm)(j:Nat):Bool:=match xs[j]?,ys[j]? with|some u,some v=>fQ u v|_,_=>true
theorem uV:∀(xs ys:List Tm),lH xs ys=bB (qG xs ys) xs.length
 |[],ys=>by simp[lH,bB]
 |x::xs,[]=>by simp only[lH];symm;rw[cJ];intro j _;simp[qG]
 |x::xs,y::ys=>by
  simp only[lH,uV xs ys];rw[aZs,aZ7,cJ,cJ];constructor
  ·rintro⟨h1,h2⟩ j hj
   cases j with
   |zero=>simpa [qG] using h1
   |succ j=>simpa [qG] using h2 j (by simpa using hj)
  ·intro h;exact⟨by simpa [qG] using h 0 aA,fun j hj=>by simpa [qG] using h (j+1) (by simpa using hj)⟩
mutual
def Tm.lvs:Tm->Prop
 | .mk _ _ _ ls ks=>ls.length<=1048576/\(∀l∈ls,l.vars.length<=1048576)/\Tm.lvss ks
def Tm.lvss:List Tm->Prop
 |[]=>True
 |t::ts=>t.lvs/\Tm.lvss ts
end
theorem Tm.lvss_at {l:List Tm} (h:Tm.lvss l):∀t∈l,t.lvs:=by
 induction l with
 |nil=>intro t ht;cases ht
 |cons x l ih=>
  simp only[Tm.lvss] at h;intro t ht
  cases aZg.1 ht with
  |inl e=>subst e;exact h.1
  |inr e=>exact ih h.2 t e
theorem sD (N:Nat):∀(a b:Tm)(h:Heap),a.size<=N->a.size<=1099511627776->a.lvs->WF h->AC 18 [a.av,b.av] h (bA (fQ a b)):=by
 induction N with
 |zero=>intro t _ h hN;cases t;simp[Tm.size] at hN
 |succ N ih=>
 intro a b h hN hsz hlv hh;obtain⟨k,i,n,ls,ks⟩:=a;obtain⟨k',i',n',ls',ks'⟩:=b;simp only[Tm.size] at hN hsz;have hll:=aR ks;simp only[Tm.lvs] at hlv;have hlvs:=aF5 (h++[some (.cells [iA k,iA i, .p (sP n), .p (.sl 2 (aW ls)), .p (.sl 5 (aL ks))]),some (.cells [iA k',iA i', .p (sP n'), .p (.sl 2 (aW ls')), .p (.sl 5 (aL ks'))])]) (hh.app aA) ls ls' hlv.1 hlv.2.1;refine ACalls.of_run Tryz.func18 rfl ?_;simp only[Tryz.ntmps18,aZ1,aZ2,Tm.av,aH,List.map];refine znr ?_
 have hcase:(k !=k')=true\/((k !=k')=false/\(i !=i')=true)\/((k !=k')=false/\(i !=i')=false/\(n==n')=false)\/((k !=k')=false/\(i !=i')=false/\(n==n')=true):=by
  cases k !=k'<;>cases i !=i'<;>cases (n==n')<;>simp
 have no:gW (.mk k i n ls ks) (.mk k' i' n' ls' ks')=false->fQ (.mk k i n ls ks) (.mk k' i' n' ls' ks')=false:=fun e=>by simp only[fQ,e];rfl
 rcases hcase with c1|⟨c1,c2⟩|⟨c1,c2,c3⟩|⟨c1,c2,c3⟩
 ·have:=no (by simp only[gW,Tm.kind,c1];rfl);refine nQ c1 ?_;exact y59
 ·have:=no (by simp only[gW,Tm.kind,Tm.index,c1,c2];rfl);refine sH c1 c2 ?_;exact y59
 ·have:=no (by simp only[gW,Tm.kind,Tm.index,Tm.name,c1,c2,c3];rfl);refine zn ?_;refine zr3 c1 c2 c3 ?_;exact y59
 ·have hd0:gW (.mk k i n ls ks) (.mk k' i' n' ls' ks')=!(!kE ls ls'||(ks.length:Int) !=ks'.length):=by
   simp only[gW,Tm.kind,Tm.index,Tm.name,Tm.levels,Tm.kids,c1,c2,c3,bB5,bBn]
  refine zn ?_;refine zr3 c1 c2 c3 ?_;refine Run.call rfl aA aA rfl hlvs ?_ ?_
  ·rintro v h' ⟨hv,rfl⟩;simp only[AOut.ret.injEq] at hv;subst hv;refine Run.opsJ [2,3] 41 (!kE ls ls'||(ks.length:Int) !=ks'.length) (fun K J=>?_) ?_
   ·simp;exact y2p
   simp only[bQ,keepT];simp;refine Run.condB rfl (fun h0=>?_) (fun h0=>?_)
   ·have:=no (by rw[hd0,h0];rfl);exact y59
   ·have hl:ks.length=ks'.length:=by simp at h0;omega
    have hst:fQ (.mk k i n ls ks) (.mk k' i' n' ls' ks')=lH ks ks':=by simp only[fQ,hd0,h0];rfl
    rw[uV] at hst;refine znr ?_;refine Run.loopS [2,3] (fun j:Nat=>j<=ks.length/\bB (qG ks ks') j=true) (fun j=>ks.length-j) (fun j=>[(5,iA j)]) (fun _=>_) 0 (by simp[bB]) ?_ rfl ?_
    ·exact zS
    ·rintro j ⟨hj,hall⟩ IH;refine cI ?_
     by_cases hjl:j<ks.length
     ·have hg:ks[j]?=some ks[j]:=aYu hjl;have hg':ks'[j]?=some ks'[j]:=aYu aB;have hs:=eL hjl;have hlj:=Tm.lvss_at hlv.2.2 _ (aYx hjl);generalize ks[j]=u at hg hs hlj;generalize ks'[j]'aB=v at hg';refine dF hjl ?_;refine Run.draw [0,0,0,0,0,0,0,0,0,0,0,1] [0,0,0,0,0,0,0,0,0,0,0,0] [0,1,0,7,15,0,32,0,224,480,1023,2047] [0,1,2,3,4,5,6,7,8,9,10,11] aC aC ?_;refine zd2 hg hg' ?_;refine DR.call (args:=[u.av,v.av]) rfl rfl rfl aA rfl (ih u v _ aB aB hlj (hh.app aA)) ?_;refine zd ?_;refine y9 ?_;refine nv ?_;refine Run.condB rfl (fun h1=>?_) (fun h1=>?_)
      ·refine zA ?_;have h2:fQ u v=false:=by simpa using h1
       have:=aU (p:=qG ks ks') hjl (by simp only[qG,hg,hg',h2]);refine zF2 hh ?_;exact⟨by rw[hst,this];rfl,rfl⟩
      ·refine znr ?_;have h2:fQ u v=true:=by simpa using h1
       refine IH (j+1) _ _ ⟨by omega,by rw[bK,hall];simp only[qG,hg,hg',h2];rfl⟩ aB ?_ rfl;exact zS
     ·have hje:j=ks.length:=aB;subst hje;refine dP ?_;refine zA ?_;refine zF2 hh ?_;exact⟨by rw[hst,hall];rfl,rfl⟩
  ·rintro v h' ⟨hv,_⟩;cases hv
end Go.Proofs.YtcfcolkbeelegaaGreat
