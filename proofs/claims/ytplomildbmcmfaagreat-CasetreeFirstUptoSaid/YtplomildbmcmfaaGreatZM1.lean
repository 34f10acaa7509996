import Derived.Test.YtplomildbmcmfaaGreatZA0
import Derived.Test.YtplomildbmcmfaaGreatZE6
import Derived.Test.YtplomildbmcmfaaGreatZE13
set_option maxRecDepth 8000
set_option maxHeartbeats 8000000
namespace Go.AI
open Go
theorem Run.rangeG {P:Program} {nb:Nat} {k:List It} {T:List AV} {h:Heap} {D:List AD} {Q:AX->List AV->Heap->List AD->Prop} {g:Operand} {ps:Array Tmp} {ag bd:Code} {gf:FuncId} {cap:List AV} (hg:aev T g= .fn (.func gf) [] cap)(he:aK P gf=true)
  (r:∀l Tl ag' bd',Tl=T->ag'=ag->bd'=bd->∃R:AOut->Heap->Prop,ACalls P gf (.fn (.yield l) [] []::cap) (h++[some (.aux .dblk),some (.aux (.loop l .ready none Tl ps ag' bd'))]) R/\
   ∀o h',R o h'->∃v st j,o= .ret v/\h'.at (h.length+1)=some (.aux (.loop l st j Tl ps ag' bd'))/\st≠ .busy/\
    Run P none nb (match j with|none=>k|some c=> .code c::k) T (h'.set (h.length+1) (some (.aux (.loop l .exhausted j Tl ps ag' bd')))) ((.yield h.length,[],[])::D) Q):
  Run P none nb (.code (.rangeFunc g ps ag bd)::k) T h D Q:=Run.range hg he fun l=>r l T ag bd rfl rfl rfl
theorem Run.codeEq {P:Program} {rd:Option Nat} {nb:Nat} {k:List It} {T:List AV} {h:Heap} {D:List AD} {Q:AX->List AV->Heap->List AD->Prop} {c c':Code} (e:c'=c)(r:Run P rd nb (.code c::k) T h D Q):Run P rd nb (.code c'::k) T h D Q:=e▸r
theorem Run.tEq {P:Program} {rd:Option Nat} {nb:Nat} {k:List It} {T T':List AV} {h:Heap} {D:List AD} {Q:AX->List AV->Heap->List AD->Prop} (e:T=T')(r:Run P rd nb k T' h D Q):Run P rd nb k T h D Q:=e▸r
end Go.AI
namespace Go.Proofs.YtplomildbmcmfaaGreat
open Go Go.AI
mutual
theorem aFd {σ:Type} (st:σ->Int->Tm->σ×Bool)(Pre:Tm->Int->Prop)(hP:∀k i n ls ks d,Pre (.mk k i n ls ks) d->∀(j:Nat)(hj:j<ks.length),Pre ks[j] (d+aI k j))(Lv:σ->Prop)(hLv:∀s d u,Lv s->Pre u d->(st s d u).2=true->Lv (st s d u).1):∀(t:Tm)(s:σ)(d:Int),Lv s->Pre t d->(vis st s d t).2=true->Lv (vis st s d t).1
 | .mk k i n ls ks,s,d,hl,hp,h=>by
  simp only[vis] at h⊢
  by_cases hs:(st s d (.mk k i n ls ks)).2=true
  ·rw[if_pos hs] at h⊢;exact aA9 st Pre hP Lv hLv ks _ k d 0 (hLv s d _ hl hp hs) (fun j hj=>by simpa using hP _ _ _ _ _ _ hp j hj) h
  ·rw[if_neg hs] at h;simp at h
theorem aA9 {σ:Type} (st:σ->Int->Tm->σ×Bool)(Pre:Tm->Int->Prop)(hP:∀k i n ls ks d,Pre (.mk k i n ls ks) d->∀(j:Nat)(hj:j<ks.length),Pre ks[j] (d+aI k j))(Lv:σ->Prop)(hLv:∀s d u,Lv s->Pre u d->(st s d u).2=true->Lv (st s d u).1):∀(l:List Tm)(s:σ)(k d:Int)(idx:Nat),Lv s->(∀(j:Nat)(hj:j<l.length),Pre l[j] (d+aI k (idx+j:Nat)))->(lK st s k d idx l).2=true->Lv (lK st s k d idx l).1
 |[],s,k,d,idx,hl,_,_=>by simpa only[lK] using hl
 |t::ts,s,k,d,idx,hl,hp,h=>by
  simp only[lK] at h⊢;have h0:Pre t (d+aI k idx):=hp 0 aA
  by_cases hs:(vis st s (d+aI k idx) t).2=true
  ·rw[if_pos hs] at h⊢
   exact aA9 st Pre hP Lv hLv ts _ k d (idx+1) (aFd st Pre hP Lv hLv t s _ hl h0 hs) (fun j hj=>by
    have:=hp (j+1) (by simpa using hj);rw[show idx+(j+1)=idx+1+j by omega] at this;simpa using this) h
  ·rw[if_neg hs] at h;simp at h
end
theorem aIh {σ:Type} (st:σ->Int->Tm->σ×Bool)(y p2 p3 p4:Nat)(Pre:Tm->Int->Prop)(hP:∀k i n ls ks d,Pre (.mk k i n ls ks) d->∀(j:Nat)(hj:j<ks.length),Pre ks[j] (d+aI k j))(Lv:σ->Prop)(hLv:∀s d u,Lv s->Pre u d->(st s d u).2=true->Lv (st s d u).1)(N:Nat):
  ∀(t:Tm) (s:σ) (d:Int) (B:σ->Heap) (n:Nat),t.size<=N->Lv s->Pre t d->0<=d->d+t.size<=1099511627776->(∀s,(B s).length=n)->(∀s,WF (B s))->
   (∀s,(B s)[p2]?=some (some (.cells [yv y]))/\(B s)[p3]?=some (some (.cells usesL))/\(B s)[p4]?=some (some (.cells [vf p2 p3 p4])))->
   (∀s d u l,Lv s->Pre u d->WF (B s++l)->AYield Tryz.prog y [iA d,u.av] (B s++l) (fun o h'=>o= .ret (bA (st s d u).2)/\h'=B (st s d u).1++l))->
   ACalls Tryz.prog 287 ([t.av,iA d]++[.ptr p2 0, .ptr p3 0, .ptr p4 0]) (B s) (fun o h'=>o= .ret (bA (vis st s d t).2)/\h'=B (vis st s d t).1):=by
 induction N with
 |zero=>intro t _ _ _ _ hN;have:=t.size_pos;omega
 |succ N ih=>
 intro t s d B n hN hls hpre hd0 hd1 hlen hwf hcells HY;obtain⟨k,i,nm,ls,ks⟩:=t;have hp2:=(bLw.1 (hcells s).1).1;have hp3:=(bLw.1 (hcells s).2.1).1;have hp4:=(bLw.1 (hcells s).2.2).1;rw[hlen] at hp2 hp3 hp4;have c2:∀s (l:List (Option AO)),(B s++l)[p2]?=some (some (.cells [yv y])):=fun s l=>by rw[bM9 (by rw[hlen];exact hp2)];exact(hcells s).1
 have c3:∀s (l:List (Option AO)),(B s++l)[p3]?=some (some (.cells usesL)):=fun s l=>by rw[bM9 (by rw[hlen];exact hp3)];exact(hcells s).2.1
 have c4:∀s (l:List (Option AO)),(B s++l)[p4]?=some (some (.cells [vf p2 p3 p4])):=fun s l=>by rw[bM9 (by rw[hlen];exact hp4)];exact(hcells s).2.2
 have gl:∀s (l:List (Option AO)) (k:Nat),(B s++l)[n+k]?=l[k]?:=fun s l k=>cG (hlen s)
 have gl0:∀s (l:List (Option AO)),(B s++l)[n]?=l[0]?:=fun s l=>eG (hlen s)
 have sl:∀s (l:List (Option AO)) (k:Nat) (o:Option AO),(B s++l).set (n+k) o=B s++l.set k o:=fun s l k o=>cH (hlen s)
 have sl0:∀s (l:List (Option AO)) (o:Option AO),(B s++l).set n o=B s++l.set 0 o:=fun s l o=>gU (hlen s)
 have wfl:∀s (l:List (Option AO)),l.all (AO.under (n+l.length))=true->WF (B s++l):=fun s l hl=>(hwf s).app (by rw[hlen];exact hl)
 simp only[Tm.size] at hN hd1;have hll:=aR ks;refine y1f ?_;refine ACalls.of_run Tryz.func287 rfl ?_;refine y1u ?_;refine sD hlen ?_;refine zr2 gl0 c2 ?_;have hy:=HY s d (.mk k i nm ls ks) [some (.cells [iA k,iA i, .p (sP nm), .p (.sl 2 (lvPs ls)), .p (.sl 5 (tmPs ks))])] hls hpre (wfl _ _ aA);obtain⟨⟨s1,g1⟩,hst⟩:∃r,st s d (.mk k i nm ls ks)=r:=⟨_,rfl⟩;have hl1:=hLv s d (.mk k i nm ls ks) hls hpre;rw[hst] at hy hl1;simp only at hy hl1;refine Run.yield rfl rfl aA hy ?_ ?_
 rotate_left
 ·rintro v h' ⟨hv,_⟩;cases hv
 rintro v h' ⟨hv,rfl⟩;simp only[AOut.ret.injEq] at hv;subst hv;have hvis:vis st s d (.mk k i nm ls ks)=if g1=true then lK st s1 k d 0 ks else(s1,false):=by simp only[vis,hst]
 cases g1 with
 |false=>
  exact y4x
 |true=>
  simp only[if_true] at hvis;rw[hvis];refine zofr ?_;refine Run.regJ [1,2,3,4,5,8] 24 (decide (0<=k)&& decide (k<13)) (fun K J=>?_) ?_
  ·simp[gl0];exact y1x
  refine y6 ?_;simp;refine Run.joinA [1,2,3,4,5] [(8,iA (belowK k))] (fun hJ=>?_) ?_
  ·exact y2p
  refine y6 ?_;refine aAk gl0 ?_
  refine Run.loopS (ι:=Nat×σ) [1,2,3,4,5,8,31,32] (fun p=>p.1<=ks.length/\lK st s1 k d 0 (ks.take p.1)=(p.2,true)/\Lv p.2) (fun p=>ks.length-p.1) (fun p=>[(33,iA p.1)])
   (fun p=>B p.2++[some (.cells [iA k,iA i, .p (sP nm), .p (.sl 2 (lvPs ls)), .p (.sl 5 (tmPs ks))])]) (0,s1) ⟨by simp,by simp[lK],hl1 rfl⟩ ?_ aA ?_
  ·exact zS
  rintro⟨j,sj⟩ ⟨hj,hvj,hlj⟩ IH;simp only at hj hvj hlj;refine cK ?_
  by_cases hjl:j<ks.length
  ·have hg:ks[j]?=some ks[j]:=bLv hjl;have hs:=dO hjl;have hpj:=hP _ _ _ _ _ _ hpre j hjl;have hbz:=bL k j;have htk:ks.take (j+1)=ks.take j++[ks[j]]:=bM6 hjl;have hsn:=sA st k d (ks.take j) s1 0 ks[j];rw[hvj,<-htk] at hsn;simp only[if_true,bMw,bMn,bNc hj] at hsn;have hbk:=xG k j;have hlv2:=aFd st Pre hP Lv hLv ks[j] sj (d+aI k j) hlj hpj;have hstop:=sB st k d (vis st sj (d+aI k j) ks[j]).1 (ks.take (j+1)) (ks.drop (j+1)) s1 0;rw[bN5] at hstop;generalize ks[j]=u at hg hs hpj hsn hstop hlv2;refine znt1 hjl ?_;refine zr2 hg hlen ?_;refine zr ?_;refine zr ?_;refine Run.joinA [1,2,3,4,5,8,10,31,32,33] [(11,iA (d+aI k j))] (fun hJ=>?_) ?_
   ·exact y2x
   refine y6 ?_;refine zsn ?_;refine zr2 c4 gl ?_;obtain⟨L,hL⟩:∃L:List (Option AO),L=[some (.cells [iA k,iA i, .p (sP nm), .p (.sl 2 (lvPs ls)), .p (.sl 5 (tmPs ks))]),some (.cells (u.cells.map .p))]:=⟨_,rfl⟩;have hLl:L.length=2:=by rw[hL];rfl
   have hLu:L.all (AO.under (n+L.length))=true:=by rw[hLl,hL];simp
   have hcall:=ih u sj (d+aI k j) (fun s=>B s++L) (n+2) aB hlj hpj aB aB (fun s=>by rw[bM5,hlen,hLl]) (fun s=>wfl s L hLu) (fun s=>⟨c2 s L,c3 s L,c4 s L⟩)
    (fun s d u l hls hp hw=>by
     have:=HY s d u (L++l) hls hp (by rw[<-bMj];exact hw);refine y1h ?_;intro o h' hq;exact⟨hq.1,by rw[hq.2,bMj]⟩)
   rw[hL] at hcall;obtain⟨⟨s2,g2⟩,hv2⟩:∃r,vis st sj (d+aI k j) u=r:=⟨_,rfl⟩;rw[hv2] at hcall hsn hstop hlv2;simp only at hcall hstop hlv2;refine rl rfl rfl aA rfl hcall ?_
   cases g2 with
   |false=>
    exact y5i
   |true=>
    refine y19 ?_;refine IH (j+1,s2) _ _ ⟨by simp only;omega,hsn,hlv2 rfl⟩ (by simp only;omega) ?_ aA;exact zS
  ·exact y4i
theorem aLx {σ:Type} (st:σ->Int->Tm->σ×Bool)(y q:Nat)(Pre:Tm->Int->Prop)(hP:∀k i n ls ks d,Pre (.mk k i n ls ks) d->∀(j:Nat)(hj:j<ks.length),Pre ks[j] (d+aI k j))(Lv:σ->Prop)(hLv:∀s d u,Lv s->Pre u d->(st s d u).2=true->Lv (st s d u).1)
  (t:Tm) (s:σ) (B:σ->Heap) (n:Nat) (hls:Lv s) (hpre:Pre t 0) (hsz:t.size<=1099511627776) (hlen:∀s,(B s).length=n) (hwf:∀s,WF (B s)) (hq:∀s,(B s)[q]?=some (some (.cells (t.cells.map .p))))
  (HY:∀s d u l,Lv s->Pre u d->WF (B s++l)->AYield Tryz.prog y [iA d,u.av] (B s++l) (fun o h'=>o= .ret (bA (st s d u).2)/\h'=B (st s d u).1++l)):
  ACalls Tryz.prog 285 [yv y, .ptr q 0] (B s) (fun o h'=>o= .ret (.tup [])/\h'=B (vis st s 0 t).1):=by
 have hqlt:=(bLw.1 (hq s)).1;rw[hlen] at hqlt;have cq:∀s (l:List (Option AO)),(B s++l)[q]?=some (some (.cells (t.cells.map .p))):=fun s l=>by rw[bM9 (by rw[hlen];exact hqlt)];exact hq s
 have gl:∀s (l:List (Option AO)) (k:Nat),(B s++l)[n+k]?=l[k]?:=fun s l k=>cG (hlen s)
 have gl0:∀s (l:List (Option AO)),(B s++l)[n]?=l[0]?:=fun s l=>eG (hlen s)
 have sl:∀s (l:List (Option AO)) (k:Nat) (o:Option AO),(B s++l).set (n+k) o=B s++l.set k o:=fun s l k o=>cH (hlen s)
 have wfl:∀s (l:List (Option AO)),l.all (AO.under (n+l.length))=true->WF (B s++l):=fun s l hl=>(hwf s).app (by rw[hlen];exact hl)
 obtain⟨L,hL⟩:∃L:List (Option AO),L=[some (.cells [yv y]),some (.cells usesL),some (.cells [vf n (n+1) (n+2)])]:=⟨_,rfl⟩;have hLl:L.length=3:=by rw[hL];rfl
 have hLu:L.all (AO.under (n+L.length))=true:=by rw[hLl,hL];simp[rV]
 have hv:=aIh st y n (n+1) (n+2) Pre hP Lv hLv t.size t s 0 (fun s=>B s++L) (n+3) (bLx _) hls hpre aB aB (fun s=>by rw[bM5,hlen,hLl]) (fun s=>wfl s L hLu)
  (fun s=>by rw[hL];exact⟨by rw[gl0];rfl,by rw[gl];rfl,by rw[gl];rfl⟩)
  (fun s d u l hls hp hw=>by
   have:=HY s d u (L++l) hls hp (by rw[<-bMj];exact hw);refine y1h ?_;intro o h' hq;exact⟨hq.1,by rw[hq.2,bMj]⟩)
 rw[hL] at hv;have hu:=wL (B s++[some (.cells [yv y])]) (wfl s _ aA);refine zE Tryz.func285 Tryz.ntmps285 ?_;refine sD hlen ?_;refine zr ?_;refine Run.call rfl rfl aA rfl hu ?_ ?_
 rotate_left
 ·rintro v h' ⟨hv,_⟩;cases hv
 rintro v h' ⟨hv',rfl⟩;simp only[AOut.ret.injEq] at hv';subst hv';have hone:usesL.all lI=true:=rfl;have hone':∀x∈usesL,lI x=true:=by rw[bMg] at hone;exact hone
 refine zov9 hlen ?_;refine zr1 hlen ?_;refine bAa hlen ?_;refine zr2 hlen cq ?_;obtain⟨k,i,nm,ls,ks⟩:=t;refine Run.call rfl rfl aA rfl hv ?_ ?_
 rotate_left
 ·rintro v h' ⟨hv,_⟩;cases hv
 rintro v h' ⟨hv',rfl⟩;exact y4n
open Go Go.AI
def oV (v p m l:Int)(d:Int):Tm->Int
 | .mk k i n ls ks=>if fM (.mk k i n ls ks)=false then 3 else lY d v p m l k i n ls
def lE (v p m l:Int)(s:Int×Int)(d:Int)(u:Tm):(Int×Int)×Bool:=
 if oV v p m l d u=0 then((IntKind.i64.wrap (s.1+1),0),true) else((s.1,oV v p m l d u),false)
mutual
theorem aD9 (v p m l:Int):∀(t:Tm)(s d:Int),0<=s->s+t.size<=1099511627776->
  (chk v p m l d t=0->vis (lE v p m l) (s,0) d t=((s+t.size,0),true))/\(chk v p m l d t≠0->(vis (lE v p m l) (s,0) d t).2=false/\(vis (lE v p m l) (s,0) d t).1.2=chk v p m l d t)
 | .mk k i n ls ks,s,d,h0,h1=>by
  simp only[Tm.size] at h1
  have hn:chk v p m l d (.mk k i n ls ks)=if oV v p m l d (.mk k i n ls ks)≠0 then oV v p m l d (.mk k i n ls ks) else aL (lQ v p m l k d 0 ks):=by
   simp only[chk,oV];split
   ·simp
   ·rfl
  rw[hn];simp only[vis,lE];generalize oV v p m l d (.mk k i n ls ks)=z
  by_cases hz:z=0
  ·subst hz;simp only[if_true,ne_eq,bOg,if_false];rw[wrap_id (n:=s+1) aB aB];have:=aFc v p m l k ks (s+1) d 0 aB aB;rw[show((Tm.mk k i n ls ks).size:Int)=1+Tm.sizes ks by simp[Tm.size]];rw[<-Int.add_assoc];exact this
  ·simp[hz]
theorem aFc (v p m l k:Int):∀(ks:List Tm)(s d:Int)(idx:Nat),0<=s->s+Tm.sizes ks<=1099511627776->
  (aL (lQ v p m l k d idx ks)=0->lK (lE v p m l) (s,0) k d idx ks=((s+Tm.sizes ks,0),true))/\
  (aL (lQ v p m l k d idx ks)≠0->(lK (lE v p m l) (s,0) k d idx ks).2=false/\(lK (lE v p m l) (s,0) k d idx ks).1.2=aL (lQ v p m l k d idx ks))
 |[],s,d,idx,_,_=>by simp[lQ,aL,lK,Tm.sizes]
 |t::ts,s,d,idx,h0,h1=>by
  simp only[Tm.sizes] at h1;obtain⟨a1,a2⟩:=aD9 v p m l t s (d+aI k idx) h0 aB;simp only[lQ,aL,lK]
  by_cases hz:chk v p m l (d+aI k idx) t=0
  ·rw[a1 hz];simp only[hz,if_true];have:=aFc v p m l k ts (s+t.size) d (idx+1) aB aB;rw[show((Tm.sizes (t::ts):Nat):Int)=t.size+Tm.sizes ts by simp[Tm.sizes],<-Int.add_assoc];exact this
  ·obtain⟨b1,b2⟩:=a2 hz;simp[hz,b1,b2]
end
def dY (n:Int):Int:=if n<0 then 0 else n
theorem aHa (p l:Int)(x:Lv):bO (dY p) (dY l) x=bO p l x:=by
 have e1:∀a:Int,(decide (0<=a)&& decide (dY p<=a))=(decide (0<=a)&& decide (p<=a)):=by
  intro a;unfold dY;split
  ·by_cases h:0<=a
   ·simp[h,show p<=a by omega]
   ·simp[h]
  ·rfl
 have e2:∀a:Int,(decide (a<0)&& decide (dY l<=-1-a))=(decide (a<0)&& decide (l<=-1-a)):=by
  intro a;unfold dY;split
  ·by_cases h:a<0
   ·have q1:l<=-1-a:=aB;have q2:(0:Int)<=-1-a:=aB;rw[decide_eq_true h,decide_eq_true q1,decide_eq_true q2]
   ·simp[h]
  ·rfl
 simp only[bO,e1,e2]
theorem aLo (d v p m l k i:Int)(n:List UInt8)(ls:List Lv):lY d v (dY p) (dY m) (dY l) k i n ls=lY d v p m l k i n ls:=by
 have e1:ls.map (bO (dY p) (dY l))=ls.map (bO p l):=List.map_congr_left fun x _=>aHa p l x
 have e2:(k=12/\(i<0\/dY m<=i))↔(k=12/\(i<0\/m<=i)):=by
  unfold dY;split
  ·constructor
   ·rintro⟨h1,h2⟩;exact⟨h1,by omega⟩
   ·rintro⟨h1,h2⟩;exact⟨h1,by omega⟩
  ·rfl
 simp only[lY,e1,e2]
mutual
theorem aJ9 (v p m l:Int):∀(t:Tm)(d:Int),chk v (dY p) (dY m) (dY l) d t=chk v p m l d t
 | .mk k i n ls ks,d=>by simp only[chk,aLo,aE2 v p m l ks k d 0]
theorem aE2 (v p m l:Int):∀(ks:List Tm)(k d:Int)(idx:Nat),lQ v (dY p) (dY m) (dY l) k d idx ks=lQ v p m l k d idx ks
 |[],_,_,_=>by simp only[lQ]
 |t::ts,k,d,idx=>by simp only[lQ,aJ9 v p m l t,aE2 v p m l ts k d (idx+1)]
end
def aJ6 (v p m l:Int)(t:Tm):Int:=
 if(vis (lE (dY v) (dY p) (dY m) (dY l)) (0,0) 0 t).2=false then(vis (lE (dY v) (dY p) (dY m) (dY l)) (0,0) 0 t).1.2
 else if 4096<(vis (lE (dY v) (dY p) (dY m) (dY l)) (0,0) 0 t).1.1 then 5 else if 200<(t.depth:Int) then 7 else 0
theorem aJ7 (v p m l:Int)(t:Tm)(hsz:t.size<=1099511627776):aJ6 v p m l t=dK v p m l t:=by
 obtain⟨a1,a2⟩:=aD9 (dY v) (dY p) (dY m) (dY l) t 0 0 aB aB;unfold aJ6 dK;rw[aJ9] at a1 a2;have e:(if v<0 then 0 else v)=dY v:=rfl;rw[e]
 by_cases hz:chk (dY v) p m l 0 t=0
 ·rw[a1 hz];simp[hz]
 ·obtain⟨b1,b2⟩:=a2 hz;simp[hz,b1,b2]
def nameP (n:List UInt8):Bool:=fZ n==some false&& decide ((n.length:Int)<=64)
theorem aQx (n:List UInt8):nameP n=nameB n:=by
 unfold nameP nameB
 have e1:decide ((n.length:Int)<=64)=!decide (64<(n.length:Int)):=by
  by_cases h:64<(n.length:Int)
  ·rw[decide_eq_true h,decide_eq_false aB];rfl
  ·rw[decide_eq_false h,decide_eq_true aB];rfl
 rw[e1]
 cases n with
 |nil=>simp[fZ]
 |cons c n=>rw[decide_eq_false (List.cons_ne_nil c n),bO6,Bool.and_comm]
open Go Go.AI
theorem aCz (h:Heap)(hh:WF h)(c:Int):ACalls Tryz.prog 335 [.p (.prim (.int .u8 c))] h fun o h'=>o= .ret (bA (letterB c))/\h'=h:=by
 refine zER Tryz.func335 Tryz.ntmps335 ?_;refine Run.regJ [] 2 (letterB c) (fun K J=>?_) ?_
 ·exact y32
 refine ym ?_;exact y2j
theorem aH9 (z:Int)(h:letterB z=true):z≠46/\z≠39/\¬(48<=z/\z<=57):=by
 unfold letterB at h;simp at h;omega
theorem aO2 (h:Heap)(hh:WF h)(n:List UInt8)(hb:n.length<=1099511627776):ACalls Tryz.prog 289 [.p (sP n)] h fun o h'=>o= .ret (bA (nameP n))/\h'=h:=by
 refine dE Tryz.func289 Tryz.ntmps289 ?_;refine Run.reg fun K J=>?_
 simp[ByteArray.size];refine zj ?_;clear J;refine Run.loopS (ι:=Nat×Bool) [0,7] (fun p=>p.1<=n.length/\fZ (n.take p.1)=some p.2) (fun p=>n.length-p.1) (fun p=>[(3,bA p.2),(8,iA p.1)]) (fun _=>_) (0,true) (by simp[fZ]) ?_ rfl ?_
 ·exact zS
 ·rintro⟨j,fst⟩ ⟨hj,hst⟩ IH;simp only at hj hst;refine cK ?_
  by_cases hjl:j<n.length
  ·have hg:n[j]?=some n[j]:=bLv hjl;obtain⟨c,hcj⟩:∃c,n[j]=c:=⟨_,rfl⟩;rw[hcj] at hg;have hsn:=aEu hg;rw[hst] at hsn;refine lH hjl ?_;refine zr1 hg ?_;refine zr ?_;refine zL (aCz _ hh c.toNat) ?_;obtain⟨z,hz⟩:∃z:Int,(c.toNat:Int)=z:=⟨_,rfl⟩
   have hst2:qT (some fst) c=if fst=true then(if letterB z=true then some false else none) else if z=46 then some true else if(letterB z||z==39||(decide (48<=z)&& decide (z<=57)))=true then some false else none:=by
    rw[<-hz]
    cases fst<;>simp[qT]
   rw[hz] at*;have hlt:=aH9 z
   cases hlb:letterB z with
   |true=>
    obtain⟨l1,l2,l3⟩:=hlt hlb;rw[hlb] at hst2;have hs3:qT (some fst) c=some false:=by rw[hst2];cases fst<;>simp[l1]
    rw[hs3] at hsn;refine zot ?_;refine zr ?_;refine zr ?_;exact y3l
   |false=>
    rw[hlb] at hst2;refine zofr ?_
    cases fst with
    |true=>
     simp only[if_true,bMe,if_false] at hst2;rw[hst2] at hsn;refine znt ?_;exact y6a
    |false=>
     simp only[bMe,if_false,bO6] at hst2;refine aIr ?_
     by_cases h46:z=46
     ·rw[if_pos h46] at hst2;rw[hst2] at hsn;refine lH h46 ?_;refine zr ?_;refine IH (j+1,true) _ _ ⟨by simp only;omega,hsn⟩ (by simp only;omega) ?_ rfl;exact zS
     ·rw[if_neg h46] at hst2;refine aFh h46 ?_;refine Run.regJ [0,3,5,7,8] 22 (decide (z<48)||decide (57<z)) (fun K J=>?_) ?_
      ·simp;exact y1x
      refine y6 ?_;simp;refine Run.condB rfl (fun h1=>?_) (fun h1=>?_)
      ·refine znr ?_
       by_cases h39:z=39
       ·rw[if_pos (by simp[h39])] at hst2;rw[hst2] at hsn;refine znf1r h39 ?_;exact y3l
       ·rw[if_neg (by simp[h39];simp at h1;omega)] at hst2;rw[hst2] at hsn;refine znt1 h39 ?_;exact y6a
      ·rw[if_pos (by simp at h1⊢;omega)] at hst2;rw[hst2] at hsn;refine znr ?_;exact y3l
  ·have hje:j=n.length:=aB;subst hje;rw[bMm] at hst;refine znfen ?_;refine Run.regJ [] 2 (!fst&& decide ((n.length:Int)<=64)) (fun K J=>?_) ?_
   ·simp[ByteArray.size];exact y1x
   refine ym ?_;refine Fin.ret' aA rfl hh (bM1 _).symm rfl rfl (Weak.refl _) rfl ⟨?_,rfl⟩;simp only[nameP,hst]
   cases fst<;>rfl
end Go.Proofs.YtplomildbmcmfaaGreat
