import Derived.Test.YtcfcolkbeelegaaGreatJA0
import Derived.Test.YtcfcolkbeelegaaGreatJD
import Derived.Test.YtcfcolkbeelegaaGreatJE1
import Derived.Test.YtcfcolkbeelegaaGreatJC
set_option maxRecDepth 8000
set_option maxHeartbeats 8000000
namespace Go.Proofs.YtcfcolkbeelegaaGreat
open Go Go.AI
theorem aJu (N:Nat):∀(t:Tm)(h:Heap),t.size<=N->t.size<=1099511627776->WF h->AC 146 [t.av] h (iA t.depth):=by
 induction N with
 |zero=>intro t h hN;cases t;simp[Tm.size] at hN
 |succ N ih=>
 intro t h hN hsz hh;obtain⟨k,i,n,ls,ks⟩:=t;simp only[Tm.size] at hN hsz;have hll:=aR ks;refine ACalls.of_run Tryz.func146 rfl ?_;simp only[Tryz.ntmps146,aZ1,aZ2,Tm.av,aH,List.map];refine iQ ?_;refine Run.loopS [7,8] (fun j:Nat=>j<=ks.length) (fun j=>ks.length-j) (fun j=>[(3,iA (Tm.depths (ks.take j):Nat)),(9,iA j)]) (fun _=>_) 0 aA ?_ rfl ?_
 ·simp[Tm.depths];exact zK
 ·intro j hj IH;refine cI ?_
  by_cases hjl:j<ks.length
  ·have hg:ks[j]?=some ks[j]:=aYu hjl;have hs:=eL hjl;have htk:ks.take (j+1)=ks.take j++[ks[j]]:=aZ5 hjl;have hd1:=jU ks[j];have hd2:=mM ks j;refine nT hjl hg ?_;refine Run.call (args:=[ks[j].av]) rfl rfl aA rfl (ih ks[j] _ aB aB (hh.app aA)) ?_ ?_
   ·rintro v h' ⟨hv,rfl⟩;simp only[AOut.ret.injEq] at hv;subst hv;refine zor ?_;refine Run.keep [3,7,8,9] ?_;simp;refine y15 ?_;refine IH (j+1) _ _ aB aB ?_ aA;exact y6e
   ·rintro v h' ⟨hv,_⟩;cases hv
  ·exact y5x
@[simp] theorem patch2 (a b:AV) (t:Lv):patch [a,b] 0 (t.cells.map AV.p)=t.cells.map AV.p:=by cases t;rfl
end Go.Proofs.YtcfcolkbeelegaaGreat
namespace Go.AI
open Go
theorem Run.joinH {P:Program} {rd:Option Nat} {nb:Nat} {k:List It} {T:List AV} {h:Heap} {D:List AD} {Q:AX->List AV->Heap->List AD->Prop} {c:Code} (keep:List Nat)(sets:List (Nat×AV))(h2:Heap)(r:(∀T',WeakL T' (bQ (keepT keep T) sets)->Run P rd nb k T' h2 D Q)->Run P rd nb (.code c::k) T h D Q)
  (next:Run P rd nb k (bQ (keepT keep T) sets) h2 D Q):Run P rd nb (.code c::k) T h D Q:=r fun _ hw=>Run.weak hw next
end Go.AI
namespace Go.Proofs.YtcfcolkbeelegaaGreat
open Go Go.AI
def gF (dp:Int)(len:Nat)(t:Tm)(b:Int):Int:=
 if 0<=IntKind.i64.wrap (IntKind.i64.wrap (t.index-b)-dp)/\IntKind.i64.wrap (IntKind.i64.wrap (t.index-b)-dp)<len then IntKind.i64.wrap (IntKind.i64.wrap (t.index-b)-dp) else-1
theorem aDa (h:Heap)(hh:WF h)(t:Tm)(b dp:Int)(vs:List Tm)(p q:Nat)(hp:h[p]?=some (some (.cells [iA dp])))(hq:h[q]?=some (some (.cells [.p (.sl 5 (aL vs))]))):
  AC 154 [t.av,iA b, .ptr p 0, .ptr q 0] h (iA (gF dp vs.length t b)):=by
 obtain⟨p1,_⟩:=idf hp;obtain⟨q1,_⟩:=idf hq;obtain⟨k,i,n,ls,ks⟩:=t;obtain⟨z,hz⟩:∃z,IntKind.i64.wrap (IntKind.i64.wrap (i-b)-dp)=z:=⟨_,rfl⟩;refine ACalls.of_run Tryz.func154 rfl ?_;simp only[Tryz.ntmps154,aZ1,aZ2,Tm.av,aH,List.map];refine aFx p1 ?_;rw[hz];refine nv ?_;refine Run.regJ [0,7] 21 (decide (0<=z)&& decide (z<vs.length)) (fun K J=>?_) ?_
 ·simp[q1];exact y2p
 refine y7 ?_;simp;refine Run.condB rfl (fun h1=>?_) (fun h1=>?_)
 ·refine zA ?_;refine Fin.ret' aA rfl hh rfl rfl rfl (Weak.refl _) rfl ⟨?_,rfl⟩;simp only[gF,Tm.index,hz];rw[if_pos (by simpa using h1)];rfl
 ·refine zA ?_;refine Fin.ret' aA rfl hh rfl rfl rfl (Weak.refl _) rfl ⟨?_,rfl⟩;simp only[gF,Tm.index,hz];rw[if_neg (by simpa using h1)];rfl
theorem aSr (h:Heap)(hh:WF h)(p:Nat)(s n:Int)(hp:h[p]?=some (some (.cells [iA s]))):
  ACalls Tryz.prog 157 [.ptr p 0,iA n] h fun o h'=>o=(if 4096<IntKind.i64.wrap (s+n) then .panic (.p (aGu 5)) else .ret (.tup []))/\h'=h.set p (some (.cells [iA (IntKind.i64.wrap (s+n))])):=by
 obtain⟨p1,p2,p3,p4,p5,p6⟩:=idf hp;refine zE Tryz.func157 Tryz.ntmps157 ?_;refine nQ hp ?_;generalize IntKind.i64.wrap (s+n)=z;refine nQ p3 ?_
 by_cases hz:4096<z
 ·refine kL hz ?_;refine Run.call (args:=[iA 5]) rfl rfl aA rfl (sF _ (hh.set aA) 5) ?_ ?_
  ·rintro v h' ⟨hv,_⟩;cases hv
  ·rintro v h' ⟨hv,rfl⟩;simp only[AOut.panic.injEq] at hv;subst hv;exact Fin.pan aA (hh.set aA) (aZ0 _).symm ⟨by simp[hz],rfl⟩
 ·refine vL hz ?_;refine Run.nil ?_;exact Fin.ret' aA aA (hh.set aA) (aZ0 _).symm rfl rfl (Weak.refl _) rfl ⟨by simp[hz],rfl⟩
def aL2 (dp:Int)(zs:List Int)(t:Tm)(b:Int):Int:=if t.kind=0/\0<=gF dp zs.length t b then(zs[(gF dp zs.length t b).toNat]?).getD 0 else 1
def iY (dp:Int)(zs:List Int)(s:Int)(t:Tm)(b:Int):VO:=
 if 4096<IntKind.i64.wrap (s+aL2 dp zs t b) then .bad 5 (IntKind.i64.wrap (s+aL2 dp zs t b)) else if t.kind=0 then .done zT (IntKind.i64.wrap (s+aL2 dp zs t b)) else .go zT (IntKind.i64.wrap (s+aL2 dp zs t b))
theorem aD9 (dp:Int)(len:Nat)(t:Tm)(b:Int)(h:0<=gF dp len t b):(gF dp len t b).toNat<len:=by
 unfold gF at h⊢;split
 ·rename_i hc;omega
 ·rename_i hc;rw[if_neg hc] at h;omega
theorem aTa (dp:Int)(vs:List Tm)(zs:List Int)(hzl:zs.length=vs.length)(B:Int->Heap)(n pv pc p9 pz pn p5 p4:Nat)(hlen:∀s,(B s).length=n)(hwf:∀s,WF (B s))
  (hpv:∀s,(B s)[pv]?=some (some (.cells [.fn (.func 154) [] [.ptr p5 0, .ptr p4 0]]))) (hpc:∀s,(B s)[pc]?=some (some (.cells [.ptr pn 0]))) (hp9:∀s,(B s)[p9]?=some (some (.cells [.sm pz 0 vs.length vs.length 1])))
  (hpz:∀s,(B s)[pz]?=some (some (.cells (zs.map fun z=>iA z)))) (hpn:∀s,(B s)[pn]?=some (some (.cells [iA s]))) (hp5:∀s,(B s)[p5]?=some (some (.cells [iA dp]))) (hp4:∀s,(B s)[p4]?=some (some (.cells [.p (.sl 5 (aL vs))])))
  (hB:∀s s',(B s).set pn (some (.cells [iA s']))=B s') (s:Int) (t:Tm) (b:Int) (l:List (Option AO)) (hw:WF (B s++l)):
  ACalls Tryz.prog 156 ([t.av,iA b]++[.ptr pv 0, .ptr pc 0, .ptr p9 0]) (B s++l) (iZ B l (iY dp zs s t b)):=by
 have lt:∀ {q:Nat} {o:Option AO},(∀s,(B s)[q]?=some o)->q<n:=fun hq=>by have:=(aYv.1 (hq 0)).1;rwa [hlen] at this
 have up:∀ {q:Nat} {o:Option AO},(∀s,(B s)[q]?=some o)->∀s (l:List (Option AO)),(B s++l)[q]?=some o:=fun hq s l=>by rw[aZ8 (by rw[hlen];exact lt hq)];exact hq s
 have cv:=up hpv;have cc:=up hpc;have c9:=up hp9;have cz:=up hpz;have ltn:pn<n:=by have:=(aYv.1 (hpn 0)).1;rwa [hlen] at this
 have cn:∀s (l:List (Option AO)),(B s++l)[pn]?=some (some (.cells [iA s])):=fun s l=>by rw[aZ8 (by rw[hlen];exact ltn)];exact hpn s
 have hB2:∀s s' (l:List (Option AO)),(B s++l).set pn (some (.cells [iA s']))=B s'++l:=fun s s' l=>by rw[aZp _ _ (by rw[hlen];exact ltn),hB]
 have gl:∀s (l':List (Option AO)) (k:Nat),(B s++(l++l'))[n+(l.length+k)]?=l'[k]?:=fun s l' k=>by rw[eG (hlen s),oI]
 have gl0:∀s (l':List (Option AO)),(B s++(l++l'))[n+l.length]?=l'[0]?:=fun s l'=>gl s l' 0
 have sl:∀s (l':List (Option AO)) (k:Nat) (o:Option AO),(B s++(l++l')).set (n+(l.length+k)) o=B s++(l++l'.set k o):=fun s l' k o=>by rw[eU (hlen s),oZ]
 have hl0:l.all (AO.under (n+l.length))=true:=by
  exact y8k
 have hl1:∀k,l.all (AO.under (n+(l.length+k)))=true:=fun k=>by
  exact y98
 have hwB:∀s',WF (B s'++l):=fun s'=>(hwf s').app (by rw[hlen];exact hl0)
 obtain⟨k,i,nm,ls,ks⟩:=t;obtain⟨L,hL⟩:∃L:List (Option AO),L=[some (.cells [iA k,iA i, .p (sP nm), .p (.sl 2 (aW ls)), .p (.sl 5 (aL ks))]),some (.cells zTm)]:=⟨_,rfl⟩;have hwL:∀s',WF (B s'++(l++L)):=fun s'=>(hwf s').app (by rw[hlen,bB8,aZ7,hL];exact⟨by simpa using hl1 2,by simp⟩)
 have hval:=aDa (B s++(l++L)) (hwL s) (.mk k i nm ls ks) b dp vs p5 p4 (up hp5 s _) (up hp4 s _);have hadd:=fun z=>aSr (B s++(l++L)) (hwL s) pn s z (cn s _)
 obtain⟨v,hv⟩:∃v,gF dp vs.length (.mk k i nm ls ks) b=v:=⟨_,rfl⟩;have hvlt:=aD9 dp vs.length (.mk k i nm ls ks) b;rw[hv] at hval hvlt;have hcn:aL2 dp zs (.mk k i nm ls ks) b=if k=0/\0<=v then(zs[v.toNat]?).getD 0 else 1:=by simp only[aL2,Tm.kind,hzl,hv]
 rw[hL] at hval hadd;simp only[aYy,aZ3];refine ACalls.of_run Tryz.func156 rfl ?_;simp only[Tryz.ntmps156,aZ1,aZ2,Tm.av,aH,List.map];refine nQ hlen ?_;refine Run.reg fun K J=>?_
 simp[cv,gl0];refine zj ?_;clear J;refine Run.call rfl rfl aA rfl hval ?_ ?_
 rotate_left
 ·rintro v h' ⟨hv,_⟩;cases hv
 rintro v0 h' ⟨hv0,rfl⟩;simp only[AOut.ret.injEq] at hv0;subst hv0;refine zo ?_;refine Run.regJ [1,2,3,4,5,7,9] 20 (k==0&& decide (0<=v)) (fun K J=>?_) ?_
 ·simp[gl0];exact y2p
 refine y7 ?_;simp;obtain⟨cz0,hcz0⟩:∃z,aL2 dp zs (.mk k i nm ls ks) b=z:=⟨_,rfl⟩;rw[hcz0] at hcn;obtain⟨w2,hw2⟩:∃z,IntKind.i64.wrap (s+cz0)=z:=⟨_,rfl⟩;have hvis:iY dp zs s (.mk k i nm ls ks) b=if 4096<w2 then .bad 5 w2 else if k=0 then .done zT w2 else .go zT w2:=by simp only[iY,hcz0,hw2,Tm.kind]
 rw[hvis];have hadd2:=hadd cz0;rw[hw2] at hadd2;simp only[hB2] at hadd2;clear hadd hvis hval
 have hcase:(k=0/\0<=v/\zs[v.toNat]?=some cz0/\v.toNat<vs.length)\/((k==0&& decide (0<=v))=false/\cz0=1):=by
  by_cases hc:k=0/\0<=v
  ·left;rw[if_pos hc] at hcn;have hlt:=hvlt hc.2;refine⟨hc.1,hc.2,?_,hlt⟩;rw[aYu aB] at hcn⊢;simp only[aZb] at hcn;rw[hcn]
  ·right;rw[if_neg hc] at hcn;exact⟨by simpa using hc,hcn⟩
 by_cases hbad:4096<w2
 ·rw[if_pos hbad];simp only[if_pos hbad] at hadd2;rcases hcase with ⟨hk,hv0,hzv,hlt⟩|⟨hk,rfl⟩
  ·have hk2:(k==0&& decide (0<=v))=true:=by simp[hk,hv0]
   have hn:¬v<0:=aB;have hlt2:v<(vs.length:Int):=aB;refine ct (by simp only[aev,nO];rw[hk2]) (nv ?_);refine Run.drawPanic [0,0,0,0,0,0] [0,0,0,0,0,0] [0,0,0,6,14,31] [0,1,2,3,4] 5 aC aC ?_;refine zd6 cc c9 cz hn hlt2 hzv ?_;refine⟨_,_,_,_,_,_,rfl,rfl,rfl,by simp,rfl,hadd2,?_⟩;intro T' hT;exact y95
  ·refine cf (by simp only[aev,nO];rw[hk]) ?_;refine nQ cc ?_;refine Run.call rfl rfl aA rfl hadd2 ?_ ?_
   ·rintro v h' ⟨hv,_⟩;cases hv
   ·rintro v h' ⟨hv,rfl⟩;simp only[AOut.panic.injEq] at hv;subst hv;exact y95
 ·rw[if_neg hbad];simp only[if_neg hbad] at hadd2;refine Run.joinH [1,2,3,4,5,7] [] (B w2++(l++[some (.cells [iA k,iA i, .p (sP nm), .p (.sl 2 (aW ls)), .p (.sl 5 (aL ks))]),some (.cells zTm)])) (fun hJ=>?_) ?_
  ·rcases hcase with ⟨hk,hv0,hzv,hlt⟩|⟨hk,rfl⟩
   ·have hk2:(k==0&& decide (0<=v))=true:=by simp[hk,hv0]
    have hn:¬v<0:=aB;have hlt2:v<(vs.length:Int):=aB;refine ct (by simp only[aev,nO];rw[hk2]) (nv ?_);refine Run.draw [0,0,0,0,0,0] [0,0,0,0,0,0] [0,0,0,6,14,31] [0,1,2,3,4,5] aC aC ?_;refine zd6 cc c9 cz hn hlt2 hzv ?_;refine DR.call rfl rfl rfl aA rfl hadd2 ?_;refine zd ?_;exact y5p
   ·refine cf (by simp only[aev,nO];rw[hk]) ?_;refine aK6 cc ?_
    repeat (first|refine Run.skip ?_|refine Run.opsNil ?_|refine Run.inBlock ?_)
    refine Run.call rfl rfl aA rfl hadd2 ?_ ?_
    rotate_left
    ·rintro v h' ⟨hv,_⟩;cases hv
    rintro v0 h' ⟨hv0,rfl⟩;simp only[AOut.ret.injEq] at hv0;subst hv0;refine Run.ops fun K J=>?_
    simp;refine zi ?_;clear J;exact y3e
  refine y18 ?_;refine zsn ?_;refine Run.draw [0,0,0,0,0,1] [0,0,0,0,0,0] [0,0,2,6,1,31] [0,4,1,2,3,5] aC aC ?_;refine DR.go fun K J=>?_
  simp[gl,gl0,sl];refine zh ?_;clear J;refine y9 ?_;refine znx ?_
  by_cases hk:k=0
  ·rw[if_pos hk];refine y1f ?_;simp[iZ,hk]
  ·rw[if_neg hk];refine y1f ?_;simp[iZ,hk]
open Go Go.AI
theorem aR9 {n:Int} (h1:-18446744073709551616<=n)(h2:n< -9223372036854775808):IntKind.i64.wrap n=n+18446744073709551616:=by
 simp only[IntKind.wrap,IntKind.bits,IntKind.signed];simp;omega
theorem vI {dp:Int} {len:Nat} {t:Tm} {b:Int} (h0:0<=dp)(h1:dp<=9223372036854775807)(h2:-2199023255552<=t.index-b)(h3:t.index-b<=2199023255552)(h4:len<=1048576):
  gF dp len t b=if 0<=t.index-b-dp/\t.index-b-dp<len then t.index-b-dp else-1:=by
 unfold gF;rw[aQ (n:=t.index-b) aB aB]
 by_cases hc:-9223372036854775808<=t.index-b-dp
 ·rw[aQ hc aB]
 ·rw[aR9 aB aB,if_neg aB,if_neg aB]
def fB (dp:Int)(vs:List Tm)(s:Int)(t:Tm)(b:Int):BO Tm:=
 if 0<=gF dp vs.length t b then
  match vs[(gF dp vs.length t b).toNat]? with
  |some x=>match rB (dp+b) 0 x with
   | .ok t' _=> .ok t' s
   | .bad e _=> .bad e s
  |none=> .ok t s
 else if t.index-b<dp then .ok t.bare s
 else if 65535<t.index-vs.length then .bad 24 s else .ok (vr (t.index-vs.length)) s
theorem aJx (h:Heap)(hh:WF h)(dp:Int)(vs:List Tm)(hdp0:0<=dp)(hdp1:dp<=9223372036854775807)(hvl:vs.length<=1048576)(hvd:∀v∈vs,Dom 65536 v 0)(p8 p4 p5:Nat)(h8:h[p8]?=some (some (.cells [.fn (.func 154) [] [.ptr p5 0, .ptr p4 0]])))
  (h4:h[p4]?=some (some (.cells [.p (.sl 5 (aL vs))]))) (h5:h[p5]?=some (some (.cells [iA dp]))) (t:Tm) (b s:Int) (hd:Dom 65536 t b) (hb:b<=2097152) (hk:t.kind=0):
  ACalls Tryz.prog 158 ([t.av,iA b]++[.ptr p8 0, .ptr p4 0, .ptr p5 0]) h (RPost (fun _=>h) [] (fB dp vs s t b)):=by
 obtain⟨e8,_⟩:=idf h8;obtain⟨e4,_⟩:=idf h4;obtain⟨e5,_⟩:=idf h5;obtain⟨i1,i2,i3⟩:=hd.var hk;have hd2:=hd.2.1;have hvz:=vI (len:=vs.length) (t:=t) (b:=b) hdp0 hdp1 aB aB hvl;have hval:=aDa (h++[some (.cells (t.cells.map .p)),some (.cells zTm)]) (hh.app aA) t b dp vs p5 p4 (e5 _) (e4 _);have hvlt:=aD9 dp vs.length t b;obtain⟨v,hv⟩:∃v,gF dp vs.length t b=v:=⟨_,rfl⟩
 have hrep:fB dp vs s t b=if 0<=v then
  match vs[v.toNat]? with
  |some x=>match rB (dp+b) 0 x with
   | .ok t' _=> .ok t' s
   | .bad e _=> .bad e s
  |none=> .ok t s
 else if t.index-b<dp then .ok t.bare s
 else if 65535<t.index-vs.length then .bad 24 s else .ok (vr (t.index-vs.length)) s:=by rw[<-hv];rfl
 rw[hrep];rw[hv] at hval hvz hvlt;clear hrep hd;generalize t.index=i at*;subst i3;simp only[vr,aYy,aZ3];refine ACalls.of_run Tryz.func158 rfl ?_;simp only[Tryz.ntmps158,aZ1,aZ2,Tm.av,aH,List.map];refine aFx e8 ?_;refine Run.call (args:=[(vr i).av,iA b, .ptr p5 0, .ptr p4 0]) rfl rfl (by simp[vr]) rfl hval ?_ ?_
 rotate_left
 ·rintro v h' ⟨hv,_⟩;cases hv
 rintro v0 h' ⟨hv0,rfl⟩;simp only[AOut.ret.injEq] at hv0;subst hv0;refine zor ?_
 by_cases hv0:0<=v
 ·have hlt:=hvlt hv0;have hg:vs[v.toNat]?=some vs[v.toNat]:=aYu hlt;have hxd:=hvd _ (aYx hlt);generalize vs[v.toNat]=x at hg hxd;have hn:¬v<0:=aB
  have hdpb:dp+b<=1099511627776:=by
   split at hvz
   ·omega
   ·omega
  have hsh:=aF7 (h++[some (.cells ((vr i).cells.map .p)),some (.cells zTm)]) (hh.app aA) x (dp+b) 0 aB hdpb aB aB hxd;have hw:IntKind.i64.wrap (dp+b)=dp+b:=aQ aB aB;rw[if_pos hv0,hg];simp only
  cases hbo:rB (dp+b) 0 x with
  |ok t' s'=>
   rw[hbo] at hsh;have hsh2:=hsh.mono (R':=fun o h'=>o= .ret t'.av/\h'=_) (fun _ _ hp=>hp);refine dF hv0 ?_;refine Run.draw [0,0,0,0,0,0,0,0,1] [0,0,0,0,0,0,0,0,1] [0,0,3,7,0,0,48,127,255] [0,1,2,3,4,5,6,7,8] aC aC ?_;refine zd5 e4 e5 hg hn hw ?_;refine DR.call (args:=[x.av,iA (dp+b),iA 0]) rfl rfl rfl aA rfl hsh2 ?_;obtain⟨k',i',n',ls',ks'⟩:=t';refine zdv2 ?_;refine y9 ?_;refine znx ?_;refine y1s ?_;simp[RPost]
  |bad e s'=>
   rw[hbo] at hsh;have hsh2:=hsh.mono (R':=fun o h'=>o= .panic (.p (aGu e))/\h'=_) (fun _ _ hp=>hp);refine dF hv0 ?_;refine Run.drawPanic [0,0,0,0,0,0,0,0,1] [0,0,0,0,0,0,0,0,0] [0,0,3,7,0,0,48,127,255] [0,1,2,3,4,5,6] 7 aC aC ?_;refine zd5 e4 e5 hg hn hw ?_;refine⟨_,_,_,[x.av,iA (dp+b),iA 0],_,_,rfl,rfl,rfl,by simp,rfl,hsh2,?_⟩;intro T' hT;exact Fin.pan (h0:=h) rfl hh rfl (by simp[RPost])
 ·rw[if_neg hv0];have hw:IntKind.i64.wrap (i-b)=i-b:=aQ aB aB;have hw2:IntKind.i64.wrap (i-vs.length)=i-vs.length:=aQ aB aB;refine vL hv0 ?_;refine zrv5 e5 hw ?_
  by_cases c1:i-b<dp
  ·rw[if_pos c1];refine kL c1 ?_;refine Run.call (args:=[(vr i).av]) rfl rfl (by simp[vr]) rfl (oQ _ (hh.app aA) (vr i) ⟨by simp[vr,Tm.levels],by simp[vr,Tm.levels]⟩) ?_ ?_
   rotate_left
   ·rintro v h' ⟨hv,_⟩;cases hv
   rintro v0 h' ⟨hv0,rfl⟩;simp only[AOut.ret.injEq] at hv0;subst hv0;refine y1w ?_;simp[RPost,vr,Tm.bare]
  ·rw[if_neg c1];refine vL c1 ?_;refine zr2 e4 hw2 ?_;refine Run.call (args:=[iA (i-vs.length)]) rfl rfl aA rfl (aC2 _ (hh.app aA) (i-vs.length)) ?_ ?_
   ·rintro v0 h' ⟨hv0,rfl⟩
    by_cases c4:65535<i-vs.length
    ·rw[if_pos c4] at hv0;cases hv0
    ·rw[if_neg c4] at hv0⊢;simp only[AOut.ret.injEq] at hv0;subst hv0;generalize i-vs.length=z;simp only[vr,Tm.av,aH,List.map];refine zox ?_;refine y1s ?_;simp[RPost]
   ·rintro v0 h' ⟨hv0,rfl⟩
    by_cases c4:65535<i-vs.length
    ·rw[if_pos c4] at hv0⊢;simp only[AOut.panic.injEq] at hv0;subst hv0;exact Fin.pan rfl hh rfl (by simp[RPost])
    ·rw[if_neg c4] at hv0;cases hv0
open Go Go.AI
theorem rD (h:Heap)(hh:WF h)(p q:Nat) {a b c d e0:AV} {c0:AV} (hp:h[p]?=some (some (.cells [a,b,c,d,e0])))(hq:h[q]?=some (some (.cells [c0])))(hpq:p≠q)(e:Int):
  ADef Tryz.prog 153 [.ptr p 0, .ptr q 0] (some (.p (aGu e))) h ((h.set p (some (.cells zTm))).set q (some (.cells [iA e]))):=by
 obtain⟨p1,p2,p3,p4,p5,p6⟩:=idf hp;have hq2:(h.set p (some (.cells zTm)))[q]?=some (some (.cells [c0])):=by rw[aZk hpq];exact hq
 refine ADef.of_run Tryz.func153 rfl rfl rfl fun K J=>?_
 simp only[Tryz.ntmps153,aZ1,aZ2];exact y3w
theorem vG (h:Heap)(hh:WF h)(p q:Nat):ADef Tryz.prog 153 [.ptr p 0, .ptr q 0] none h h:=by
 refine ADef.of_run Tryz.func153 rfl rfl rfl fun K J=>?_
 simp only[Tryz.ntmps153,aZ1,aZ2];exact y3x
def DomU (t:Tm)(d:Int):Prop:=Dom 65536 t d/\d+t.size<=2097152
theorem DomU.one:∀k i n ls ks d,DomU (.mk k i n ls ks) d->ks.length<=1048576/\0<=d/\d<=1099511627776:=fun k i n ls ks d h=>Dom.one k i n ls ks d h.1
theorem DomU.two:∀k i n ls ks d,DomU (.mk k i n ls ks) d->∀(j:Nat)(hj:j<ks.length),DomU ks[j] (d+aO k j):=fun k i n ls ks d h j hj=>by
 refine⟨Dom.two k i n ls ks d h.1 j hj,?_⟩;have h1:=h.2;have h2:=eL hj;have h3:=cE k j;simp only[Tm.size] at h1;omega
def gC (t:Tm)(vs:List Tm)(dp:Int):Tm×Int:=
 if dp<0 then(zT,2) else
 match bld (iY dp (vs.map fun v=>(v.size:Int))) 0 t 0 with
 | .bad e _=>(zT,e)
 | .ok _ _=>match bld (eY (fB dp vs)) 0 t 0 with
  | .bad e _=>(zT,e)
  | .ok t' _=>if 200<(t'.depth:Int) then(zT,7) else(t',0)
def gG (zs:List Int)(m:Nat):List AV:=(zs.map fun z=>iA z)++List.replicate m (iA 0)
theorem aK4 (zs:List Int)(m:Nat):(gG zs m).length=zs.length+m:=by simp[gG]
theorem aK5 (zs:List Int)(m:Nat)(z:Int):(gG zs (m+1)).set zs.length (iA z)=gG (zs++[z]) m:=by
 unfold gG;rw[bAe _ _ aA];simp[bA2]
theorem lL (n:Nat)(zs:List Int)(m:Nat):AV.underL n (gG zs m)=true:=by
 have:gG zs m=(zs.map (fun z=>iP z)++List.replicate m (iP 0)).map AV.p:=by simp[gG]
 rw[this];exact underL_p _ _
theorem aO4 (h:Heap)(hh:WF h)(t:Tm)(vs:List Tm)(dp:Int)(hd:DomU t 0)(hdp1:dp<=9223372036854775807)(hvl:vs.length<=1048576)(hvd:∀v∈vs,Dom 65536 v 0)(hvs:∀v∈vs,v.size<=1099511627776)
  (hout:0<=dp->∀t' s' u s2,bld (iY dp (vs.map fun v=>(v.size:Int))) 0 t 0= .ok u s2->bld (eY (fB dp vs)) 0 t 0= .ok t' s'->t'.size<=1099511627776):
  AC 98 [t.av, .p (.sl 5 (aL vs)),iA dp] h (.tup [(gC t vs dp).1.av,iA (gC t vs dp).2]):=by
 obtain⟨tc,htc⟩:∃tc:List AV,tc=t.cells.map .p:=⟨_,rfl⟩
 by_cases hdp0:dp<0
 ·have hr:gC t vs dp=(zT,2):=by simp[gC,hdp0]
  rw[hr];obtain⟨k,i,nm,ls,ks⟩:=t;refine ACalls.of_runD Tryz.func98 rfl ?_;simp only[Tryz.ntmps98,aZ1,aZ2,Tm.av,aH,List.map];refine aI2 hdp0 ?_;simp only[aKd];exact y3o
 have hout:=hout aB
 have hr:gC t vs dp=match bld (iY dp (vs.map fun v=>(v.size:Int))) 0 t 0 with
  | .bad e _=>(zT,e)
  | .ok _ _=>match bld (eY (fB dp vs)) 0 t 0 with
   | .bad e _=>(zT,e)
   | .ok t' _=>if 200<(t'.depth:Int) then(zT,7) else(t',0):=by simp only[gC,hdp0,if_false]
 --the blocks
 obtain⟨zs,hzs⟩:∃zs:List Int,zs=vs.map fun v=>(v.size:Int):=⟨_,rfl⟩
 rw[<-hzs] at hr hout;have hzl:zs.length=vs.length:=by rw[hzs];simp
 obtain⟨B,hB⟩:∃B:Int->Heap,B=fun s=>h++[some (.cells tc),some (.cells [.p (.sl 5 (aL vs))]),some (.cells [iA dp]),some (.cells zTm),some (.cells [iA 0]),some (.cells [.fn (.func 154) [] [.ptr (h.length+2) 0, .ptr (h.length+1) 0]]),
  some (.cells (zs.map fun z=>iA z)),some (.cells [.sm (h.length+6) 0 vs.length vs.length 1]),some (.cells [iA s]),some (.cells [.ptr (h.length+8) 0])]:=⟨_,rfl⟩
 have hlen:∀s,(B s).length=h.length+10:=fun s=>by rw[hB];simp
 have hzu:∀n,AV.underL n (zs.map fun z=>iA z)=true:=fun n=>by have:=lL n zs 0;simpa [gG] using this
 have htu:∀n,AV.underL n tc=true:=fun n=>by rw[htc];exact underL_p _ _
 have hwf:∀s,WF (B s):=fun s=>by rw[hB];exact hh.app (by simp[hzu,htu])
 have hcnt:=nX (iY dp zs) 156 rfl [.ptr (h.length+5) 0, .ptr (h.length+9) 0, .ptr (h.length+7) 0] DomU DomU.one DomU.two t.size t 0 0 B (h.length+10) (aYw _) hd hlen hwf aA
  (fun s t d l _ hw=>aTa dp vs zs hzl B (h.length+10) (h.length+5) (h.length+9) (h.length+7) (h.length+6) (h.length+8) (h.length+2) (h.length+1) hlen hwf
   (fun s=>by rw[hB];simp) (fun s=>by rw[hB];simp) (fun s=>by rw[hB];simp) (fun s=>by rw[hB];simp) (fun s=>by rw[hB];simp) (fun s=>by rw[hB];simp) (fun s=>by rw[hB];simp) (fun s s'=>by rw[hB];simp) s t d l hw)
 generalize hc0:bld (iY dp zs) 0 t 0=cr at hcnt hr hout
 --the second building
 have hbld:∀s,ACalls Tryz.prog 103 [.agg [.fn (.func 192) [] [.ptr (h.length+10) 0]],t.av,iA 0] (B s++[some (.cells [.fn (.func 158) [] [.ptr (h.length+5) 0, .ptr (h.length+1) 0, .ptr (h.length+2) 0]])])
   (kM (fun _=>B s++[some (.cells [.fn (.func 158) [] [.ptr (h.length+5) 0, .ptr (h.length+1) 0, .ptr (h.length+2) 0]])]) (bld (eY (fB dp vs)) 0 t 0)):=by
  intro s;obtain⟨H,hH⟩:∃H,H=B s++[some (.cells [.fn (.func 158) [] [.ptr (h.length+5) 0, .ptr (h.length+1) 0, .ptr (h.length+2) 0]])]:=⟨_,rfl⟩;rw[<-hH];have hHl:H.length=h.length+11:=by rw[hH,aZ4,hlen];rfl
  have hHw:WF H:=by rw[hH];exact(hwf s).app (by rw[hlen];simp)
  have g8:H[h.length+5]?=some (some (.cells [.fn (.func 154) [] [.ptr (h.length+2) 0, .ptr (h.length+1) 0]])):=by rw[hH,hB];simp
  have g4:H[h.length+1]?=some (some (.cells [.p (.sl 5 (aL vs))])):=by rw[hH,hB];simp
  have g5:H[h.length+2]?=some (some (.cells [iA dp])):=by rw[hH,hB];simp
  have g10:H[h.length+10]?=some (some (.cells [.fn (.func 158) [] [.ptr (h.length+5) 0, .ptr (h.length+1) 0, .ptr (h.length+2) 0]])):=by rw[hH,hB];simp
  exact nX (eY (fB dp vs)) 192 rfl [.ptr (h.length+10) 0] DomU DomU.one DomU.two t.size t 0 0 (fun _=>H) (h.length+11) (aYw _) hd (fun _=>hHl) (fun _=>hHw) aA
   (fun s t d l hd hw=>aO9 (fB dp vs) 158 rfl [.ptr (h.length+5) 0, .ptr (h.length+1) 0, .ptr (h.length+2) 0] (fun _=>H) (h.length+11) (h.length+10) (fun _=>hHl) (fun _=>hHw) aA (fun _=>g10) s t d l hd.1.lv
    (fun l hk hw=>(aJx (H++l) hw dp vs aB hdp1 hvl hvd (h.length+5) (h.length+1) (h.length+2) ((idf g8).1 l) ((idf g4).1 l) ((idf g5).1 l) t d s hd.1 (by have:=hd.2;omega) hk).mono fun _ _ hp=>RPost.of_const (B:=fun _=>H) (s:=s) (fun _=>rfl) hp) hw)
 generalize hb0:bld (eY (fB dp vs)) 0 t 0=br at hbld hr hout;have hvar:=fun s=>pE (B s) (hwf s) 158 [.ptr (h.length+5) 0, .ptr (h.length+1) 0, .ptr (h.length+2) 0] (by rw[hlen];simp)
 simp only[hlen] at hvar;have hkeep:∀(o:AOut),True:=fun _=>trivial
 generalize gC t vs dp=r at hr⊢;obtain⟨k,i,nm,ls,ks⟩:=t;simp only[aH,List.map] at htc;subst htc;refine ACalls.of_runD Tryz.func98 rfl ?_;simp only[Tryz.ntmps98,aZ1,aZ2,Tm.av,aH,List.map] at hcnt hbld⊢;refine rS ?_;refine zf1 hdp0 ?_;refine zr ?_;refine Run.defer (i:=153) (first:=[]) (cap:=[.ptr (h.length+3) 0, .ptr (h.length+4) 0]) rfl rfl rfl aA ?_;refine zor ?_;have hm1:vs.length*8<=140737488355328:=aB;have hm2:vs.length<=1099511627776:=aB;refine sH hm1 hm2 ?_;rw[show List.replicate vs.length (iA 0)=gG [] vs.length from by simp[gG]];refine znr ?_
 refine Run.loopS [3,4,5,6,7,8,9,21,22] (fun j:Nat=>j<=vs.length) (fun j=>vs.length-j) (fun j=>[(23,iA j)])
  (fun j=>h++[some (.cells [iA k,iA i, .p (sP nm), .p (.sl 2 (aW ls)), .p (.sl 5 (aL ks))]),some (.cells [.p (.sl 5 (aL vs))]),some (.cells [iA dp]),some (.cells zTm),some (.cells [iA 0]),some (.cells [.fn (.func 154) [] [.ptr (h.length+2) 0, .ptr (h.length+1) 0]]),
   some (.cells (gG (zs.take j) (vs.length-j))),some (.cells [.sm (h.length+6) 0 vs.length vs.length 1])]) 0 aA ?_ aA ?_
 ·exact zS
 intro j hj IH;refine cI ?_
 by_cases hjl:j<vs.length
 ·have hg:vs[j]?=some vs[j]:=aYu hjl;have hvj:=hvs _ (aYx hjl)
  have htk:zs.take (j+1)=zs.take j++[(vs[j].size:Int)]:=by
   rw[hzs,bAg,bB3,hg];rfl
  generalize vs[j]=u at hg hvj htk;have hlz:(zs.take j).length=j:=by rw[aZm,hzl];omega
  have hj1:j+1<=(gG (zs.take j) (vs.length-j)).length:=by rw[aK4,hlz];omega
  have hput:(gG (zs.take j) (vs.length-j)).set j (iA u.size)=gG (zs.take (j+1)) (vs.length-(j+1)):=by
   have:=aK5 (zs.take j) (vs.length-(j+1)) u.size;rw[hlz,show vs.length-(j+1)+1=vs.length-j by omega] at this;rw[this,htk]
  have hts:=fun(g:Heap) (hg:WF g)=>aO1 g hg u hvj
  refine jO hjl hg ?_;refine Run.draw [0,0,0,0,1,1] [0,0,0,0,0,1] [0,0,0,4,15,31] [2,3,0,1,4,5] aC aC ?_;refine zd ?_;refine DR.call (args:=[u.av]) rfl rfl rfl aA rfl (hts _ (hh.app (by simp[lL]))) ?_;refine zd3 hjl hj1 hput ?_;refine y9 ?_;refine znr ?_;refine Run.keep [3,4,5,6,7,8,9,21,22,23] ?_;simp;refine Run.cutAt 8 hh rfl aB aA aA (by simp[lL]) (by simp[iL]) ?_;refine IH (j+1) _ _ aB aB ?_ aA;exact zS
 have hje:j=vs.length:=aB;subst hje
 have hze:gG (zs.take vs.length) (vs.length-vs.length)=zs.map fun z=>iA z:=by
  rw[<-hzl,aZl,Nat.sub_self];simp[gG]
 refine dP ?_;rw[hze];refine rS ?_;simp only[hB] at hcnt hbld hvar;have hcall:=hcnt
 cases cr with
 |bad e s1=>
  simp only at hr;subst hr;refine Run.call (args:=[.agg [.fn (.func 156) [] [.ptr (h.length+5) 0, .ptr (h.length+9) 0, .ptr (h.length+7) 0]],(Tm.mk k i nm ls ks).av,iA 0]) rfl rfl aA rfl hcall ?_ ?_
  ·intro v h' hR;simp[kM] at hR
  ·intro v h' hR;simp only[kM,AOut.panic.injEq] at hR;obtain⟨rfl,rfl⟩:=hR;simp only[aKd];refine⟨by simp,rfl,_,rD _ (hh.app (by simp[hzu])) (h.length+3) (h.length+4) (by simp;exact⟨rfl,rfl,rfl,rfl,rfl⟩) aE aB e,?_⟩;simp;exact y47
 |ok u s1=>
 refine Run.call (args:=[.agg [.fn (.func 156) [] [.ptr (h.length+5) 0, .ptr (h.length+9) 0, .ptr (h.length+7) 0]],(Tm.mk k i nm ls ks).av,iA 0]) rfl rfl aA rfl hcall ?_ ?_
 rotate_left
 ·intro v h' hR;simp[kM] at hR
 intro v h' hR;simp only[kM,AOut.ret.injEq] at hR;obtain⟨rfl,rfl⟩:=hR;obtain⟨uk,ui,un,uls,uks⟩:=u;have hvar:=hvar s1;have hbld:=hbld s1;simp only[aZi,aYy,aZ3] at hbld
 cases br with
 |bad e s2=>
  simp only at hr;subst hr;have hb2:=hbld.mono (R':=fun o h'=>o= .panic (.p (aGu e))/\h'=_) (fun _ _ hp=>hp);refine zo ?_;refine y2j ?_;refine y1j ?_;refine⟨_,_,_,[.agg [.fn (.func 192) [] [.ptr (h.length+10) 0]],(Tm.mk k i nm ls ks).av,iA 0],_,_,rfl,rfl,rfl,by simp,rfl,hb2,?_⟩;intro T' hT;have hT6:=hT 6 aA;have hT7:=hT 7 aA;simp at hT6 hT7;simp only[aKd];refine⟨by simp,rfl,_,rD _ (hh.app (by simp[hzu])) (h.length+3) (h.length+4) (by simp;exact⟨rfl,rfl,rfl,rfl,rfl⟩) aE aB e,?_⟩;simp;refine Fin.ret' (h0:=h) (xs:=[.agg zTm,iA e]) aA rfl hh rfl (by simp[hT6,hT7]) rfl (Weak.tup (WeakL.cons Weak.zT (WeakL.refl _))) aA ⟨rfl,rfl⟩
 |ok t2 s2=>
  simp only at hr;have hts:=hout t2 s2 _ s1 rfl rfl;have hb2:=hbld.mono (R':=fun o h'=>o= .ret t2.av/\h'=_) (fun _ _ hp=>hp);have hdep:=fun(g:Heap) (hg:WF g)=>aJu t2.size t2 g (aYw _) hts hg
  generalize t2.depth=dep at hr hdep;obtain⟨k2,i2,nm2,ls2,ks2⟩:=t2;refine zo ?_;refine y2m ?_;refine y1j ?_;refine DR.call (args:=[.agg [.fn (.func 192) [] [.ptr (h.length+10) 0]],(Tm.mk k i nm ls ks).av,iA 0]) rfl rfl rfl aA rfl hb2 ?_;refine zd ?_;refine y9 ?_;refine znr ?_;refine rl (args:=[(Tm.mk k2 i2 nm2 ls2 ks2).av]) rfl rfl aA rfl (hdep _ (hh.app (by simp[hzu]))) ?_;refine zo ?_
  by_cases hdd:200<(dep:Int)
  ·rw[if_pos hdd] at hr;subst hr;refine fT hdd ?_;simp only[aKd];refine⟨by simp,rfl,_,vG _ (hh.app (by simp[hzu])) (h.length+3) (h.length+4),?_⟩;exact y6s
  ·rw[if_neg hdd] at hr;subst hr;refine xI hdd ?_;simp only[aKd];refine⟨by simp,rfl,_,vG _ (hh.app (by simp[hzu])) (h.length+3) (h.length+4),?_⟩;exact y3f
open Go Go.AI
mutual
theorem aS6:∀(t:Tm)(m:Int),t.ok m->t.lvs
 | .mk k i n ls ks,m,h=>by
  simp only[Tm.ok,Tm.okN] at h;simp only[Tm.lvs];exact⟨by omega,h.1.2.2.1,aMt ks m k 0 h.2⟩
theorem aMt:∀(l:List Tm)(m k:Int)(idx:Nat),Tm.oks m k idx l->Tm.lvss l
 |[],_,_,_,_=>trivial
 |t::ts,m,k,idx,h=>by
  simp only[Tm.oks] at h;exact⟨aS6 t _ h.1,aMt ts m k (idx+1) h.2⟩
end
open Go Go.AI
theorem aNx (h:Heap)(hh:WF h)(t:Tm)(vs:List Tm)(r:Tm×Int)(hc:∀g:Heap,WF g->AC 98 [t.av, .p (.sl 5 (aL vs)),iA 0] g (.tup [r.1.av,iA r.2])):
  AC 52 [t.av, .p (.sl 5 (aL vs))] h (.tup [r.1.av,iA r.2]):=by
 obtain⟨t2,e⟩:=r;obtain⟨k,i,nm,ls,ks⟩:=t;obtain⟨k2,i2,nm2,ls2,ks2⟩:=t2;refine ACalls.of_run Tryz.func52 rfl ?_;simp only[Tryz.ntmps52,aZ1,aZ2,Tm.av,aH,List.map];refine rS ?_;refine rl (args:=[(Tm.mk k i nm ls ks).av, .p (.sl 5 (aL vs)),iA 0]) rfl rfl aA rfl (hc _ (hh.app aA)) ?_;refine zox ?_;exact y3f
end Go.Proofs.YtcfcolkbeelegaaGreat
