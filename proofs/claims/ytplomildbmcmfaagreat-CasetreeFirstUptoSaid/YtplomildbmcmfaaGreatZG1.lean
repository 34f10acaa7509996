import Derived.Test.YtplomildbmcmfaaGreatZA0
import Derived.Test.YtplomildbmcmfaaGreatZM1
import Derived.Test.YtplomildbmcmfaaGreatZM3b
import Derived.Test.YtplomildbmcmfaaGreatZE7
import Derived.Test.YtplomildbmcmfaaGreatZE13
set_option maxRecDepth 8000
set_option maxHeartbeats 16000000
namespace Go.AI
open Go
theorem Run.joinC {P:Program} {rd:Option Nat} {nb:Nat} {k:List It} {T:List AV} {h:Heap} {D:List AD} {Q:AX->List AV->Heap->List AD->Prop} {c:Code} (C:Prop)(keep:List Nat)(sets:List (Nat×AV))(r:(∀T',WeakL T' (setMany (keepT keep T) sets)->C->Run P rd nb k T' h D Q)->Run P rd nb (.code c::k) T h D Q)
  (next:C->Run P rd nb k (setMany (keepT keep T) sets) h D Q):Run P rd nb (.code c::k) T h D Q:=r fun _ hw hc=>Run.weak hw (next hc)
end Go.AI
namespace Go.Proofs.YtplomildbmcmfaaGreat
open Go Go.AI
theorem aQb {k i:Int} {n:List UInt8} {ls:List Lv} {ks:List Tm} (h:fM (.mk k i n ls ks)=true)(hk:k≠3):ls.length<=1:=by
 unfold fM nD at h;simp only[bM8] at h;have h4:=h.2;split at h4
 ·simp at h4;omega
 ·simp[hk] at h4;simp[h4]
theorem aO3 (h:Heap)(hh:WF h)(k i:Int)(n:List UInt8)(ls:List Lv)(ks:List Tm)(v p m l d:Int)(h0:0<=p)(hfit:(Tm.mk k i n ls ks).fit)(hn:n.length<=1099511627776)(hd0:0<=d)(hd1:d<=1099511627776):
  ACalls Tryz.prog 233 [.agg [iA v,iA p,iA m,iA l],(Tm.mk k i n ls ks).av,iA d] h fun o h'=>o= .ret (iA (oV v p m l d (.mk k i n ls ks)))/\h'=h:=by
 have hform:=aQ6 (h++[some (.cells [iA v,iA p,iA m,iA l]),some (.cells ((Tm.mk k i n ls ks).cells.map .p))]) (hh.app aA) (.mk k i n ls ks);have hname:=aO2 (h++[some (.cells [iA v,iA p,iA m,iA l]),some (.cells ((Tm.mk k i n ls ks).cells.map .p))]) (hh.app aA) n hn;obtain⟨r,hr⟩:∃r,r=oV v p m l d (.mk k i n ls ks):=⟨_,rfl⟩;rw[<-hr];simp only[oV] at hr;have hfw:k≠3->fM (.mk k i n ls ks)=true->ls.length<=1:=fun h1 h2=>aQb h2 h1
 generalize fM (.mk k i n ls ks)=fb at hform hr hfw;simp only[Tm.fit] at hfit;obtain⟨hf1,hf2,hf3,hf4,-⟩:=hfit;simp only[Tm.av,cells_mk,List.map] at hform hname⊢;refine dE Tryz.func233 Tryz.ntmps233 ?_;refine zL (hform) ?_
 cases fb with
 |false=>
  refine zot ?_;exact y1y
 |true=>
 rw[if_neg aA] at hr;unfold lY at hr;rw[<-aQx] at hr;have hfw:=fun hk=>hfw hk rfl
 refine zofr ?_;refine Run.joinC (¬(k=3/\nameP n=false)/\¬8<ls.length) [2,3,4] [] (fun hJ=>?_) fun hC=>?_
 ·by_cases hk3:k=3
  ·subst hk3;refine bE7 ?_;refine zL (hname) ?_
   cases hnm:nameP n with
   |false=>
    refine zot ?_;refine zA ?_;rw[if_pos ⟨rfl,hnm⟩] at hr;exact y1z
   |true=>
    refine zofr ?_
    by_cases h8:8<ls.length
    ·have h8':8<(ls.length:Int):=aB;refine znt1 h8' ?_;refine zA ?_;rw[if_neg (by simp[hnm]),if_pos h8] at hr;exact y1z
    ·have h8':¬8<(ls.length:Int):=aB;refine nv ?_;refine cf (by simp[h8']) ?_
     repeat (first|refine Run.skip ?_|refine Run.opsNil ?_|refine Run.inBlock ?_)
     refine hJ _ ?_ ⟨by simp[hnm],h8⟩;exact zS
  ·have hk4:(k==3)=false:=by simpa using hk3
   refine nv ?_;refine cf (by simp[hk4]) ?_
   repeat (first|refine Run.skip ?_|refine Run.opsNil ?_|refine Run.inBlock ?_)
   refine hJ _ ?_ ⟨by simp[hk3],by have:=hfw hk3;omega⟩;exact zS
 refine y17 ?_;simp;rw[if_neg hC.1,if_neg hC.2] at hr;refine znr ?_;refine Run.loopS [2,3,4,25,26] (fun j:Nat=>j<=ls.length/\aL ((ls.map (bO p l)).take j)=0) (fun j=>ls.length-j) (fun j=>[(27,iA j)]) (fun _=>_) 0 (by simp[aL]) ?_ rfl ?_
 ·exact zS
 rintro j ⟨hj,hall⟩ IH;refine cK ?_
 by_cases hjl:j<ls.length
 ·have hg:ls[j]?=some ls[j]:=bLv hjl;have hl:=hf2 _ (bLy hjl);generalize ls[j]=u at hg hl;obtain⟨uc,uvs⟩:=u;obtain⟨u,hu⟩:∃u:Lv,u=⟨uc,uvs⟩:=⟨_,rfl⟩;have hcall:=fun g hg=>aI8 g hg ⟨uc,uvs⟩ v p m l h0 hl.1 hl.2
  rw[<-hu] at hcall;obtain⟨e,he⟩:∃e,bO p l u=e:=⟨_,rfl⟩;rw[he] at hcall
  have htk:(ls.map (bO p l)).take (j+1)=(ls.map (bO p l)).take j++[e]:=by
   rw[bNh,bO4,hg,<-he,hu];rfl
  refine znt1 hjl ?_;refine zrv0 hg ?_;rw[hu] at hcall;simp only[Lv.av,Lv.cells,List.map] at hcall;refine znr ?_;refine zL (hcall _ (hh.app aA)) ?_;refine zor ?_
  by_cases h4:e=0
  ·refine znf1r h4 ?_;refine Run.keep [2,3,4,25,26,27] ?_;simp;refine yh ?_;refine IH (j+1) _ _ ⟨by omega,by rw[htk,aZ,hall,if_pos rfl,h4]⟩ aB ?_ ?_
   ·exact zS
   ·simp
  ·refine znt1 h4 ?_;refine zA ?_
   have hst:aL (ls.map (bO p l))=e:=by
    have e1:aL ((ls.map (bO p l)).take (j+1))=e:=by rw[htk,aZ,hall,if_pos rfl]
    rw[dC (j:=j+1) (by rw[e1];exact h4),e1]
   rw[if_pos (by rw[hst];exact h4),hst] at hr;refine zF2 hh ?_;exact⟨by rw[hr];simp,rfl⟩
 have hje:j=ls.length:=aB;subst hje;rw[bM7 aA] at hall;rw[if_neg (by simp[hall])] at hr;refine znfen ?_;refine Run.regJ [2,3,4] 38 (k==0&& (decide (i<0)||decide (v<=i-d))) (fun K J=>?_) ?_
 ·by_cases hi:i<0
  ·simp[hi];exact y2g
  ·have hw:IntKind.i64.wrap (i-d)=i-d:=wrap_id aB aB;simp[hi,hw];exact y2g
 refine y6 ?_;simp;refine Run.condB rfl (fun h4=>?_) (fun h4=>?_)
 ·refine zA ?_;rw[if_pos (by simpa using h4)] at hr;exact y1z
 rw[if_neg (by simpa using h4)] at hr;refine nv ?_;refine Run.regJ [2,3,4] 56 (k==12&& (decide (i<0)||decide (m<=i))) (fun K J=>?_) ?_
 ·simp;exact y1x
 refine y6 ?_;simp;refine Run.condB rfl (fun h5=>?_) (fun h5=>?_)
 ·refine zA ?_;rw[if_pos (by simpa using h5)] at hr;exact y1z
 rw[if_neg (by simpa using h5)] at hr;exact y1y
open Go Go.AI
mutual
def Tm.nm:Tm->Prop
 | .mk _ _ n _ ks=>n.length<=1099511627776/\Tm.nms ks
def Tm.nms:List Tm->Prop
 |[]=>True
 |t::ts=>t.nm/\Tm.nms ts
end
theorem Tm.nms_at {l:List Tm} (h:Tm.nms l):∀t∈l,t.nm:=by
 induction l with
 |nil=>intro t ht;cases ht
 |cons x l ih=>
  simp only[Tm.nms] at h;intro t ht
  cases bMh.1 ht with
  |inl e=>subst e;exact h.1
  |inr e=>exact ih h.2 t e
def bEe (t:Tm)(d:Int):Prop:=t.fit/\t.nm/\0<=d/\d+t.size<=1099511627776
theorem aRh:∀k i n ls ks d,bEe (.mk k i n ls ks) d->∀(j:Nat)(hj:j<ks.length),bEe ks[j] (d+aI k j):=by
 intro k i n ls ks d h j hj;obtain⟨h1,h2,h3,h4⟩:=h;simp only[Tm.fit] at h1;simp only[Tm.nm] at h2;simp only[Tm.size] at h4;have hs:=dO hj;have hb:=bL k j;exact⟨Tm.fits_at h1.2.2.2.2 _ (bLy hj),Tm.nms_at h2.2 _ (bLy hj),by omega,by omega⟩
theorem aFx (v p m l:Int)(t:Tm)(hsz:t.size<=1099511627776)(c e:Int)(h:(vis (lE (dY v) (dY p) (dY m) (dY l)) (0,0) 0 t).1=(c,e)):
  dK v p m l t=if e=0 then(if 4096<c then 5 else if 200<(t.depth:Int) then 7 else 0) else e:=by
 obtain⟨a1,a2⟩:=aD9 (dY v) (dY p) (dY m) (dY l) t 0 0 aB aB;rw[<-aJ7 v p m l t hsz];unfold aJ6
 by_cases hz:chk (dY v) (dY p) (dY m) (dY l) 0 t=0
 ·rw[a1 hz] at h⊢;simp only[bMf] at h;obtain⟨rfl,rfl⟩:=h;simp
 ·obtain⟨b1,b2⟩:=a2 hz;rw[h] at b2;simp only at b2;rw[b1,h,if_pos rfl,if_neg (by rw[b2];exact hz)]
theorem aI7 (h:Heap)(hh:WF h)(t:Tm)(v p m l:Int)(hfit:t.fit)(hnm:t.nm)(hsz:t.size<=1099511627776):ACalls Tryz.prog 161 [t.av,iA v,iA p,iA m,iA l] h fun o h'=>o= .ret (iA (dK v p m l t))/\h'=h:=by
 have hmax:∀x:Int,(if x<0 then 0 else x)=dY x:=fun _=>rfl
 have hp0:0<=dY p:=by unfold dY;split<;>omega
 have hck:=aFx v p m l t hsz;obtain⟨r,hr⟩:∃r,r=dK v p m l t:=⟨_,rfl⟩;rw[<-hr] at hck⊢;clear hr;have hpre:bEe t 0:=⟨hfit,hnm,by omega,by omega⟩;obtain⟨pv,hpv⟩:∃x,dY v=x:=⟨_,rfl⟩;obtain⟨pp,hpp⟩:∃x,dY p=x:=⟨_,rfl⟩;obtain⟨pm,hpm⟩:∃x,dY m=x:=⟨_,rfl⟩;obtain⟨pl,hpl⟩:∃x,dY l=x:=⟨_,rfl⟩;rw[hpv,hpp,hpm,hpl] at hck;rw[hpp] at hp0;have hno:=tQ (h++[some (.cells (t.cells.map .p)),some (.cells [iA 0]),some (.cells [iA pv,iA pp,iA pm,iA pl]),some (.cells [iA 0])]) (hh.app aA) t;have hdep:=fun(g:Heap) (hg:WF g)=>uJ t.size t g (bLx _) hsz hg
 obtain⟨k,i,nm,ls,ks⟩:=t;refine ACalls.of_runM Tryz.func161 rfl ?_;simp only[Tryz.ntmps161,bM2,bM3,Tm.av,cells_mk,List.map] at hno hdep⊢;refine znr ?_;refine zr5 hmax hpv hpp hpm hpl ?_;refine zr ?_;refine zr ?_;refine zL (hno) ?_;refine zo ?_;refine Run.keep [5,10,11,12,26] ?_;simp;refine Run.rangeG (gf:=285) (cap:=[.ptr (h.length+4) 0]) aA rfl fun y Tl ag' bd' hT hag hbd=>?_
 have hTu:∀k,AV.underL (h.length+(5+k)) Tl=true:=fun k=>by rw[hT];simp;omega
 obtain⟨tc,htc⟩:∃tc:List AV,tc=[.p (iP k), .p (iP i), .p (sP nm), .p (.sl 2 (lvPs ls)), .p (.sl 5 (tmPs ks))]:=⟨_,rfl⟩;have htu:∀n,AV.underL n tc=true:=fun n=>by rw[htc];simp
 obtain⟨B,hB⟩:∃B:Int×Int->Heap,B=fun s=>h++[some (.cells tc),some (.cells [iA s.2]),some (.cells [iA pv,iA pp,iA pm,iA pl]),some (.cells [iA s.1]),some (.cells tc),some (.aux .dblk),some (.aux (.loop y (if s.2=0 then .ready else .done) (if s.2=0 then none else some .ret) Tl #[27,28] ag' bd'))]:=⟨_,rfl⟩
 obtain⟨Z,hZ⟩:∃Z:Int->Int->Heap,Z=fun c e=>h++[some (.cells tc),some (.cells [iA e]),some (.cells [iA pv,iA pp,iA pm,iA pl]),some (.cells [iA c]),some (.cells tc),some (.aux .dblk),some (.aux (.loop y .busy none Tl #[27,28] ag' bd'))]:=⟨_,rfl⟩
 have hlen:∀s,(B s).length=h.length+7:=fun s=>by rw[hB];simp
 have hlenZ:∀c e,(Z c e).length=h.length+7:=fun c e=>by rw[hZ];simp
 have hwf:∀s,WF (B s):=fun s=>by rw[hB];exact hh.app (by simp[AO.under,hTu 2,htu])
 have hwfZ:∀c e,WF (Z c e):=fun c e=>by rw[hZ];exact hh.app (by simp[AO.under,hTu 2,htu])
 have hat:∀c (l:List (Option AO)),Heap.at (B (c,0)++l) (h.length+6)=some (.aux (.loop y .ready none Tl #[27,28] ag' bd')):=fun c l=>by rw[hB];simp
 have hatZ:∀c e (l:List (Option AO)),Heap.at (Z c e++l) (h.length+6)=some (.aux (.loop y .busy none Tl #[27,28] ag' bd')):=fun c e l=>by rw[hZ];simp
 have hbusy:∀c (l:List (Option AO)),(B (c,0)++l).set (h.length+6) (some (.aux (.loop y .busy none Tl #[27,28] ag' bd')))=Z c 0++l:=fun c l=>by rw[hB,hZ];simp
 have hnorm:∀c (l:List (Option AO)),(Z c 0++l).set (h.length+6) (some (.aux (.loop y .ready none Tl #[27,28] ag' bd')))=B (c,0)++l:=fun c l=>by rw[hB,hZ];simp
 have hdone:∀c e (l:List (Option AO)),e≠0->(Z c e++l).set (h.length+6) (some (.aux (.loop y .done (some .ret) Tl #[27,28] ag' bd')))=B (c,e)++l:=fun c e l he=>by rw[hB,hZ];simp[he]
 have c2:∀c e (l:List (Option AO)),(Z c e++l)[h.length+2]?=some (some (.cells [iA pv,iA pp,iA pm,iA pl])):=fun c e l=>by rw[hZ];simp
 have c1:∀c e (l:List (Option AO)),(Z c e++l)[h.length+1]?=some (some (.cells [iA e])):=fun c e l=>by rw[hZ];simp
 have c3:∀c e (l:List (Option AO)),(Z c e++l)[h.length+3]?=some (some (.cells [iA c])):=fun c e l=>by rw[hZ];simp
 have s1:∀c e e' (l:List (Option AO)),(Z c e++l).set (h.length+1) (some (.cells [iA e']))=Z c e'++l:=fun c e e' l=>by rw[hZ];simp
 have s3:∀c c' e (l:List (Option AO)),(Z c e++l).set (h.length+3) (some (.cells [iA c']))=Z c' e++l:=fun c c' e l=>by rw[hZ];simp
 have glZ:∀c e (l l':List (Option AO)),(Z c e++(l++l'))[h.length+7+l.length]?=l'[0]?:=fun c e l l'=>by rw[cG (hlenZ c e),yI]
 have slZ:∀c e (l l':List (Option AO)) (o:Option AO),(Z c e++(l++l')).set (h.length+7+l.length) o=Z c e++(l++l'.set 0 o):=fun c e l l' o=>by rw[cH (hlenZ c e),zX]
 have htk:∀s (l l':List (Option AO)),(B s++(l++l')).take (h.length+7+l.length)=B s++l:=fun s l l'=>by rw[<-bMj,show h.length+7+l.length=(B s++l).length by rw[bM5,hlen],take_last]
 have hit:=aLx (lE pv pp pm pl) y (h.length+4) bEe aRh (fun s=>s.2=0) (fun s d u hs _ hg=>by
   simp only[lE] at hg⊢;split
   ·rfl
   ·rename_i hne;rw[if_neg hne] at hg;cases hg) (.mk k i nm ls ks) (0,0) B (h.length+7) rfl hpre hsz hlen hwf (fun s=>by rw[hB,htc];simp)
  (fun s d u l hs hp hw=>by
   obtain⟨c,e⟩:=s;simp only at hs;subst hs;refine AYield.of_run (hat c l) aA ?_;refine Run.codeEq hag ?_;refine Run.tEq (congrArg (fun T=>eH T _ _) hT) ?_;obtain⟨uk,ui,un,uls,uks⟩:=u;obtain⟨hp1,hp2,hp3,hp4⟩:=hp;simp only[Tm.nm] at hp2;refine cK ?_;refine zr1 hlen ?_;refine Run.nil ⟨rfl,rfl,hat _ _,?_⟩;rw[hbusy];refine Run.codeEq hbd ?_;have hst:lE pv pp pm pl (c,0) d (.mk uk ui un uls uks)=if oV pv pp pm pl d (.mk uk ui un uls uks)=0 then((IntKind.i64.wrap (c+1),0),true) else((c,oV pv pp pm pl d (.mk uk ui un uls uks)),false):=rfl
   have hu:=(hwf (c,0)).all
   have hwl:l.all (AO.under (h.length+7+l.length))=true:=by
    have:=hw.all;rw[bO9,bM8,bM5,hlen] at this;exact this.2
   have hw2:∀s,WF (B s++l):=fun s=>(hwf s).app (by rw[hlen];exact hwl)
   have hwZ:∀c e,WF (Z c e++l):=fun c e=>(hwfZ c e).app (by rw[hlenZ];exact hwl)
   have hcall:=aO3 (Z c 0++(l++[some (.cells ((Tm.mk uk ui un uls uks).cells.map .p))])) (by rw[<-bMj];exact(hwZ c 0).app aA) uk ui un uls uks pv pp pm pl d hp0 hp1 hp2.1 hp3 aB;rw[hst,hlen];generalize oV pv pp pm pl d (.mk uk ui un uls uks)=z at hcall;simp only[Tm.av,cells_mk,List.map] at hcall;refine zn ?_;refine zr2 glZ c2 ?_;refine zL (hcall) ?_;refine zor ?_
   by_cases hz:z=0
   ·subst hz;simp only[if_true];refine znf ?_;refine zr2 c3 s3 ?_;refine Run.nil ?_;refine⟨none,h.length+7+l.length,rfl,rfl,bLx _,by simp[hlenZ],hatZ _ 0 _,?_,?_⟩
    ·refine y1l ?_;have:=(hw2 (IntKind.i64.wrap (c+1),0)).all
     rwa [bM5,hlen] at this
    ·refine y1l ?_;exact⟨rfl,rfl⟩
   ·rw[if_neg hz];refine znt1 hz ?_;refine zr2 c1 s1 ?_;refine zx ?_;refine⟨some .ret,h.length+7+l.length,rfl,rfl,bLx _,by simp[hlenZ],hatZ c z _,?_,?_⟩
    ·rw[show stOf (some Code.ret)= .done from rfl,hdone _ _ _ hz,htk];have:=(hw2 (c,z)).all
     rwa [bM5,hlen] at this
    ·rw[show stOf (some Code.ret)= .done from rfl,hdone _ _ _ hz,htk];exact⟨rfl,rfl⟩)
 have hB0:B (0,0)=(h++[some (.cells tc),some (.cells [iA 0]),some (.cells [iA pv,iA pp,iA pm,iA pl]),some (.cells [iA 0]),some (.cells tc)])++[some (.aux .dblk),some (.aux (.loop y .ready none Tl #[27,28] ag' bd'))]:=by rw[hB];simp
 rw[htc] at hB0;refine⟨_,hB0▸hit,?_⟩;rintro o h' ⟨rfl,rfl⟩;have hck:=fun c e=>hck c e
 obtain⟨⟨c,e⟩,hce⟩:∃s,(vis (lE pv pp pm pl) (0,0) 0 (Tm.mk k i nm ls ks)).1=s:=⟨_,rfl⟩;have hck:=hck c e hce;rw[hce];refine⟨_,(if e=0 then .ready else .done),(if e=0 then none else some .ret),rfl,by rw[hB,htc];simp[bO0],by split<;>simp,?_⟩;rw[hB,htc];simp[bO0]
 by_cases he:e=0
 ·subst he;simp only[if_true] at hck⊢;refine znr ?_
  by_cases h1:4096<c
  ·rw[if_pos h1] at hck;refine dV h1 ?_;exact y3a
  ·rw[if_neg h1] at hck;refine znf1r h1 ?_;refine zL (hdep _ (hh.app (by simp[AO.under,hTu 2]))) ?_;refine zo ?_
   by_cases h2:200<((Tm.mk k i nm ls ks).depth:Int)
   ·rw[if_pos h2] at hck;refine dV h2 ?_;exact y3a
   ·rw[if_neg h2] at hck;refine aFi h2 ?_;exact y3a
 ·rw[if_neg he] at hck;simp[he];refine Run.ret ?_;exact y3a
open Go Go.AI
def Lb:List Tm:=[natT,aOz (vr 0) (vr 1)]
open Go Go.AI
theorem aCp (l:Lv):gB l l=true:=by
 simp only[gB,bne_self_eq_false,Bool.or_self,bO8,Bool.true_and];rw[dJ];intro j hj;simp[varsAt,hj,sameVar]
theorem zV (l:List Lv):sameLvs l l=true:=by
 simp only[sameLvs,bne_self_eq_false,bO8,Bool.true_and];rw[dJ];intro j hj;simp[sR,hj,aCp]
theorem wC (t:Tm):eM t t=true:=by simp[eM,zV]
mutual
theorem kG:∀t:Tm,sameT t t=true
 | .mk k i n ls ks=>by simp only[sameT,wC,Bool.true_and];exact rD ks
theorem rD:∀l:List Tm,iW l l=true
 |[]=>by simp only[iW]
 |t::ts=>by simp only[iW,kG t,rD ts,Bool.and_self]
end
theorem aBz {e:Int} {l:List Int} (h:aL (e::l)=0):e=0/\aL l=0:=by
 simp only[aL] at h;split at h
 ·exact⟨by assumption,h⟩
 ·exact absurd h (by assumption)
mutual
theorem aTc (v p m l:Int):∀(t:Tm)(d:Int),t.lvs->chk v p m l d t=0->t.ok (v+d)
 | .mk k i n ls ks,d,hl,h=>by
  simp only[chk] at h;simp only[Tm.lvs] at hl
  by_cases h1:fM (.mk k i n ls ks)=false
  ·rw[if_pos h1] at h;exact absurd h aD
  rw[if_neg h1] at h
  by_cases h2:lY d v p m l k i n ls=0
  ·rw[if_neg (by simp[h2])] at h;have hk:=aJ8 v p m l ks k d 0 hl.2.2 h;simp only[Tm.ok,Tm.okN]
   have h8:¬8<ls.length:=by
    intro h8;unfold lY at h2;split at h2
    ·exact absurd h2 aD
    ·exact absurd h2 aD
   have h0:k=0->¬(i<0\/v<=i-d):=by
    intro hk0 hc;unfold lY at h2;rw[if_neg aB,if_neg h8] at h2;split at h2
    ·contradiction
    ·rw[if_pos ⟨hk0,hc⟩] at h2;exact absurd h2 aD
   simp only[fM,nD] at h1;have hkz:qN k<=3:=by unfold qN;split;omega;split;omega;split<;>omega
   simp only[Bool.not_eq_false,bM8,bN0,bNn,bne_eq_false_iff_eq,bNp] at h1;obtain⟨⟨⟨⟨_,hks⟩,_⟩,hn⟩,hls⟩:=h1;refine⟨⟨fun hk0=>?_,by omega,hl.2.1,by omega⟩,hk⟩;subst hk0;have h0:=h0 rfl;simp[qN] at hks;simp at hn hls;exact⟨by omega,by omega,hn,hls,hks⟩
  ·rw[if_pos h2] at h;exact absurd h h2
theorem aJ8 (v p m l:Int):∀(ks:List Tm)(k d:Int)(idx:Nat),Tm.lvss ks->aL (lQ v p m l k d idx ks)=0->Tm.oks (v+d) k idx ks
 |[],_,_,_,_,_=>trivial
 |t::ts,k,d,idx,hl,h=>by
  simp only[Tm.lvss] at hl;simp only[lQ] at h;have h:=aBz h;simp only[Tm.oks];have:=aTc v p m l t (d+aI k idx) hl.1 h.1;rw[show v+d+aI k idx=v+(d+aI k idx) by omega];exact⟨this,aJ8 v p m l ts k d (idx+1) hl.2 h.2⟩
end
mutual
theorem pP (by_ fr f0:Int)(hf:f0=if 65536<fr then 65536 else fr):∀(t:Tm)(s d:Int),t.ok (65536+d)->
  bld (cX (dA by_ fr)) s t d=if bE by_ f0 d t=true then .bad 24 s else .ok (dQ by_ f0 d t) s
 | .mk k i n ls ks,s,d,h=>by
  simp only[Tm.ok,Tm.okN] at h;simp only[bld,bE,dQ]
  by_cases hk:k=0
  ·obtain⟨h1,h2,rfl,rfl,rfl⟩:=h.1.1 hk;subst hk;simp only[cX,dA,Tm.kind,Tm.index,if_true]
   by_cases c1:i-d<fr
   ·have c1':i<f0+d:=by rw[hf];split<;>omega
    simp[c1,c1',Tm.bare]
   ·have c0:f0=fr:=by rw[hf,if_neg aB]
    subst c0;have c1':¬i<f0+d:=aB;simp only[c1,if_false]
    by_cases c2:by_<0/\i-d<f0-by_
    ·have c2':i+by_<f0+d:=aB;simp[c2,c1',c2']
    ·have c2':¬i+by_<f0+d:=aB;simp only[c2,if_false]
     by_cases c3:65535<i+by_
     ·simp[c1',c2',c3]
     ·simp[c1',c2',c3]
  ·simp only[cX,Tm.kind,hk,if_false,Tm.bare];have e:=tB by_ fr f0 hf ks s k d 0 h.2;simp only[e];split
   ·rename_i heq;split at heq
    ·rename_i hb;rw[if_pos hb];injection heq with h1 h2;subst h1;subst h2;rfl
    ·cases heq
   ·rename_i heq;split at heq
    ·cases heq
    ·rename_i hb;rw[if_neg hb];injection heq with h1 h2;subst h1;subst h2;rfl
theorem tB (by_ fr f0:Int)(hf:f0=if 65536<fr then 65536 else fr):∀(ks:List Tm)(s k d:Int)(idx:Nat),Tm.oks (65536+d) k idx ks->
  kY (cX (dA by_ fr)) s k d idx ks=if aV by_ f0 d k idx ks=true then .bad 24 s else .ok (dH by_ f0 d k idx ks) s
 |[],s,k,d,idx,h=>by simp[kY,aV,dH]
 |t::ts,s,k,d,idx,h=>by
  simp only[Tm.oks] at h;simp only[kY,aV,dH];rw[pP by_ fr f0 hf t s (d+aI k idx) (by rw[<-Int.add_assoc];exact h.1)]
  by_cases hb:bE by_ f0 (d+aI k idx) t=true
  ·simp only[hb,if_true,bOs]
  ·rw[if_neg hb];simp only;rw[tB by_ fr f0 hf ts s k d (idx+1) h.2];rw[Bool.not_eq_true] at hb
   by_cases hb2:aV by_ f0 d k (idx+1) ts=true
   ·simp only[hb,hb2,if_true,Bool.or_true]
   ·rw[Bool.not_eq_true] at hb2;simp only[hb,hb2,Bool.or_false,bMe,if_false]
end
theorem aNd (by_ fr:Int)(t:Tm)(h:t.ok 65536):bW by_ fr t=iJ by_ fr t:=by
 unfold bW iJ;split
 ·rfl
 ·rw[gV,pP by_ fr _ rfl t 0 0 (by simpa using h)]
  by_cases hb:bE by_ (if 65536<fr then 65536 else fr) 0 t=true
  ·rw[if_pos hb,if_pos hb];rfl
  ·rw[if_neg hb,if_neg hb];rfl
end Go.Proofs.YtplomildbmcmfaaGreat
