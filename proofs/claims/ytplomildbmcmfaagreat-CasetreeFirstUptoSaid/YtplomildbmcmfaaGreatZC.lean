import Derived.Test.YtplomildbmcmfaaGreatZA0
import Derived.Test.YtplomildbmcmfaaGreatZFG
import Derived.Test.YtplomildbmcmfaaGreatZFD
set_option maxRecDepth 8000
namespace Go.Proofs.YtplomildbmcmfaaGreat
open Go Go.AI
abbrev errP (e:Int):PV:= .ifc 381 (iP e)
theorem wH (h:Heap)(hh:WF h)(e:Int):ACalls Tryz.prog 294 [iA e] h fun o h'=>o= .panic (.p (errP e))/\h'=h:=by
 refine zE Tryz.func294 Tryz.ntmps294 ?_;refine zq ?_;refine Run.panic (t:=381) (y:=iP e) rfl rfl aA ?_;exact Fin.pan rfl hh (bM1 _).symm ⟨rfl,rfl⟩
theorem yV (h:Heap)(hh:WF h)(i:Int):ACalls Tryz.prog 295 [iA i] h fun o h'=>(if 65535<i then o= .panic (.p (errP 24)) else o= .ret (vr i).av)/\h'=h:=by
 refine zE Tryz.func295 Tryz.ntmps295 ?_;refine Run.seq (Run.reg fun K J=>?_);simp;refine J _ _ _ (Run.opsNil ?_);clear J;refine Run.seq (Run.seq (Run.reg fun K J=>?_));simp;refine J _ _ _ (Run.opsNil ?_);clear J
 by_cases he:65535<i
 ·refine ct (by simp[he]) ?_;refine zq ?_;refine Run.call (args:=[iA 24]) rfl rfl aA rfl (wH _ (hh.app aA) 24) ?_ ?_
  ·rintro v h' ⟨hv,_⟩;cases hv
  ·rintro v h' ⟨hv,rfl⟩;simp only[AOut.panic.injEq] at hv;subst hv;exact Fin.pan rfl hh rfl ⟨by simp[he],rfl⟩
 ·refine cf (by simp[he]) ?_;refine Run.skip (Run.seq (Run.reg fun K J=>?_));simp;refine J _ _ _ (Run.opsNil ?_);clear J;refine Run.ret ?_;refine Fin.ret' (h0:=h) aA rfl hh rfl aE rfl ?_ (y:=(vr i).av) ?_ ⟨by simp[he],rfl⟩
  ·simp only[vr];exact y2y
  ·simp
theorem xH (h:Heap)(hh:WF h)(k i:Int):ACalls Tryz.prog 338 [iA k,iA i] h fun o h'=>o= .ret (iA (aI k i))/\h'=h:=by
 refine zE Tryz.func338 Tryz.ntmps338 ?_;refine Run.seq (Run.reg fun K J=>?_);simp;refine J _ _ _ (Run.opsNil ?_);clear J;refine Run.seq (Run.block ?_)
 repeat refine Run.seq ?_
 refine Run.reg fun K J=>?_
 have hcase:((i==1)=true/\(k==5)=true)\/((i==1)=true/\(k==5)=false/\(k==6)=true)\/((i==1)=true/\(k==5)=false/\(k==6)=false/\(k==7)=true)\/
   ((i==1)=true/\(k==5)=false/\(k==6)=false/\(k==7)=false/\(i==2)=false)\/((i==1)=false/\(i==2)=true/\(k==11)=true)\/((i==1)=false/\(i==2)=true/\(k==11)=false)\/((i==1)=false/\(i==2)=false):=by
  simp;omega
 rcases hcase with ⟨e1,e2⟩|⟨e1,e2,e3⟩|⟨e1,e2,e3,e4⟩|⟨e1,e2,e3,e4,e5⟩|⟨e1,e2,e3⟩|⟨e1,e2,e3⟩|⟨e1,e2⟩
 all_goals
  simp[*,-J];refine J _ _ _ (Run.opsNil ?_);clear J;refine Run.cond rfl ?_
  first
  | (simp only[if_true]
     refine Run.skip (Run.cond rfl ?_);simp only[if_true];refine Run.seq (Run.reg fun K J=>?_);simp;refine J _ _ _ (Run.opsNil ?_);clear J;refine Run.ret ?_;simp only[beq_iff_eq,beq_eq_false_iff_ne,ne_eq] at*;refine zF3 hh ?_;exact⟨by simp[aI, *],rfl⟩)
  | (simp only[bMe,if_false]
     refine Run.reg fun K J=>?_
     simp[*,-J];refine J _ _ _ (Run.opsNil ?_);clear J;refine Run.cond rfl ?_;simp only[beq_iff_eq,beq_eq_false_iff_ne,ne_eq] at*
     first
     | (simp only[if_true]
        refine Run.seq (Run.reg fun K J=>?_);simp;refine J _ _ _ (Run.opsNil ?_);clear J;refine Run.ret ?_;refine zF3 hh ?_;exact⟨by simp[aI, *],rfl⟩)
     | (simp only[bMe,if_false]
        refine Run.skip (Run.inBlock (Run.seq (Run.reg fun K J=>?_)));simp;refine J _ _ _ (Run.opsNil ?_);clear J;refine Run.ret ?_;refine zF3 hh ?_;exact⟨by simp[aI, *],rfl⟩))
def Tm.bare:Tm->Tm
 | .mk k i n ls _=> .mk k i n ls []
theorem aMa (l:List Lv)(t:Lv):lvPs (l++[t])=lvPs l++[t.cells]:=by simp[lvPs]
def aCg (ls:List Lv):Prop:=ls.length<=1048576/\∀l∈ls,l.vars.length<=1048576
theorem qY (h:Heap)(hh:WF h)(t:Tm)(hb:aCg t.levels):ACalls Tryz.prog 293 [t.av] h fun o h'=>o= .ret t.bare.av/\h'=h:=by
 obtain⟨k,i,n,ls,ks⟩:=t;simp only[Tm.levels] at hb;refine ACalls.of_run Tryz.func293 rfl ?_;simp only[Tryz.ntmps293,bM2,bM3,Tm.av,cells_mk,List.map];refine sE ?_;refine Run.tokAt (h.length+2) 3 2 aE aA ?_;simp
 refine Run.loopS [1,2,3,14,15] (fun j:Nat=>j<=ls.length) (fun j=>ls.length-j) (fun j=>[(16,iA j)])
   (fun j=>h++[some (.cells [iA k,iA i, .p (sP n), .p (.sl 2 (lvPs ls)), .p (.sl 5 (tmPs ks))]),some (.cells [iA 0,iA 0, .p (sP []), .p (.prim (.slice none 0 0)), .p (.prim (.slice none 0 0))]),
    some (.cells [iA k,iA i, .p (sP n), .own (h.length+3) 2 (lvPs (ls.take j)), .p (.prim (.slice none 0 0))]),some (.tok j 2)])
   0 aA ?_ (by simp[lvPs]) ?_
 ·exact zS
 ·intro j hj IH;refine cK ?_
  by_cases hjl:j<ls.length
  ·have hg:ls[j]?=some ls[j]:=bLv hjl;have hvl:=hb.2 _ (bLy hjl);have hmin:min j ls.length=j:=bNc hj;have hb0:=hb.1;refine znt1 hjl ?_;refine zrv0 hg ?_;refine Run.draw [0,0,0,0,0,0,0,1,1,1,2,2] [0,0,0,0,0,0,0,0,0,1,0,2] [0,1,0,4,0,16,48,124,252,511,1023,2047] [4,5,6,0,1,2,3,7,8,9,10,11] aC aC ?_;have hb1:ls[j].vars.length*16<=140737488355328:=aB;have hb2:ls[j].vars.length<=9223372036854775807:=aB;have hb3:(j+1)*32<=140737488355328:=aB;have hb4:j+1<=9223372036854775807:=aB;refine zd5 hmin hb1 hb2 hb3 hb4 ?_;refine y8 ?_;refine znr ?_;have htk:ls.take (j+1)=ls.take j++[ls[j]]:=bM6 hjl;refine Run.keep [1,2,3,14,15,16] ?_;simp;refine Run.cutAt 4 hh rfl aB aA aA aA rfl ?_;refine IH (j+1) _ _ aB aB ?_ ?_
   ·exact zS
   ·rw[htk,aMa];simp[Lv.cells]
  ·have hje:j=ls.length:=aB;subst hje;refine znfenrx ?_;refine Fin.ret' (h0:=h) aA rfl hh rfl aE rfl (y:=(Tm.mk k i n ls []).av) ?_ aA ⟨rfl,rfl⟩;refine Weak.agg ?_;exact zK
open Go Go.AI
inductive VO where
 |done (t:Tm) (s:Int)
 |go (t:Tm) (s:Int)
 |bad (e s:Int)
inductive BO (α:Type) where
 |ok (x:α) (s:Int)
 |bad (e s:Int)
def Tm.withKids:Tm->List Tm->Tm
 | .mk k i n ls _,ks=> .mk k i n ls ks
mutual
def bld (vis:Int->Tm->Int->VO)(s:Int):Tm->Int->BO Tm
 | .mk k i n ls ks,d=>match vis s (.mk k i n ls ks) d with
  | .bad e s'=> .bad e s'
  | .done t' s'=> .ok t' s'
  | .go t' s'=>match kY vis s' k d 0 ks with
   | .bad e s''=> .bad e s''
   | .ok ks' s''=> .ok (t'.withKids ks') s''
def kY (vis:Int->Tm->Int->VO)(s:Int)(k d:Int)(idx:Nat):List Tm->BO (List Tm)
 |[]=> .ok [] s
 |t::ts=>match bld vis s t (d+aI k idx) with
  | .bad e s'=> .bad e s'
  | .ok t' s'=>match kY vis s' k d (idx+1) ts with
   | .bad e s''=> .bad e s''
   | .ok ts' s''=> .ok (t'::ts') s''
end
theorem xI (vis:Int->Tm->Int->VO)(k d:Int):∀(l:List Tm)(s:Int)(idx:Nat)(t:Tm),kY vis s k d idx (l++[t])=match kY vis s k d idx l with
  | .bad e s'=> .bad e s'
  | .ok l' s'=>match bld vis s' t (d+aI k (idx+l.length:Nat)) with
   | .bad e s''=> .bad e s''
   | .ok t' s''=> .ok (l'++[t']) s''
 |[],s,idx,t=>by
  simp only[bM4,kY,bM3,bO7]
 |x::l,s,idx,t=>by
  simp only[bLz,kY]
  cases h1:bld vis s x (d+aI k idx) with
  |bad e s'=>simp
  |ok x' s'=>
   simp only;rw[xI vis k d l s' (idx+1) t]
   cases h2:kY vis s' k d (idx+1) l with
   |bad e s''=>simp
   |ok l' s''=>
    simp only[bM2];rw[show idx+1+l.length=idx+(l.length+1) by omega]
    cases h3:bld vis s'' t (d+aI k (idx+(l.length+1):Nat)) with
    |bad e s3=>simp
    |ok t' s3=>simp
theorem aDt (vis:Int->Tm->Int->VO)(k d:Int)(e s':Int):∀(l r:List Tm)(s:Int)(idx:Nat),kY vis s k d idx l= .bad e s'->kY vis s k d idx (l++r)= .bad e s'
 |[],r,s,idx,h=>by simp[kY] at h
 |x::l,r,s,idx,h=>by
  simp only[bLz,kY] at h⊢
  cases h1:bld vis s x (d+aI k idx) with
  |bad e1 s1=>rw[h1] at h;simpa using h
  |ok x' s1=>
   rw[h1] at h;simp only at h⊢
   cases h2:kY vis s1 k d (idx+1) l with
   |bad e2 s2=>rw[h2] at h;simp at h;obtain⟨rfl,rfl⟩:=h;rw[aDt vis k d _ _ l r s1 (idx+1) h2]
   |ok l' s2=>rw[h2] at h;simp at h
theorem aDv (vis:Int->Tm->Int->VO)(k d:Int):∀(l:List Tm)(s:Int)(idx:Nat)(l':List Tm)(s':Int),kY vis s k d idx l= .ok l' s'->l'.length=l.length
 |[],s,idx,l',s',h=>by simp[kY] at h;simp[<-h.1]
 |x::l,s,idx,l',s',h=>by
  simp only[kY] at h
  cases h1:bld vis s x (d+aI k idx) with
  |bad e1 s1=>rw[h1] at h;simp at h
  |ok x' s1=>
   rw[h1] at h;simp only at h
   cases h2:kY vis s1 k d (idx+1) l with
   |bad e2 s2=>rw[h2] at h;simp at h
   |ok l2 s2=>rw[h2] at h;simp at h;rw[<-h.1];simp[aDv vis k d l s1 (idx+1) l2 s2 h2]
def VPost (B:Int->Heap)(l:List (Option AO)):VO->AOut->Heap->Prop
 | .done t s,o,h'=>o= .ret (.tup [t.av,bA true])/\h'=B s++l
 | .go t s,o,h'=>o= .ret (.tup [t.av,bA false])/\h'=B s++l
 | .bad e s,o,h'=>o= .panic (.p (errP e))/\h'=B s++l
def iZ (B:Int->Heap):BO Tm->AOut->Heap->Prop
 | .ok t s,o,h'=>o= .ret t.av/\h'=B s
 | .bad e s,o,h'=>o= .panic (.p (errP e))/\h'=B s
abbrev z5:List PV:=[iP 0,iP 0,sP [], .prim (.slice none 0 0), .prim (.slice none 0 0)]
def cE (dn:List Tm)(m:Nat):List AV:=(tmPs dn++List.replicate m z5).flatten.map AV.p
theorem aEn (dn:List Tm)(m:Nat):∀e∈tmPs dn++List.replicate m z5,e.length=5:=by
 intro e he;rcases bMo.1 he with h|h
 ·rw[tmPs_eq] at h;obtain⟨t,_,rfl⟩:=bMr.1 h;simp
 ·rw[(bOp.1 h).2];rfl
theorem yP (m:Nat)(dn:List Tm)(q:Nat):AV.underL m (cE dn q)=true:=underL_p _ _
theorem qM (dn:List Tm)(m:Nat):(cE dn m).length=(dn.length+m)*5:=by
 unfold cE;rw[bMp,flat_length (aEn dn m)];simp
theorem mE (m:Nat):(List.replicate m [iA 0,iA 0,AV.p (sP []),AV.p (.prim (.slice none 0 0)),AV.p (.prim (.slice none 0 0))]).flatten=cE [] m:=by
 unfold cE
 induction m with
 |zero=>rfl
 |succ m ih=>rw[bN3,bNa,ih];simp[tmPs,bN3]
theorem yO (dn:List Tm)(m:Nat)(t:Tm):patch (cE dn (m+1)) (dn.length*5) (t.cells.map AV.p)=cE (dn++[t]) m:=by
 unfold cE;rw[<-jO,<-lW 5 _ dn.length t.cells (aEn dn (m+1)) aA aA]
 congr 2
 rw[bNf _ _ aA,rP,Nat.sub_self,bN3,bO1,tmPs_eq,tmPs_eq];simp
theorem bL (k i:Int):0<=aI k i/\aI k i<=1:=by unfold aI;split<;>omega
theorem pQ (vis:Int->Tm->Int->VO)(g:FuncId)(hg:aK Tryz.prog g=true)(cap:List AV)(Dom:Tm->Int->Prop)
  (hD1:∀k i n ls ks d,Dom (.mk k i n ls ks) d->ks.length<=1048576/\0<=d/\d<=1099511627776)
  (hD2:∀k i n ls ks d,Dom (.mk k i n ls ks) d->∀(j:Nat) (hj:j<ks.length),Dom ks[j] (d+aI k j)) (N:Nat):
  ∀(t:Tm) (s d:Int) (B:Int->Heap) (n:Nat),t.size<=N->Dom t d->(∀s,(B s).length=n)->(∀s,WF (B s))->AV.underL n cap=true->
   (∀s t d l,Dom t d->WF (B s++l)->ACalls Tryz.prog g ([t.av,iA d]++cap) (B s++l) (VPost B l (vis s t d)))->
   ACalls Tryz.prog 296 [.agg [.fn (.func g) [] cap],t.av,iA d] (B s) (iZ B (bld vis s t d)):=by
 induction N with
 |zero=>intro t _ _ _ _ hN;have:=t.size_pos;omega
 |succ N ih=>
 intro t s d B n hN hdom hlen hwf hcap HV;obtain⟨k,i,nm,ls,ks⟩:=t;obtain⟨hks,hd0,hd1⟩:=hD1 _ _ _ _ _ _ hdom;have gl:∀s (l:List (Option AO)) (k:Nat),(B s++l)[n+k]?=l[k]?:=fun s l k=>cG (hlen s)
 have gl0:∀s (l:List (Option AO)),(B s++l)[n]?=l[0]?:=fun s l=>eG (hlen s)
 have sl:∀s (l:List (Option AO)) (k:Nat) (o:Option AO),(B s++l).set (n+k) o=B s++l.set k o:=fun s l k o=>cH (hlen s)
 have sl0:∀s (l:List (Option AO)) (o:Option AO),(B s++l).set n o=B s++l.set 0 o:=fun s l o=>gU (hlen s)
 have wfl:∀s (l:List (Option AO)),l.all (AO.under (n+l.length))=true->WF (B s++l):=fun s l hl=>(hwf s).app (by rw[hlen];exact hl)
 have hcapm:∀m,AV.underL (n+m) cap=true:=fun m=>AV.underL_mono aB hcap
 simp only[Tm.size] at hN;refine ACalls.of_run Tryz.func296 rfl ?_;simp only[Tryz.ntmps296,bM2,bM3,Tm.av,cells_mk,List.map];refine nv ?_;rw[hlen s];refine sD hlen ?_;refine zr2 gl gl0 ?_;have hv0:∃vo,vis s (.mk k i nm ls ks) d=vo:=⟨_,rfl⟩;obtain⟨vo,hvo⟩:=hv0;have hc:=HV s (.mk k i nm ls ks) d [some (.cells [.fn (.func g) [] cap]),some (.cells [iA k,iA i, .p (sP nm), .p (.sl 2 (lvPs ls)), .p (.sl 5 (tmPs ks))]),some (.cells [iA 0,iA 0, .p (sP []), .p (.prim (.slice none 0 0)), .p (.prim (.slice none 0 0))])] hdom (wfl _ _ (by simp[hcapm]));rw[hvo] at hc;simp only[Tm.av,cells_mk,List.map] at hc;refine Run.call rfl rfl aA hg hc ?_ ?_
 ·intro v h' hR
  cases vo with
  |bad e s'=>simp[VPost] at hR
  |done t' s'=>
   simp only[VPost,AOut.ret.injEq] at hR;obtain⟨rfl,rfl⟩:=hR;obtain⟨k',i',n',ls',ks'⟩:=t';refine bLj hlen ?_;refine zr ?_;refine zt ?_;refine bAa gl ?_;refine zx ?_;refine Fin.ret' (h0:=B s') aA (hlen s') (hwf s') rfl (by simp[gl];rfl) rfl (Weak.refl _) aA ?_;simp[bld,hvo,iZ]
  |go t' s'=>
   simp only[VPost,AOut.ret.injEq] at hR;obtain⟨rfl,rfl⟩:=hR;obtain⟨k',i',n',ls',ks'⟩:=t';refine bLj hlen ?_;refine zr ?_;refine zf ?_;refine bAa gl ?_;refine zr1 gl ?_
   by_cases hk0:0<ks.length
   ·refine znt1 hk0 ?_;have hm1:ks.length*80<=140737488355328:=aB;have hm2:ks.length<=1099511627776:=aB;refine zn ?_;refine zrv2 hm1 hm2 hlen ?_;rw[mE];refine sD gl ?_
    refine Run.loopS (ι:=Nat×List Tm×Int) [2,3,4,6,7,32,33] (fun p=>p.1<=ks.length/\kY vis s' k d 0 (ks.take p.1)= .ok p.2.1 p.2.2) (fun p=>ks.length-p.1) (fun p=>[(34,iA p.1)])
     (fun p=>B p.2.2++[some (.cells [.fn (.func g) [] cap]),some (.cells [iA k,iA i, .p (sP nm), .p (.sl 2 (lvPs ls)), .p (.sl 5 (tmPs ks))]),some (.cells [iA 0,iA 0, .p (sP []), .p (.prim (.slice none 0 0)), .p (.prim (.slice none 0 0))]),
      some (.cells [iA k',iA i', .p (sP n'), .p (.sl 2 (lvPs ls')), .sm (n+4) 0 ks.length ks.length 5]),some (.cells (cE p.2.1 (ks.length-p.1)))])
     (0,[],s') (by simp[kY]) ?_ aA ?_
    ·exact zS
    ·rintro⟨j,dn,sj⟩ ⟨hj,hbl⟩ IH;simp only at hj hbl;have hdl:dn.length=j:=by rw[aDv _ _ _ _ _ _ _ _ hbl];simp;omega
     refine cK ?_
     by_cases hjl:j<ks.length
     ·have hgj:ks[j]?=some ks[j]:=bLv hjl;have htk:ks.take (j+1)=ks.take j++[ks[j]]:=bM6 hjl;have hbz:=bL k j;refine znt1 hjl ?_;refine zrv3 hgj hlen ?_
      --the locals,and the contract of the recursive call over them
      obtain⟨L,hL⟩:∃L:List (Option AO),L=[some (.cells [.fn (.func g) [] cap]),some (.cells [iA k,iA i, .p (sP nm), .p (.sl 2 (lvPs ls)), .p (.sl 5 (tmPs ks))]),some (.cells [iA 0,iA 0, .p (sP []), .p (.prim (.slice none 0 0)), .p (.prim (.slice none 0 0))]),
       some (.cells [iA k',iA i', .p (sP n'), .p (.sl 2 (lvPs ls')), .sm (n+4) 0 ks.length ks.length 5]),some (.cells (cE dn (ks.length-j))),some (.cells (ks[j].cells.map .p))]:=⟨_,rfl⟩
      have hLl:L.length=6:=by rw[hL];rfl
      have hLu:L.all (AO.under (n+L.length))=true:=by rw[hLl,hL];simp[hcapm,yP]
      have hsz:ks[j].size<=N:=by
       have h1:=gW ks j _ hgj;have h2:=cQ ks (j+1);omega
      have hcall:=ih ks[j] sj (d+aI k j) (fun s=>B s++L) (n+6) hsz (hD2 _ _ _ _ _ _ hdom j hjl) (fun s=>by rw[bM5,hlen,hLl]) (fun s=>wfl s L hLu) (hcapm 6)
       (fun s t d l hd hw=>by
        have:=HV s t d (L++l) hd (by rw[<-bMj];exact hw);refine y1h ?_;intro o h' hp
        cases hvv:vis s t d<;>rw[hvv] at hp<;>simp only[VPost] at hp⊢<;>exact⟨hp.1,by rw[hp.2,bMj]⟩)
      obtain⟨bo,hbo⟩:∃bo,bld vis sj ks[j] (d+aI k j)=bo:=⟨_,rfl⟩;rw[hbo] at hcall;have hsn:=xI vis k d (ks.take j) s' 0 ks[j];rw[hbl] at hsn;simp only[bMw,bMn,bNc hj,hbo] at hsn;have hwn:WF (B sj++L):=wfl sj L hLu;rw[hL] at hwn
      cases bo with
      |ok t2 s2=>
       have hcall2:=hcall.mono (R':=fun o h'=>o= .ret t2.av/\h'=B s2++L) (fun _ _ hp=>hp);rw[hL] at hcall2;refine nv ?_;refine Run.draw [0,0,0,0,0,0,0,0,0,0,1,1,2,2] [0,0,0,0,0,0,0,0,0,0,0,1,0,2] [0,1,0,0,0,0,0,64,0,448,992,2040,4095,8191] [6,7,8,9,3,4,5,10,11,0,1,2,12,13] aC aC ?_;refine zd1 gl ?_;refine DR.call (args:=[iA k,iA j]) rfl rfl rfl aA rfl (xH _ hwn k j) ?_;refine zd2 gl gl0 ?_;refine DR.call (args:=[.agg [.fn (.func g) [] cap],ks[j].av,iA (d+aI k j)]) rfl rfl rfl aA rfl hcall2 ?_;have hj5:j*5+5<=(cE dn (ks.length-j)).length:=by rw[qM];omega
       have hput:patch (cE dn (ks.length-j)) (j*5) (List.map AV.p t2.cells)=cE (dn++[t2]) (ks.length-(j+1)):=by
        have:=yO dn (ks.length-(j+1)) t2;rw[hdl,show ks.length-(j+1)+1=ks.length-j by omega] at this;exact this
       refine bLg gl hjl hj5 hput ?_;refine y8 ?_;refine znr ?_;refine Run.keep [2,3,4,6,7,32,33,34] ?_;simp;refine Run.cutAt 5 (hwf s2) rfl (by rw[hlen];omega) aA (by simp[hlen]) (by simp[hlen,hcapm,yP]) rfl ?_;refine IH (j+1,dn++[t2],s2) _ _ ⟨by simp;omega,?_⟩ (by simp;omega) ?_ ?_
       ·rw[htk];exact hsn
       ·exact zS
       ·simp
      |bad e s2=>
       have hcall2:=hcall.mono (R':=fun o h'=>o= .panic (.p (errP e))/\h'=B s2++L) (fun _ _ hp=>hp);rw[hL] at hcall2
       have hbad:kY vis s' k d 0 ks= .bad e s2:=by
        have h1:kY vis s' k d 0 (ks.take (j+1))= .bad e s2:=by rw[htk];exact hsn
        have:=aDt vis k d e s2 (ks.take (j+1)) (ks.drop (j+1)) s' 0 h1
        rwa [bN5] at this
       refine nv ?_;refine Run.drawPanic [0,0,0,0,0,0,0,0,0,0,1,1,2,2] [0,0,0,0,0,0,0,0,0,0,0,0,0,0] [0,1,0,0,0,0,0,64,0,448,992,2040,4095,8191] [6,7,8,9,0,1,2,3,4,5,10] 11 aC aC ?_;refine zd1 gl ?_;refine DR.call (args:=[iA k,iA j]) rfl rfl rfl aA rfl (xH _ hwn k j) ?_;refine zd2 gl gl0 ?_;refine⟨_,_,_,[.agg [.fn (.func g) [] cap],ks[j].av,iA (d+aI k j)],_,_,rfl,rfl,rfl,by simp,rfl,hcall2,?_⟩;intro T' hT;exact Fin.pan (hlen s2) (hwf s2) rfl (by simp[bld,hvo,hbad,iZ])
     ·have hje:j=ks.length:=aB;subst hje;rw[bMm] at hbl;refine znfen ?_;refine bAa gl ?_;refine zx ?_
      refine Fin.retS (h0:=B sj) (xs:=[.agg [iA k',iA i', .p (sP n'), .p (.sl 2 (lvPs ls')), .sm (n+4) 0 ks.length ks.length 5]]) aA (hlen sj) (hwf sj) (by simp[gl]) rfl
       (Settles.kids (xs:=[iA k',iA i', .p (sP n'), .p (.sl 2 (lvPs ls'))]) (id:=n+4) (n:=ks.length) (sz:=5) (es:=tmPs dn) (by simp[gl,cE]) (fun e he=>by rw[tmPs_eq] at he;obtain⟨t,_,rfl⟩:=bMr.1 he;simp) (by simp[hdl])) (by rw[sl]) aA ?_
      simp[bld,hvo,hbl,iZ,Tm.withKids]
   ·refine aFh hk0 ?_;refine bAa gl ?_;refine zx ?_;refine Fin.ret' (h0:=B s') aA (hlen s') (hwf s') rfl (by simp[gl];rfl) rfl (y:=(Tm.mk k' i' n' ls' []).av) ?_ aA ?_
    ·refine Weak.agg ?_;exact zK
    ·have:ks=[]:=by cases ks<;>simp at hk0⊢
     subst this;simp[bld,hvo,iZ,kY,Tm.withKids]
 ·intro v h' hR
  cases vo with
  |bad e s'=>
   simp only[VPost,AOut.panic.injEq] at hR;obtain⟨rfl,rfl⟩:=hR;exact Fin.pan (hlen s') (hwf s') rfl (by simp[bld,hvo,iZ])
  |done t' s'=>simp[VPost] at hR
  |go t' s'=>simp[VPost] at hR
open Go Go.AI
theorem caught_any (h:Heap)(hh:WF h)(e:Int):ACalls Tryz.prog 237 [.p (errP e)] h fun o h'=>o= .ret (iA e)/\h'=h:=by
 refine zER Tryz.func237 Tryz.ntmps237 ?_;have hu:Tryz.prog.underlying 381=some (.int .i64):=aC;refine sD hu ?_;refine zr ?_;refine zf ?_;refine yi ?_;exact y2j
abbrev zTm:List AV:=[iA 0,iA 0, .p (sP []), .p (.prim (.slice none 0 0)), .p (.prim (.slice none 0 0))]
theorem zY (h:Heap)(hh:WF h)(p q:Nat) {a b c d e0:AV} {c0:AV} (hp:h[p]?=some (some (.cells [a,b,c,d,e0])))(hq:h[q]?=some (some (.cells [c0])))(hpq:p≠q)(e:Int):
  ADef Tryz.prog 236 [.ptr p 0, .ptr q 0] (some (.p (errP e))) h ((h.set p (some (.cells zTm))).set q (some (.cells [iA e]))):=by
 obtain⟨p1,p2,p3,p4,p5,p6⟩:=idf hp;have hq2:(h.set p (some (.cells zTm)))[q]?=some (some (.cells [c0])):=by rw[bMl hpq];exact hq
 refine ADef.of_run Tryz.func236 rfl rfl rfl fun K J=>?_
 simp only[Tryz.ntmps236,bM2,bM3];exact y2w
theorem aCr (h:Heap)(hh:WF h)(p q:Nat):ADef Tryz.prog 236 [.ptr p 0, .ptr q 0] none h h:=by
 refine ADef.of_run Tryz.func236 rfl rfl rfl fun K J=>?_
 simp only[Tryz.ntmps236,bM2,bM3];exact y2k
end Go.Proofs.YtplomildbmcmfaaGreat
namespace Go.AI
open Go
theorem Fin.retM {P:Program} {fn:Func} {R:AOut->Heap->Prop} {T:List AV} {h h0:Heap} {n:Nat} {l:List (Option AO)} {x y:AV} {xs:List AV} {ax:AX} (hax:(∀v,ax≠ .panic v)/\∀i,ax≠ .exit i)(hn:n<=h0.length)(hh:WF h0)(e:h=h0++l)(hr:aX P T h fn.results.toList=some xs)(hx:bR xs=x)(hw:Weak x y)(hy:y.under h0.length=true)(hR:R (.ret y) h0):
  Fin P fn n R ax T h []:=by
 subst e hx
 have:∃l' y' h' m,aX P T (h0++l) fn.results.toList=some l'/\Settles (bR l') (h0++l) y' h'/\n<=m/\m<=h'.length/\y'.under m=true/\(h'.take m).all (AO.under m)=true/\R (.ret y') (h'.take m):=by
  exact y64
 cases ax with
 |panic v=>exact absurd rfl (hax.1 v)
 |exit i=>exact absurd rfl (hax.2 i)
 |normal=>exact⟨rfl,this⟩
 |ret=>exact⟨rfl,this⟩
end Go.AI
namespace Go.Proofs.YtplomildbmcmfaaGreat
open Go Go.AI
theorem mP (h:Heap)(hh:WF h)(g:FuncId)(cap:List AV)(hu:AV.underL h.length cap=true):
  ACalls Tryz.prog 291 [.fn (.func g) [] cap] h fun o h'=>o= .ret (.agg [.fn (.func 337) [] [.ptr h.length 0]])/\h'=h++[some (.cells [.fn (.func g) [] cap])]:=by
 have hu1:∀k,AV.underL (h.length+k) cap=true:=fun k=>AV.underL_mono aB hu
 refine zE Tryz.func291 Tryz.ntmps291 ?_;refine aT0 ?_;refine Fin.retM (h0:=h++[some (.cells [.fn (.func g) [] cap])]) (l:=[some (.cells [.fn (.func 337) [] [.ptr h.length 0]])]) aA aA (hh.app (by simp[hu1])) aA aE rfl (Weak.refl _) aA ⟨rfl,rfl⟩
def cX (rep:Int->Tm->Int->BO Tm)(s:Int)(t:Tm)(d:Int):VO:=
 if t.kind=0 then(match rep s t d with
  | .ok t' s'=> .done t' s'
  | .bad e s'=> .bad e s') else .go t.bare s
def RPost (B:Int->Heap)(l:List (Option AO)):BO Tm->AOut->Heap->Prop
 | .ok t s,o,h'=>o= .ret t.av/\h'=B s++l
 | .bad e s,o,h'=>o= .panic (.p (errP e))/\h'=B s++l
theorem aOg (rep:Int->Tm->Int->BO Tm)(g:FuncId)(hg:aK Tryz.prog g=true)(cap:List AV)(B:Int->Heap)(n q:Nat)(hlen:∀s,(B s).length=n)(hwf:∀s,WF (B s))(_hcap:AV.underL n cap=true)
  (hq:∀s,(B s)[q]?=some (some (.cells [.fn (.func g) [] cap]))) (s:Int) (t:Tm) (d:Int) (l:List (Option AO)) (hb:aCg t.levels)
  (HV:∀l,t.kind=0->WF (B s++l)->ACalls Tryz.prog g ([t.av,iA d]++cap) (B s++l) (RPost B l (rep s t d))) (hw:WF (B s++l)):
  ACalls Tryz.prog 337 ([t.av,iA d]++[.ptr q 0]) (B s++l) (VPost B l (cX rep s t d)):=by
 have hqlt:q<n:=by have:=(bLw.1 (hq s)).1;rw[hlen] at this;exact this
 have hql:∀s (l:List (Option AO)),(B s++l)[q]?=some (some (.cells [.fn (.func g) [] cap])):=fun s l=>by rw[bM9 (by rw[hlen];exact hqlt),hq]
 have gl:∀s (l':List (Option AO)) (k:Nat),(B s++(l++l'))[n+(l.length+k)]?=l'[k]?:=fun s l' k=>by rw[cG (hlen s),lX]
 have gl0:∀s (l':List (Option AO)),(B s++(l++l'))[n+l.length]?=l'[0]?:=fun s l'=>gl s l' 0
 have sl:∀s (l':List (Option AO)) (k:Nat) (o:Option AO),(B s++(l++l')).set (n+(l.length+k)) o=B s++(l++l'.set k o):=fun s l' k o=>by rw[cH (hlen s),mJ]
 have sl0:∀s (l':List (Option AO)) (o:Option AO),(B s++(l++l')).set (n+l.length) o=B s++(l++l'.set 0 o):=fun s l' o=>sl s l' 0 o
 have hwl:∀s' (l':List (Option AO)),(l++l').all (AO.under (n+(l++l').length))=true->WF (B s'++(l++l')):=fun s' l' hl=>(hwf s').app (by rw[hlen];exact hl)
 have hl0:l.all (AO.under (n+l.length))=true:=by
  exact y79
 have hl1:∀k,l.all (AO.under (n+(l.length+k)))=true:=fun k=>by
  exact y7y
 have hwB:∀s',WF (B s'++l):=fun s'=>(hwf s').app (by rw[hlen];exact hl0)
 obtain⟨k,i,nm,ls,ks⟩:=t;refine y1f ?_;refine ACalls.of_run Tryz.func337 rfl ?_;simp only[Tryz.ntmps337,bM2,bM3,Tm.av,cells_mk,List.map];refine sD hlen ?_;refine zr1 gl0 ?_
 by_cases hk:k=0
 ·subst hk;refine znt ?_;refine zr2 hql hlen ?_;obtain⟨bo,hbo⟩:∃bo,rep s (.mk 0 i nm ls ks) d=bo:=⟨_,rfl⟩;have hw2:WF (B s++(l++[some (.cells [iA 0,iA i, .p (sP nm), .p (.sl 2 (lvPs ls)), .p (.sl 5 (tmPs ks))]),some (.cells zTm)])):=hwl s _ (by rw[bO9,bM8];exact⟨by simpa using hl1 _,by simp⟩);have hc:=HV (l++[some (.cells [iA 0,iA i, .p (sP nm), .p (.sl 2 (lvPs ls)), .p (.sl 5 (tmPs ks))]),some (.cells zTm)]) rfl hw2;rw[hbo] at hc;refine Run.call rfl rfl aA hg hc ?_ ?_
  ·intro v h' hR
   cases bo with
   |bad e s'=>simp[RPost] at hR
   |ok t' s'=>
    obtain⟨k',i',n',ls',ks'⟩:=t';simp only[RPost,AOut.ret.injEq] at hR;obtain⟨rfl,rfl⟩:=hR;refine bLj hlen ?_;refine zx ?_;refine Fin.ret' (h0:=B s'++l) aA (by simp[hlen]) (hwB s') aE (by simp[gl];rfl) rfl (Weak.refl _) aA ?_;simp[cX,Tm.kind,hbo,VPost]
  ·intro v h' hR
   cases bo with
   |ok t' s'=>simp[RPost] at hR
   |bad e s'=>
    simp only[RPost,AOut.panic.injEq] at hR;obtain⟨rfl,rfl⟩:=hR;refine Fin.pan (h0:=B s'++l) (by simp[hlen]) (hwB s') aE ?_;simp[cX,Tm.kind,hbo,VPost]
 ·refine aFh hk ?_;refine zr1 hlen ?_;have hw2:WF (B s++(l++[some (.cells [iA k,iA i, .p (sP nm), .p (.sl 2 (lvPs ls)), .p (.sl 5 (tmPs ks))]),some (.cells zTm)])):=hwl s _ (by rw[bO9,bM8];exact⟨by simpa using hl1 _,by simp⟩);refine Run.call (args:=[(Tm.mk k i nm ls ks).av]) rfl rfl aA rfl (qY _ hw2 (.mk k i nm ls ks) hb) ?_ ?_
  ·rintro v h' ⟨hv,rfl⟩;simp only[AOut.ret.injEq] at hv;subst hv;refine zov4 hlen ?_;refine zx ?_;refine Fin.ret' (h0:=B s++l) aA (by simp[hlen]) hw aE (by simp[gl];rfl) rfl (Weak.refl _) aA ?_;simp[cX,Tm.kind,hk,VPost,Tm.bare]
  ·rintro v h' ⟨hv,_⟩;cases hv
def Tm.okN (m:Int)(k i:Int)(n:List UInt8)(ls:List Lv)(ks:List Tm):Prop:=
 (k=0->0<=i/\i<m/\n=[]/\ls=[]/\ks=[])/\ls.length<=8/\(∀l∈ls,l.vars.length<=1048576)/\ks.length<=3
mutual
def Tm.ok (m:Int):Tm->Prop
 | .mk k i n ls ks=>Tm.okN m k i n ls ks/\Tm.oks m k 0 ks
def Tm.oks (m k:Int)(idx:Nat):List Tm->Prop
 |[]=>True
 |t::ts=>t.ok (m+aI k idx)/\Tm.oks m k (idx+1) ts
end
theorem Tm.oks_at {m k:Int} :∀ {l:List Tm} {idx:Nat},Tm.oks m k idx l->∀(j:Nat)(hj:j<l.length),l[j].ok (m+aI k (idx+j:Nat))
 |[],_,_,j,hj=>by simp at hj
 |x::l,idx,h,j,hj=>by
  simp only[Tm.oks] at h
  cases j with
  |zero=>simpa using h.1
  |succ j=>
   have:=Tm.oks_at h.2 j (by simpa using hj);simp only[List.getElem_cons_succ];rw[show idx+(j+1)=idx+1+j by omega];exact this
theorem dO {l:List Tm} {j:Nat} (hj:j<l.length):l[j].size<=Tm.sizes l:=by
 have h1:=gW l j _ (bLv hj);have h2:=cQ l (j+1);omega
def Dom (m0:Int)(t:Tm)(d:Int):Prop:=t.ok (m0+d)/\0<=d/\d+t.size<=1099511627776
theorem Dom.one {m0:Int} :∀k i n ls ks d,Dom m0 (.mk k i n ls ks) d->ks.length<=1048576/\0<=d/\d<=1099511627776:=by
 intro k i n ls ks d ⟨h1,h2,h3⟩;simp only[Tm.ok,Tm.okN] at h1;simp only[Tm.size] at h3;exact⟨by omega,h2,by omega⟩
theorem Dom.two {m0:Int} :∀k i n ls ks d,Dom m0 (.mk k i n ls ks) d->∀(j:Nat)(hj:j<ks.length),Dom m0 ks[j] (d+aI k j):=by
 intro k i n ls ks d ⟨h1,h2,h3⟩ j hj;have h4:=Tm.oks_at h1.2 j hj;have h5:=bL k j;have h6:=dO hj;simp only[Tm.size] at h3;refine⟨?_,by omega,by omega⟩;rw[show m0+(d+aI k j)=m0+d+aI k (0+j:Nat) by simp;omega];exact h4
theorem Dom.lv {m0:Int} {t:Tm} {d:Int} (h:Dom m0 t d):aCg t.levels:=by
 obtain⟨k,i,n,ls,ks⟩:=t;have:=h.1.1;simp only[Tm.okN] at this;exact⟨by simp only[Tm.levels];omega,by simpa only[Tm.levels] using this.2.2.1⟩
theorem Dom.var {m0:Int} {t:Tm} {d:Int} (h:Dom m0 t d)(hk:t.kind=0):0<=t.index/\t.index<m0+d/\t=vr t.index:=by
 obtain⟨k,i,n,ls,ks⟩:=t;obtain⟨h1,h2,rfl,rfl,rfl⟩:=h.1.1.1 hk;simp only[Tm.kind] at hk;subst hk;exact⟨h1,h2,rfl⟩
def dA (d_ from_:Int)(s:Int)(t:Tm)(d:Int):BO Tm:=
 if t.index-d<from_ then .ok t.bare s
 else if d_<0/\t.index-d<from_-d_ then .bad 24 s
 else if 65535<t.index+d_ then .bad 24 s else .ok (vr (t.index+d_)) s
theorem zI (h:Heap)(hh:WF h)(by_ fr:Int)(hb1:-1099511627776<=by_)(hb2:by_<=1099511627776)(hf1:0<=fr)(hf2:fr<=9223372036854775807)(p q:Nat)(hp:h[p]?=some (some (.cells [iA fr])))(hq:h[q]?=some (some (.cells [iA by_])))(t:Tm)(d s:Int)(hd:Dom 65536 t d)(hk:t.kind=0):
  ACalls Tryz.prog 292 ([t.av,iA d]++[.ptr p 0, .ptr q 0]) h (RPost (fun _=>h) [] (dA by_ fr s t d)):=by
 obtain⟨p1,p2,p3,p4,p5,p6⟩:=idf hp;obtain⟨q1,q2,q3,q4,q5,q6⟩:=idf hq;obtain⟨i1,i2,i3⟩:=hd.var hk;have hd2:=hd.2.1;have hd3:=hd.2.2;generalize t.index=i at*;subst i3;simp only[vr,bLz,bM4];refine ACalls.of_run Tryz.func292 rfl ?_;simp only[Tryz.ntmps292,bM2,bM3,Tm.av,cells_mk,List.map];refine znrr ?_;refine zr1 p1 ?_
 by_cases c1:i-d<fr
 ·refine lH c1 ?_;refine Run.call (args:=[(vr i).av]) rfl rfl (by simp[vr]) rfl (qY _ (hh.app aA) (vr i) ⟨by simp[vr,Tm.levels],by simp[vr,Tm.levels]⟩) ?_ ?_
  ·rintro v h' ⟨hv,rfl⟩;simp only[AOut.ret.injEq] at hv;subst hv;refine y1c ?_;simp[dA,Tm.index,vr,c1,RPost,Tm.bare]
  ·rintro v h' ⟨hv,_⟩;cases hv
 ·refine aFh c1 ?_;have hc:(by_<0/\i-d<fr-by_)\/(by_<0/\¬(i-d<fr-by_))\/¬by_<0:=aB;have hw0:by_<0->IntKind.i64.wrap (fr-by_)=fr-by_:=fun h=>wrap_id aB aB
  rcases hc with ⟨c2,c3⟩|⟨c2,c3⟩|c2
  ·refine nv ?_;refine Run.reg fun K J=>?_
   simp[c2,c3,p1,q1,hw0 c2];refine zj ?_;clear J;refine zt ?_;refine zr ?_;refine Run.call (args:=[iA 24]) rfl rfl aA rfl (wH _ (hh.app aA) 24) ?_ ?_
   ·rintro v h' ⟨hv,_⟩;cases hv
   ·rintro v h' ⟨hv,rfl⟩;simp only[AOut.panic.injEq] at hv;subst hv;exact Fin.pan rfl hh rfl (by simp[dA,Tm.index,c1,c2,c3,RPost])
  all_goals
   first
   |(
    refine nv ?_;refine Run.reg fun K J=>?_
    simp[c2,c3,p1,q1,hw0 c2];refine zj ?_;clear J
    skip)
   |(
    refine zn ?_;refine zr2 c2 q1 ?_
    skip)
   refine znf ?_;refine zr1 q1 ?_;have hcall:=yV (h++[some (.cells [iA 0,iA i, .p (sP []), .p (.sl 2 (lvPs [])), .p (.sl 5 (tmPs []))]),some (.cells zTm)]) (hh.app aA) (i+by_);refine Run.call (args:=[iA (i+by_)]) rfl rfl aA rfl hcall ?_ ?_
   ·rintro v h' ⟨hv,rfl⟩
    by_cases c4:65535<i+by_
    ·simp[c4] at hv
    ·simp only[c4,if_false,AOut.ret.injEq] at hv;subst hv;refine zov6 ?_;refine zx ?_;refine Fin.ret' (h0:=h) aA rfl hh rfl aE rfl (Weak.of_eq (y:=(vr (i+by_)).av) (by simp[vr])) aA ?_;have c5:¬(by_<0/\i-d<fr-by_):=aB;simp[dA,Tm.index,vr,c1,c5,c4,RPost]
   ·rintro v h' ⟨hv,rfl⟩
    by_cases c4:65535<i+by_
    ·simp only[c4,if_true,AOut.panic.injEq] at hv;subst hv;have c5:¬(by_<0/\i-d<fr-by_):=aB;exact Fin.pan rfl hh rfl (by simp[dA,Tm.index,c1,c5,c4,RPost])
    ·simp[c4] at hv
open Go Go.AI
def gV (by_ fr:Int)(t:Tm):BO Tm:=bld (cX (dA by_ fr)) 0 t 0
theorem RPost.of_const {B:Int->Heap} {l:List (Option AO)} {s:Int} (hB:∀s',B s'=B s) {r:BO Tm} {o:AOut} {h':Heap} (hp:RPost (fun _=>B s++l) [] r o h'):RPost B l r o h':=by
 cases r<;>simp only[RPost,bM1] at hp⊢<;>exact⟨hp.1,hp.2.trans (congrArg (·++l) (hB _).symm)⟩
theorem rH (h:Heap)(hh:WF h)(t:Tm)(by_ fr:Int)(hb1:-1099511627776<=by_)(hb2:by_<=1099511627776)(hf1:0<=fr)(hf2:fr<=9223372036854775807)(hd:Dom 65536 t 0):
  ACalls Tryz.prog 238 [t.av,iA by_,iA fr] h (iZ (fun _=>h) (gV by_ fr t)):=by
 obtain⟨H,hH⟩:∃H:Heap,H=h++[some (.cells (t.cells.map .p)),some (.cells [iA by_]),some (.cells [iA fr]),some (.cells zTm),some (.cells [.fn (.func 292) [] [.ptr (h.length+2) 0, .ptr (h.length+1) 0]])]:=⟨_,rfl⟩;have hlen:H.length=h.length+5:=by rw[hH];simp
 have hwf:WF H:=by rw[hH];exact hh.app aA
 have e1:H[h.length+1]?=some (some (.cells [iA by_])):=by rw[hH];simp
 have e2:H[h.length+2]?=some (some (.cells [iA fr])):=by rw[hH];simp
 have e4:H[h.length+4]?=some (some (.cells [.fn (.func 292) [] [.ptr (h.length+2) 0, .ptr (h.length+1) 0]])):=by rw[hH];simp
 have hbuild:=pQ (cX (dA by_ fr)) 337 rfl [.ptr (h.length+4) 0] (Dom 65536) Dom.one Dom.two t.size t 0 0 (fun _=>H) (h.length+5) (bLx _) hd (fun _=>hlen) (fun _=>hwf) aA
  (fun s t d l hd hw=>aOg (dA by_ fr) 292 rfl [.ptr (h.length+2) 0, .ptr (h.length+1) 0] (fun _=>H) (h.length+5) (h.length+4) (fun _=>hlen) (fun _=>hwf) aA (fun _=>e4) s t d l hd.lv
   (fun l hk hw=>(zI (H++l) hw by_ fr hb1 hb2 hf1 hf2 (h.length+2) (h.length+1) ((idf e2).1 l) ((idf e1).1 l) t d s hd hk).mono fun _ _ hp=>RPost.of_const (B:=fun _=>H) (s:=s) (fun _=>rfl) hp) hw)
 have hvar:=mP (h++[some (.cells (t.cells.map .p)),some (.cells [iA by_]),some (.cells [iA fr]),some (.cells zTm)]) (hh.app aA) 292 [.ptr (h.length+2) 0, .ptr (h.length+1) 0] aA;have hdef:bld (cX (dA by_ fr)) 0 t 0=gV by_ fr t:=rfl;rw[hdef] at hbuild;rw[hH] at hbuild;clear hH hlen hwf e1 e2 e4;obtain⟨k,i,nm,ls,ks⟩:=t
 cases hbo:gV by_ fr (.mk k i nm ls ks) with
 |ok t' s'=>
  rw[hbo] at hbuild;have hb2:=hbuild.mono (R':=fun o h'=>o= .ret t'.av/\h'=_) (fun _ _ hp=>hp);refine ACalls.of_run Tryz.func238 rfl ?_;simp only[Tryz.ntmps238,bM2,bM3,Tm.av,cells_mk,List.map];refine znr ?_;refine y1p ?_;refine y15 ?_;refine DR.call rfl rfl rfl aA rfl hb2 ?_;obtain⟨k',i',n',ls',ks'⟩:=t';refine zd ?_;refine y8 ?_;refine znx ?_;refine y1b ?_;simp[iZ]
 |bad e s'=>
  rw[hbo] at hbuild;have hb2:=hbuild.mono (R':=fun o h'=>o= .panic (.p (errP e))/\h'=_) (fun _ _ hp=>hp);refine ACalls.of_run Tryz.func238 rfl ?_;simp only[Tryz.ntmps238,bM2,bM3,Tm.av,cells_mk,List.map];refine znr ?_;refine y1m ?_;refine y15 ?_;refine⟨_,_,_,_,_,_,rfl,rfl,rfl,by simp,rfl,hb2,?_⟩;intro T' hT;exact Fin.pan rfl hh rfl (by simp[iZ])
def zT:Tm:= .mk 0 0 [] [] []
def bG9:BO Tm->Tm×Int
 | .ok t _=>(t,0)
 | .bad e _=>(zT,e)
def bW (by_ fr:Int)(t:Tm):Tm×Int:=
 if fr<0\/by_< -65536\/65536<by_ then(zT,2) else bG9 (gV by_ fr t)
theorem Weak.zT:Weak (.agg zTm) zT.av:=by
 refine Weak.agg ?_;simp only[Go.Proofs.YtplomildbmcmfaaGreat.zT,cells_mk,List.map];exact zK
theorem aNr (h:Heap)(hh:WF h)(t:Tm)(by_ fr:Int)(hb1:-9223372036854775808<=by_)(hb2:by_<=9223372036854775807)(hf2:fr<=9223372036854775807)(hd:Dom 65536 t 0):
  ACalls Tryz.prog 168 [t.av,iA by_,iA fr] h fun o h'=>o= .ret (.tup [(bW by_ fr t).1.av,iA (bW by_ fr t).2])/\h'=h:=by
 have hcase:((fr<0)/\bW by_ fr t=(zT,2))\/(¬fr<0/\by_< -65536/\bW by_ fr t=(zT,2))\/(¬fr<0/\¬by_< -65536/\65536<by_/\bW by_ fr t=(zT,2))\/(¬fr<0/\¬by_< -65536/\¬65536<by_/\bW by_ fr t=bG9 (gV by_ fr t)):=by
  unfold bW
  by_cases c1:fr<0
  ·simp[c1]
  ·by_cases c2:by_< -65536
   ·simp[c1,c2]
   ·by_cases c3:65536<by_
    ·simp[c1,c2,c3]
    ·simp[c1,c2,c3]
 obtain⟨L,hL⟩:∃L:List AV,L=t.cells.map .p:=⟨_,rfl⟩;have hs:=rH (h++[some (.cells (t.cells.map .p)),some (.cells zTm),some (.cells [iA 0])]) (hh.app aA) t by_ fr;generalize bW by_ fr t=r at hcase⊢;obtain⟨k,i,nm,ls,ks⟩:=t;refine ACalls.of_runD Tryz.func168 rfl ?_;simp only[Tryz.ntmps168,bM2,bM3,Tm.av,cells_mk,List.map];refine znr ?_;rcases hcase with ⟨c1,rfl⟩|⟨c1,c2,rfl⟩|⟨c1,c2,c3,rfl⟩|⟨c1,c2,c3,rfl⟩
 case inr.inr.inr=>
  refine zn ?_;refine zr3 c1 c2 c3 ?_;refine yl ?_;refine Run.defer (i:=236) (first:=[]) (cap:=[.ptr (h.length+1) 0, .ptr (h.length+2) 0]) rfl rfl rfl aA ?_;refine zor ?_;have hs:=hs aB aB aB hf2 hd;refine Run.call (args:=[(Tm.mk k i nm ls ks).av,iA by_,iA fr]) rfl rfl aA rfl hs ?_ ?_
  ·intro v h' hR
   cases hbo:gV by_ fr (.mk k i nm ls ks) with
   |bad e s'=>rw[hbo] at hR;simp[iZ] at hR
   |ok t' s'=>
    rw[hbo] at hR;simp only[iZ,AOut.ret.injEq] at hR;obtain⟨rfl,rfl⟩:=hR;obtain⟨k',i',nm',ls',ks'⟩:=t';refine zox ?_;simp only[wX];refine⟨by simp,rfl,_,aCr _ (hh.app aA) (h.length+1) (h.length+2),?_⟩;refine Fin.ret' (h0:=h) aA rfl hh rfl aE rfl (Weak.refl _) aA ⟨by simp[bG9],rfl⟩
  ·intro v h' hR
   cases hbo:gV by_ fr (.mk k i nm ls ks) with
   |ok t' s'=>rw[hbo] at hR;simp[iZ] at hR
   |bad e s'=>
    rw[hbo] at hR;simp only[iZ,AOut.panic.injEq] at hR;obtain⟨rfl,rfl⟩:=hR;simp only[wX];refine⟨by simp,rfl,_,zY _ (hh.app aA) (h.length+1) (h.length+2) (by simp;exact⟨rfl,rfl,rfl,rfl,rfl⟩) aE aB e,?_⟩;simp;refine Fin.ret' (h0:=h) (xs:=[.agg zTm,iA e]) aA rfl hh rfl aA rfl (Weak.tup (WeakL.cons Weak.zT (WeakL.refl _))) aA ⟨by simp[bG9],rfl⟩
 ·refine nU c1 ?_;simp only[wX];exact y2s
 ·refine wP c1 c2 ?_;simp only[wX];exact y2s
 ·refine aDh c1 c2 c3 ?_;simp only[wX];exact y2s
end Go.Proofs.YtplomildbmcmfaaGreat
