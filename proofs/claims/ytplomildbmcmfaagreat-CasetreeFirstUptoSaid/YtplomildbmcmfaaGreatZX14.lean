import Derived.Test.YtplomildbmcmfaaGreatZA0
import Derived.Test.YtplomildbmcmfaaGreatZT8
import Derived.Test.YtplomildbmcmfaaGreatZT7
import Derived.Test.YtplomildbmcmfaaGreatZFG
import Derived.Test.YtplomildbmcmfaaGreatZX3
import Derived.Test.YtplomildbmcmfaaGreatZM1
set_option maxRecDepth 8000
set_option maxHeartbeats 32000000
namespace Go.Proofs.YtplomildbmcmfaaGreat
open Go Go.AI
abbrev SpI:=Option (List Tm×Heap×Nat)
def spA:SpI->List Tm
 |none=>[]
 |some (a,_,_)=>a
def spV (n:Nat):SpI->AV
 |none=> .p (.prim (.slice none 0 0))
 |some (a,G,c)=> .sm (n+2+G.length) 0 a.length c 5
def spB:SpI->Heap
 |none=>[]
 |some (a,G,c)=>G++[row a (c-a.length)]
def SpOk (h:Heap):SpI->Prop
 |none=>True
 |some (a,G,c)=>a.length<=c/\0<a.length/\∀x y:Option AO,(∀n,AO.under n x=true)->(∀n,AO.under n y=true)->WF (h++x::y::G)
theorem rJ (h:Heap)(hh:WF h)(t:Tm)(hsz:t.size<=1048576):
  ACalls Tryz.prog 195 [t.av] h fun o h'=>o= .ret (.tup [(bN t).1.av, .p (.sl 5 (tmPs (bN t).2))])/\h'=h:=by
 obtain⟨r,hr⟩:∃r,r=bN t:=⟨_,rfl⟩;rw[<-hr];obtain⟨tc,htc⟩:∃tc,tc=t.cells.map AV.p:=⟨_,rfl⟩;simp only[Tm.av];rw[<-htc];have htl:tc.length=5:=by rw[htc];simp
 refine dE Tryz.func195 Tryz.ntmps195 ?_;rw[htc]
 refine Run.loopS (ι:=SpI×Tm) [1,2,3] (fun p=>SpOk h p.1/\(spA p.1).length+p.2.size<=t.size/\r=((bN p.2).1,(bN p.2).2++(spA p.1).reverse)) (fun p=>p.2.size) (fun p=>[(4,spV h.length p.1)])
  (fun p=>h++some (.cells (p.2.cells.map .p))::some (.cells zTm)::spB p.1) (none,t) ⟨trivial,by simp[spA],by simp[spA,hr]⟩ ?_ (by simp[spB]) ?_
 ·simp[spV];exact zK
 rintro⟨st,cur⟩ ⟨hok,hle,hra⟩ IH;simp only at hok hle hra IH;simp;obtain⟨k,i,nm,ls,ks⟩:=cur
 cases hb:isB 4 (Tm.mk k i nm ls ks) with
 |none=>
  have hc:(k==4)=false\/(k=4/\((ks.length:Int)==2)=false):=by
   by_cases hk:k=4
   ·refine .inr ⟨hk,?_⟩;subst hk
    match ks,hb with
    |[],_=>rfl
    |[_],_=>rfl
    |[_,_],hb=>simp[isB] at hb
    |_::_::_::q,_=>simp;omega
   ·exact .inl (by simpa using hk)
  rw[zJ hb] at hra;simp only[bM4] at hra;subst hra;rcases hc with hc|⟨rfl,hc⟩
  ·refine znr1fen hc ?_
   match st,hok with
   |none,_=>
    refine yu ?_;refine Fin.ret' (h0:=h) (xs:=[.agg [.p (iP k), .p (iP i), .p (sP nm), .p (.sl 2 (lvPs ls)), .p (.sl 5 (tmPs ks))], .p (.prim (.slice none 0 0))]) aA rfl hh rfl aA rfl (Weak.tup (WeakL.cons (Weak.refl _) (WeakL.cons (Weak.nil 5) WeakL.nil))) aA ⟨by simp[tmPs],rfl⟩
   |some (acc,G,cap),hok=>
    exact y2b
  ·refine znr1fen hc ?_
   match st,hok with
   |none,_=>
    refine yu ?_;refine Fin.ret' (h0:=h) (xs:=[.agg [.p (iP 4), .p (iP i), .p (sP nm), .p (.sl 2 (lvPs ls)), .p (.sl 5 (tmPs ks))], .p (.prim (.slice none 0 0))]) aA rfl hh rfl aA rfl (Weak.tup (WeakL.cons (Weak.refl _) (WeakL.cons (Weak.nil 5) WeakL.nil))) aA ⟨by simp[tmPs],rfl⟩
   |some (acc,G,cap),hok=>
    exact y2b
 |some p=>
  obtain⟨f,a⟩:=p
  obtain⟨rfl,rfl⟩:k=4/\ks=[f,a]:=by
   match ks,hb with
   |[x,y],hb=>
    simp only[isB] at hb;split at hb
    ·rename_i hk
     injection hb with hb;injection hb with h1 h2
     exact⟨hk,by rw[h1,h2]⟩
    ·cases hb
  have hst:=vW hb;simp only[Tm.size,Tm.sizes] at hle;have hfp:=f.size_pos;have hap:=a.size_pos;rw[hst] at hra;simp only[bMj] at hra
  match st,hok with
  |none,_=>
   simp only[spV,spB];refine znrt ?_;refine Run.regPre 6 fun K J=>?_
   refine yd ?_;simp[tmPs];refine zi ?_;clear J;refine yb ?_;refine Run.appendN (ys:=[a.cells]) (sz:=5) (by_:=80) (e:=26) rfl rfl rfl rfl rfl rfl aA aA aA aA aA aA fun c' hc'=>?_
   refine zor ?_;refine IH (some ([a],[],c'),f) _ _ ⟨⟨by simpa using hc',by simp,fun x y hx hy=>hh.app (by simp only[List.all_cons,hx,hy,List.all_nil,Bool.and_self])⟩,by simp[spA] at hle⊢;omega,by simp[spA];simpa [spA] using hra⟩ (by simp only[Tm.size,Tm.sizes];omega) ?_ ?_
   ·simp[spV];exact zK
   ·simp[spB,row,tmPs]
  |some (acc,G,cap),hok=>
   obtain⟨hcap,hpos,hW⟩:=hok;simp only[spA] at hle hra
   have hget:∀(x y o:Option AO),(h++x::y::(G++[o]))[h.length+2+G.length]?=some o:=fun x y o=>by
    rw[show h++x::y::(G++[o])=(h++[x,y]++G)++[o] by simp,bN8 (by simp<;>omega),show h.length+2+G.length-(h++[x,y]++G).length=0 by simp<;>omega];rfl
   have hset:∀(x y o o':Option AO),(h++x::y::(G++[o])).set (h.length+2+G.length) o'=h++x::y::(G++[o']):=fun x y o o'=>by
    rw[show h++x::y::(G++[o])=(h++[x,y]++G)++[o] by simp,bNf _ _ (by simp<;>omega),show h.length+2+G.length-(h++[x,y]++G).length=0 by simp<;>omega];simp
   simp only[spV,spB];refine znrt ?_;refine Run.regPre 6 fun K J=>?_
   refine yd ?_;simp[tmPs];refine zi ?_;clear J;refine yb ?_;refine Run.appendS (id:=h.length+2+G.length) (es:=tmPs acc) (ys:=[a.cells]) (cap:=cap) (sz:=5) (by_:=80) (e:=26) rfl rfl rfl rfl rfl rfl aA (by simp only[Heap.at];rw[hget];simp only[rP];rfl) (tmPs_len5 _) (by simpa using hcap) aA aA aA (by simp;omega) (by simp;omega) ?_ ?_
   ·intro hc1;rw[hset];refine zor ?_;refine IH (some (acc++[a],G,cap),f) _ _ ⟨⟨by simpa using hc1,by simp,hW⟩,by simp[spA];omega,by simp[spA];simpa using hra⟩ (by simp only[Tm.size,Tm.sizes];omega) ?_ ?_
    ·simp[spV];exact zK
    ·simp[spB,row,tmPs_snoc]
   ·intro c' hc1;refine zor ?_;refine IH (some (acc++[a],G++[row acc (cap-acc.length)],c'),f) _ _ ⟨⟨by simpa using hc1,by simp,fun x y hx hy=>?_⟩,by simp[spA];omega,by simp[spA];simpa using hra⟩ (by simp only[Tm.size,Tm.sizes];omega) ?_ ?_
    ·have:=(hW x y hx hy).app (l:=[row acc (cap-acc.length)]) (by simp only[List.all_cons,row_under,List.all_nil,Bool.and_self]);simpa using this
    ·simp[spV]
     repeat' first|exact wn|apply wc
     all_goals first|exact Weak.junk _|exact Weak.refl _|exact Weak.of_eq (by congr 1;omega)
    ·simp[spB,row,tmPs_snoc]
end Go.Proofs.YtplomildbmcmfaaGreat
namespace Go.Proofs.YtplomildbmcmfaaGreat.aw05
open Go Go.AI
def nat:Tm:=aP0 [78,97,116]
def kv:Tm:=aP0 [86,101,99]
def ke:Tm:=aP0 [69,113]
def z:Tm:=aP0 [122,101,114,111]
def s:Tm:=aP0 [115,111,109,101]
def vec:Tm:=aOz kv (vr 0)
def eq:Tm:=aOz (aOz ke (vr 1)) (vr 0)
def ps:Tm:=bGk 6 [nat,vec] eq
def lk:Tm:=aOz kv (vr 2)
def it:Tm:=aOz (aOz ke z) s
theorem r1:aU ps 2=([nat,vec],eq,0):=aC
theorem r2:aU ps 3=([],zT,13):=aC
theorem r3:aXa [nat,vec,nat] 1=(lk,0):=aC
theorem r4:aX9 [nat,vec] eq [z,s]=(it,0):=aC
theorem r5:bE1 3 1=[vr 3,vr 2,vr 1]:=aC
theorem o1:nat.ok 65536/\nat.size<=1048576:=by simp[nat,aP0,Tm.ok,Tm.oks,Tm.okN,Tm.size,Tm.sizes]
theorem o2:vec.ok 65536/\vec.size<=1048576:=by simp[vec,kv,aOz,aP0,vr,Tm.ok,Tm.oks,Tm.okN,Tm.size,Tm.sizes,aI]
theorem o3:eq.ok 65536/\eq.size<=4096:=by simp[eq,ke,aOz,aP0,vr,Tm.ok,Tm.oks,Tm.okN,Tm.size,Tm.sizes,aI]
theorem o4:z.ok 65536/\z.size<=4096:=by simp[z,aP0,Tm.ok,Tm.oks,Tm.okN,Tm.size,Tm.sizes]
theorem o5:s.ok 65536/\s.size<=4096:=by simp[s,aP0,Tm.ok,Tm.oks,Tm.okN,Tm.size,Tm.sizes]
theorem sm (t:Tm)(ht:t.ok 65536/\t.size<=4096)(g:Heap)(hg:WF g):ACalls Tryz.prog 23 [t.av,t.av] g fun o h'=>o= .ret (bA true)/\h'=g:=by
 have:=kH t.size t t g (bLx _) (by have:=ht.2;omega) (aEv _ _ ht.1) hg
 rwa [kG] at this
theorem sl (l:List Tm)(hl:l.length<=100)(hx:∀t∈l,t.ok 65536/\t.size<=1048576)(g:Heap)(hg:WF g):ACalls Tryz.prog 278 [.p (.sl 5 (tmPs l)), .p (.sl 5 (tmPs l))] g fun o h'=>o= .ret (bA true)/\h'=g:=by
 have:=aNn g hg l l aB (fun u hu=>⟨aEv _ _ (hx u hu).1,by have:=(hx u hu).2;omega⟩)
 rwa [aHy] at this
end Go.Proofs.YtplomildbmcmfaaGreat.aw05
namespace Go.Proofs.YtplomildbmcmfaaGreat
open Go Go.AI
theorem aWg {vars:Int} {t:Tm} (hv:0<=vars)(hl:t.lvs)(h:aQ2 vars t=true):t.ok vars/\t.size<=120/\t.depth<=100:=by
 simp only[aQ2,bM8,bMi,beq_iff_eq,dK] at h;rw[if_neg (by omega:¬vars<0)] at h;obtain⟨⟨h1,h2⟩,h3⟩:=h
 by_cases hc:chk vars 8 100 100 0 t=0
 ·exact⟨by simpa using aTc vars 8 100 100 t 0 hl hc,by omega,by omega⟩
 ·rw[if_pos hc] at h3;exact absurd h3 hc
theorem aEr:zT.lvs/\zT.size<=1:=by simp[zT,Tm.lvs,Tm.lvss,Tm.size,Tm.sizes]
theorem aQh {k:Int} {t a b:Tm} (h:isB k t=some (a,b))(hl:t.lvs):a.lvs/\b.lvs/\a.size+b.size+1<=t.size:=by
 obtain⟨k',i,n,ls,ks⟩:=t
 match ks,h with
 |[x,y],h=>
  simp only[isB] at h;split at h
  ·injection h with h;injection h with h1 h2
   subst h1;subst h2;simp only[Tm.lvs,Tm.lvss,Tm.size,Tm.sizes] at hl⊢;exact⟨hl.2.2.1,hl.2.2.2.1,by omega⟩
  ·cases h
theorem aEx (M:Nat)(hM:1<=M):∀(n:Nat)(acc:List Tm)(t:Tm),(∀u∈acc,u.lvs/\u.size<=M)->t.lvs->t.size<=M->(∀u∈(gS n acc t).1,u.lvs/\u.size<=M)/\(gS n acc t).2.1.lvs/\(gS n acc t).2.1.size<=M/\(gS n acc t).1.length<=acc.length+t.size
 |0,acc,t,ha,hl,hs=>⟨ha,hl,hs,by simp only[gS];omega⟩
 |n+1,acc,t,ha,hl,hs=>by
  simp only[gS]
  cases hb:isB 6 t with
  |none=>exact⟨by simp,aEr.1,by have:=aEr.2;simp only;omega,by simp⟩
  |some p=>
   obtain⟨a,b⟩:=p;have h:=aQh hb hl;simp only
   have ih:=aEx M hM n (acc++[a]) b (fun u hu=>by
    rcases bMo.1 hu with hu|hu
    ·exact ha u hu
    ·simp at hu;subst hu;exact⟨h.1,by omega⟩) h.2.1 aB
   refine⟨ih.1,ih.2.1,ih.2.2.1,?_⟩;have:=ih.2.2.2;simp only[bM5,bNy] at this;omega
theorem uF (t:Tm)(n:Int)(hl:t.lvs):(∀u∈(aU t n).1,u.lvs/\u.size<=t.size)/\(aU t n).2.1.lvs/\(aU t n).2.1.size<=t.size/\(aU t n).1.length<=t.size:=by
 have:=t.size_pos;unfold aU
 by_cases h:n<0
 ·rw[if_pos h];exact⟨by simp,aEr.1,by have:=aEr.2;simp only;omega,by simp⟩
 ·rw[if_neg h];have:=aEx t.size aB n.toNat [] t aA hl (bLx _);simpa using this
theorem bLb (t:Tm)(hl:t.lvs)(hs:t.size<=1099511627776)(g:Heap)(hg:WF g):ACalls Tryz.prog 23 [t.av,t.av] g fun o h'=>o= .ret (bA true)/\h'=g:=by
 have:=kH t.size t t g (bLx _) hs hl hg
 rwa [kG] at this
open Go Go.AI
def mI {σ α:Type} (st:σ->α->σ×Bool):σ->List α->σ×Bool
 |s,[]=>(s,true)
 |s,x::l=>if(st s x).2=true then mI st (st s x).1 l else((st s x).1,false)
theorem fR {σ α:Type} (st:σ->α->σ×Bool):∀(l m:List α)(s:σ),mI st s (l++m)=if(mI st s l).2=true then mI st (mI st s l).1 m else((mI st s l).1,false)
 |[],m,s=>by simp[mI]
 |x::l,m,s=>by
  simp only[bLz,mI];split
  ·exact fR st l m _
  ·simp
theorem zO {σ α:Type} (st:σ->α->σ×Bool) {l m R:List α} {s:σ} (e:m=l++R)(h:(mI st s l).2=false):mI st s m=mI st s l:=by
 rw[e,fR,if_neg (by simp[h])];exact Prod.ext rfl h.symm
theorem nZ (d:Dc)(a:Int):∀(l m:List Ct)(i:Nat),jH d a (l++m) i=jH d a l i++jH d a m (i+l.length)
 |[],m,i=>by simp[jH]
 |x::l,m,i=>by simp only[bLz,jH,nZ d a l m (i+1)];simp[bO0,bOn 1]
theorem oB (d:Dc)(a:Int):∀(l m:List Fu)(i:Nat),jJ d a (l++m) i=jJ d a l i++jJ d a m (i+l.length)
 |[],m,i=>by simp[jJ]
 |x::l,m,i=>by simp only[bLz,jJ,oB d a l m (i+1)];simp[bO0,bOn 1]
theorem kF {σ α:Type} (st:σ->α->σ×Bool)(s:σ)(x:α):mI st s [x]=st s x:=by
 cases h:st s x with
 |mk a b=>cases b<;>simp[mI,h]
theorem tF (d:Dc)(a:Int):∀(l:List Ct)(i:Nat)(c:Ct),jH d a (l++[c]) i=jH d a l i++[(c.nm,⟨4,a,(i+l.length:Nat),d.ps,c.ty⟩)]
 |[],i,c=>by simp[jH]
 |x::l,i,c=>by simp only[bLz,jH,tF d a l (i+1) c];simp[bO0,bOn 1]
theorem tO (d:Dc)(a:Int):∀(l:List Fu)(i:Nat)(c:Fu),jJ d a (l++[c]) i=jJ d a l i++[(c.nm,⟨6,a,(i+l.length:Nat),d.ps,c.ty⟩)]
 |[],i,c=>by simp[jJ]
 |x::l,i,c=>by simp only[bLz,jJ,tO d a l (i+1) c];simp[bO0,bOn 1]
theorem aPt {σ:Type} (st:σ->(List UInt8×En)->σ×Bool)(Lv:σ->Prop)(hLv:∀s x,Lv s->(st s x).2=true->Lv (st s x).1)(y p q:Nat)(d:Dc)(a:Int)(hn:d.nm.length<=1099511627776)(hc:d.cs.length<=1048576)(hf:d.fs.length<=1048576)
  (s:σ) (B:σ->Heap) (n:Nat) (hls:Lv s) (hlen:∀s,(B s).length=n) (hwf:∀s,WF (B s)) (hp:∀s,(B s)[p]?=some (some (.cells [iA a]))) (hq:∀s,(B s)[q]?=some (some (.cells (d.cells.map .p))))
  (HY:∀s nm e l,Lv s->WF (B s++l)->AYield Tryz.prog y [.p (sP nm),En.av e] (B s++l) (fun o h'=>o= .ret (bA (st s (nm,e)).2)/\h'=B (st s (nm,e)).1++l)):
  ACalls Tryz.prog 351 [yv y, .ptr p 0, .ptr q 0] (B s) (fun o h'=>o= .ret (.tup [])/\h'=B (mI st s (kZ d a)).1):=by
 have hplt:=(bLw.1 (hp s)).1;have hqlt:=(bLw.1 (hq s)).1;rw[hlen] at hplt hqlt;have cp:∀s (l:List (Option AO)),(B s++l)[p]?=some (some (.cells [iA a])):=fun s l=>by rw[bM9 (by rw[hlen];exact hplt)];exact hp s
 have cq:∀s (l:List (Option AO)),(B s++l)[q]?=some (some (.cells (d.cells.map .p))):=fun s l=>by rw[bM9 (by rw[hlen];exact hqlt)];exact hq s
 have cp0:∀s,(B s)[p]?=some (some (.cells [iA a])):=hp;have cq0:∀s,(B s)[q]?=some (some (.cells (d.cells.map .p))):=hq;have gl:∀s (l:List (Option AO)) (k:Nat),(B s++l)[n+k]?=l[k]?:=fun s l k=>cG (hlen s)
 have gl0:∀s (l:List (Option AO)),(B s++l)[n]?=l[0]?:=fun s l=>eG (hlen s)
 have sl:∀s (l:List (Option AO)) (k:Nat) (o:Option AO),(B s++l).set (n+k) o=B s++l.set k o:=fun s l k o=>cH (hlen s)
 have sl0:∀s (l:List (Option AO)) (o:Option AO),(B s++l).set n o=B s++l.set 0 o:=fun s l o=>gU (hlen s)
 have wfl:∀s (l:List (Option AO)),l.all (AO.under (n+l.length))=true->WF (B s++l):=fun s l hl=>(hwf s).app (by rw[hlen];exact hl)
 have hk:=aLy d.k;obtain⟨r,hr⟩:∃r,r=mI st s (kZ d a):=⟨_,rfl⟩;rw[<-hr];unfold kZ at hr;have hcap:∀j,∃R,jH d a d.cs 0=jH d a (d.cs.take j) 0++R:=fun j=>⟨_,by rw[<-nZ,bN5]⟩
 have hfap:∀j,∃R,jJ d a d.fs 0=jJ d a (d.fs.take j) 0++R:=fun j=>⟨_,by rw[<-oB,bN5]⟩
 have hcsn:=fun l c=>tF d a l 0 c
 have hfsn:=fun l c=>tO d a l 0 c
 obtain⟨CE,hCE⟩:∃C,C=fun l=>jH d a l 0:=⟨_,rfl⟩
 obtain⟨FE,hFE⟩:∃C,C=fun l=>jJ d a l 0:=⟨_,rfl⟩
 have kc:∀l,jH d a l 0=CE l:=fun l=>by rw[hCE]
 have kf:∀l,jJ d a l 0=FE l:=fun l=>by rw[hFE]
 have ce0:CE []=[]:=by rw[hCE];rfl
 have fe0:FE []=[]:=by rw[hFE];rfl
 simp only[kc,kf] at hr hcsn hfsn hcap hfap;clear hCE hFE kc kf;obtain⟨k,nm,ps,⟨k1,i1,n1,l1,s1⟩,⟨k2,i2,n2,l2,s2⟩,fx,cs,rp,⟨k3,i3,n3,l3,s3⟩,rr,fs⟩:=d;simp only at hn hc hf hr hk hcsn hfsn hcap hfap;simp only[Dc.cells,cells_mk,List.map,bLz,bM4] at cq cq0 hq;refine zE Tryz.func351 Tryz.ntmps351 ?_;refine zn ?_;refine zr3 hlen cp0 cq0 ?_;refine zr1 cq ?_;rcases hk with rfl|rfl|rfl|rfl|rfl|⟨z0,z1,z2,z3,z4⟩
 ·rw[if_pos aB,kF] at hr;refine znrt ?_;refine zt ?_;refine zr3 gl0 sl0 cq ?_;refine zr2 gl0 cq ?_;have hy:=HY s nm ⟨0,a,0,ps, .mk k1 i1 n1 l1 s1⟩ [some (.cells [iA 0,iA a,iA 0,iA ps, .p (iP k1), .p (iP i1), .p (sP n1), .p (.sl 2 (lvPs l1)), .p (.sl 5 (tmPs s1))])] hls (wfl _ _ aA);simp only[En.av,En.cells,cells_mk,List.map] at hy;refine Run.yield rfl rfl aA hy ?_ ?_
  rotate_left
  ·rintro v h' ⟨hv,_⟩;cases hv
  rintro v h' ⟨hv,rfl⟩;exact y2t
 ·rw[if_pos aB,kF] at hr;refine znrfrt ?_;refine zt ?_;refine zr3 gl0 sl0 cq ?_;refine zr2 gl0 cq ?_;have hy:=HY s nm ⟨1,a,0,ps, .mk k1 i1 n1 l1 s1⟩ [some (.cells [iA 1,iA a,iA 0,iA ps, .p (iP k1), .p (iP i1), .p (sP n1), .p (.sl 2 (lvPs l1)), .p (.sl 5 (tmPs s1))])] hls (wfl _ _ aA);simp only[En.av,En.cells,cells_mk,List.map] at hy;refine Run.yield rfl rfl aA hy ?_ ?_
  rotate_left
  ·rintro v h' ⟨hv,_⟩;cases hv
  rintro v h' ⟨hv,rfl⟩;exact y2t
 ·rw[if_pos aB,kF] at hr;refine znrfrfrt ?_;refine zr3 gl0 sl0 cq ?_;refine zr2 gl0 cq ?_;have hy:=HY s nm ⟨2,a,0,ps, .mk k1 i1 n1 l1 s1⟩ [some (.cells [iA 2,iA a,iA 0,iA ps, .p (iP k1), .p (iP i1), .p (sP n1), .p (.sl 2 (lvPs l1)), .p (.sl 5 (tmPs s1))])] hls (wfl _ _ aA);simp only[En.av,En.cells,cells_mk,List.map] at hy;refine Run.yield rfl rfl aA hy ?_ ?_
  rotate_left
  ·rintro v h' ⟨hv,_⟩;cases hv
  rintro v h' ⟨hv,rfl⟩;exact y2t
 ·rw[if_neg aB,if_pos rfl] at hr;have hsz:nm.length+4<=9223372036854775807:=aB;refine aAi ?_;refine yl ?_;refine yl ?_;refine zt ?_;refine zr2 gl0 sl0 ?_;refine zr2 gl0 cq ?_;have hy:=HY s nm ⟨3,a,0,ps, .mk k1 i1 n1 l1 s1⟩ [some (.cells [iA 3,iA a,iA 0,iA ps, .p (iP k1), .p (iP i1), .p (sP n1), .p (.sl 2 (lvPs l1)), .p (.sl 5 (tmPs s1))])] hls (wfl _ _ aA);simp only[En.av,En.cells,cells_mk,List.map] at hy;refine Run.yield rfl rfl aA hy ?_ ?_
  rotate_left
  ·rintro v h' ⟨hv,_⟩;cases hv
  rintro v h' ⟨hv,rfl⟩;simp only[AOut.ret.injEq] at hv;subst hv;obtain⟨⟨s0,g0⟩,hst⟩:∃w,st s (nm,⟨3,a,0,ps, .mk k1 i1 n1 l1 s1⟩)=w:=⟨_,rfl⟩;have hl0:=hLv s (nm,⟨3,a,0,ps, .mk k1 i1 n1 l1 s1⟩) hls;simp only[mI] at hr;rw[hst] at hr hl0⊢;simp only at hr hl0⊢
  cases g0 with
  |false=>
   rw[if_neg aA] at hr;refine zotx ?_;exact Fin.ret' (h0:=B s0) aA (by rw[hlen,hlen]) (hwf _) rfl rfl rfl (Weak.refl _) rfl ⟨rfl,by rw[hr]⟩
  |true=>
  rw[if_pos rfl] at hr;have hl0:=hl0 rfl;refine zo ?_;refine zf ?_;refine zr1 cq ?_
  refine Run.loopS (ι:=Nat×σ) [0,1,2,4,42,43] (fun p=>p.1<=cs.length/\mI st s0 (CE (cs.take p.1))=(p.2,true)/\Lv p.2) (fun p=>cs.length-p.1) (fun p=>[(44,iA p.1)])
   (fun p=>B p.2++[some (.cells [iA 3,iA a,iA 0,iA ps, .p (iP k1), .p (iP i1), .p (sP n1), .p (.sl 2 (lvPs l1)), .p (.sl 5 (tmPs s1))])]) (0,s0) ⟨by simp,by simp[ce0,mI],hl0⟩ ?_ aA ?_
  ·exact zS
  rintro⟨j,sj⟩ ⟨hj,hvj,hlj⟩ IH;simp only at hj hvj hlj;refine cK ?_
  by_cases hjl:j<cs.length
  ·have hg:cs[j]?=some cs[j]:=bLv hjl;have htk:cs.take (j+1)=cs.take j++[cs[j]]:=bM6 hjl;have hsn:=hcsn (cs.take j) cs[j];rw[<-htk,bMw,bMn,bNc hj] at hsn;have hsp:=hcsn;generalize cs[j]=c at hg hsn htk;obtain⟨x,⟨k4,i4,n4,l4,s4⟩⟩:=c
   have hrn:mI st s0 (CE (cs.take (j+1)))=st sj (x,⟨4,a,j,ps, .mk k4 i4 n4 l4 s4⟩):=by
    rw[hsn,fR,hvj];simp only[if_true];exact kF _ _ _
   have hfull:(mI st s0 (CE (cs.take (j+1)))).2=false->r=(mI st s0 (CE (cs.take (j+1)))):=fun h2=>by
    obtain⟨R,hR⟩:=hcap (j+1);rw[hr];exact zO st (R:=R++[(nm++aIp,⟨5,a,0,rp, .mk k3 i3 n3 l3 s3⟩)]) (by rw[hR,bMj]) h2
   refine znt1 hjl ?_;refine aXv hg hlen ?_;refine zr3 gl cp cq ?_;have hy:=HY sj x ⟨4,a,j,ps, .mk k4 i4 n4 l4 s4⟩ [some (.cells [iA 3,iA a,iA 0,iA ps, .p (iP k1), .p (iP i1), .p (sP n1), .p (.sl 2 (lvPs l1)), .p (.sl 5 (tmPs s1))]),some (.cells [.p (sP x), .p (iP k4), .p (iP i4), .p (sP n4), .p (.sl 2 (lvPs l4)), .p (.sl 5 (tmPs s4))])] hlj (wfl _ _ aA);simp only[En.av,En.cells,cells_mk,List.map] at hy;refine Run.yield rfl rfl aA hy ?_ ?_
   rotate_left
   ·rintro v h' ⟨hv,_⟩;cases hv
   rintro v h' ⟨hv,rfl⟩;simp only[AOut.ret.injEq] at hv;subst hv;obtain⟨⟨s2',g2⟩,hst2⟩:∃w,st sj (x,⟨4,a,j,ps, .mk k4 i4 n4 l4 s4⟩)=w:=⟨_,rfl⟩;have hl2:=hLv sj (x,⟨4,a,j,ps, .mk k4 i4 n4 l4 s4⟩) hlj;rw[hst2] at hrn hl2⊢;simp only at hl2⊢
   cases g2 with
   |false=>
    exact y57
   |true=>
    refine zofr ?_;refine Run.keep [0,1,2,4,42,43,44] ?_;exact y6m
  ·have hje:j=cs.length:=aB;subst hje;rw[bMm] at hvj;rw[fR,hvj] at hr;simp only[if_true] at hr;rw[kF] at hr;refine znfen ?_;refine zr3 cp cq hsz ?_;have hy:=HY sj (nm++aIp) ⟨5,a,0,rp, .mk k3 i3 n3 l3 s3⟩ [some (.cells [iA 3,iA a,iA 0,iA ps, .p (iP k1), .p (iP i1), .p (sP n1), .p (.sl 2 (lvPs l1)), .p (.sl 5 (tmPs s1))])] hlj (wfl _ _ aA);simp only[En.av,En.cells,cells_mk,List.map] at hy;simp only[aIp] at hy hr;refine Run.yield rfl rfl aA hy ?_ ?_
   rotate_left
   ·rintro v h' ⟨hv,_⟩;cases hv
   rintro v h' ⟨hv,rfl⟩;exact y2t
 ·rw[if_neg aB,if_neg aB,if_pos rfl] at hr;refine aAi ?_;refine yl ?_;refine yl ?_;refine yl ?_;refine zt ?_;refine zr1 cq ?_
  refine Run.loopS (ι:=Nat×σ) [0,1,2,78,79] (fun p=>p.1<=fs.length/\mI st s (FE (fs.take p.1))=(p.2,true)/\Lv p.2) (fun p=>fs.length-p.1) (fun p=>[(80,iA p.1)])
   (fun p=>B p.2++[some (.cells [iA 0,iA a,iA 0,iA ps, .p (iP k1), .p (iP i1), .p (sP n1), .p (.sl 2 (lvPs l1)), .p (.sl 5 (tmPs s1))])]) (0,s) ⟨by simp,by simp[fe0,mI],hls⟩ ?_ aA ?_
  ·exact zS
  rintro⟨j,sj⟩ ⟨hj,hvj,hlj⟩ IH;simp only at hj hvj hlj;refine cK ?_
  by_cases hjl:j<fs.length
  ·have hg:fs[j]?=some fs[j]:=bLv hjl;have htk:fs.take (j+1)=fs.take j++[fs[j]]:=bM6 hjl;have hsn:=hfsn (fs.take j) fs[j];rw[<-htk,bMw,bMn,bNc hj] at hsn;generalize fs[j]=c at hg hsn htk;obtain⟨x,⟨k4,i4,n4,l4,s4⟩,w,⟨w1,⟨w2,w3,w4,w5,w6⟩,w7,w8⟩⟩:=c
   have hrn:mI st s (FE (fs.take (j+1)))=st sj (x,⟨6,a,j,ps, .mk k4 i4 n4 l4 s4⟩):=by
    rw[hsn,fR,hvj];simp only[if_true];exact kF _ _ _
   have hfull:(mI st s (FE (fs.take (j+1)))).2=false->r=(mI st s (FE (fs.take (j+1)))):=fun h2=>by
    obtain⟨R,hR⟩:=hfap (j+1);rw[hr];exact zO st hR h2
   refine znt1 hjl ?_;refine bLp hg hlen ?_;refine zr3 gl cp cq ?_;have hy:=HY sj x ⟨6,a,j,ps, .mk k4 i4 n4 l4 s4⟩ [some (.cells [iA 0,iA a,iA 0,iA ps, .p (iP k1), .p (iP i1), .p (sP n1), .p (.sl 2 (lvPs l1)), .p (.sl 5 (tmPs s1))]),some (.cells [.p (sP x), .p (iP k4), .p (iP i4), .p (sP n4), .p (.sl 2 (lvPs l4)), .p (.sl 5 (tmPs s4)), .p (iP w), .p (iP w1), .p (iP w2), .p (iP w3), .p (sP w4), .p (.sl 2 (lvPs w5)), .p (.sl 5 (tmPs w6)), .p (iP w7), .p (.sl 10 (w8.map Br.cells))])] hlj (wfl _ _ aA);simp only[En.av,En.cells,cells_mk,List.map] at hy;refine Run.yield rfl rfl aA hy ?_ ?_
   rotate_left
   ·rintro v h' ⟨hv,_⟩;cases hv
   rintro v h' ⟨hv,rfl⟩;simp only[AOut.ret.injEq] at hv;subst hv;obtain⟨⟨s2',g2⟩,hst2⟩:∃w,st sj (x,⟨6,a,j,ps, .mk k4 i4 n4 l4 s4⟩)=w:=⟨_,rfl⟩;have hl2:=hLv sj (x,⟨6,a,j,ps, .mk k4 i4 n4 l4 s4⟩) hlj;rw[hst2] at hrn hl2⊢;simp only at hl2⊢
   cases g2 with
   |false=>
    exact y57
   |true=>
    refine zofr ?_;refine Run.keep [0,1,2,78,79,80] ?_;exact y6m
  ·have hje:j=fs.length:=aB;subst hje;rw[bMm] at hvj;rw[hvj] at hr;refine znfen ?_;refine Run.nil ?_;exact Fin.ret' (h0:=B sj) aA (by rw[hlen,hlen]) (hwf _) rfl rfl rfl (Weak.refl _) rfl ⟨rfl,by rw[hr]⟩
 ·rw[if_neg (by simp at z0 z1 z2;omega),if_neg (by simpa using z3),if_neg (by simpa using z4)] at hr;simp only[mI] at hr;refine cY z0 z1 z2 z3 ?_;refine zr1 z4 ?_;refine zf ?_;refine Run.nil ?_;exact Fin.ret' (h0:=B s) aA (by rw[hlen]) (hwf _) rfl rfl rfl (Weak.refl _) rfl ⟨rfl,by rw[hr]⟩
end Go.Proofs.YtplomildbmcmfaaGreat
