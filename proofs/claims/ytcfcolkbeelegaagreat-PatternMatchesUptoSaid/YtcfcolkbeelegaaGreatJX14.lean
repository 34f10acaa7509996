import Derived.Test.YtcfcolkbeelegaaGreatJA0
import Derived.Test.YtcfcolkbeelegaaGreatJT8
import Derived.Test.YtcfcolkbeelegaaGreatJX2
import Derived.Test.YtcfcolkbeelegaaGreatJFL
import Derived.Test.YtcfcolkbeelegaaGreatJX4
import Derived.Test.YtcfcolkbeelegaaGreatJH5
set_option maxRecDepth 8000
set_option maxHeartbeats 32000000
namespace Go.Proofs.YtcfcolkbeelegaaGreat
open Go Go.AI
abbrev SpI:=Option (List Tm×Heap×Nat)
def spA:SpI->List Tm
 |none=>[]
 |some (a,_,_)=>a
def spV (n:Nat):SpI->AV
 |none=> .p (.prim (.slice none 0 0))
 |some (a,G,c)=> .sm (n+2+G.length) 0 a.length c 5
def spB:SpI->Heap
 |none=>[]
 |some (a,G,c)=>G++[row a (c-a.length)]
def SpOk (h:Heap):SpI->Prop
 |none=>True
 |some (a,G,c)=>a.length<=c/\0<a.length/\∀x y:Option AO,(∀n,AO.under n x=true)->(∀n,AO.under n y=true)->WF (h++x::y::G)
theorem aFb (h:Heap)(hh:WF h)(t:Tm)(hsz:t.size<=1048576):
  AC 174 [t.av] h (.tup [(aG t).1.av, .p (.sl 5 (aL (aG t).2))]):=by
 obtain⟨r,hr⟩:∃r,r=aG t:=⟨_,rfl⟩;rw[<-hr];obtain⟨tc,htc⟩:∃tc,tc=t.cells.map AV.p:=⟨_,rfl⟩;refine y28 ?_;have htl:tc.length=5:=by rw[htc];simp
 refine cW Tryz.func174 Tryz.ntmps174 ?_;rw[htc]
 refine Run.loopS (ι:=SpI×Tm) [1,2,3] (fun p=>SpOk h p.1/\(spA p.1).length+p.2.size<=t.size/\r=((aG p.2).1,(aG p.2).2++(spA p.1).reverse)) (fun p=>p.2.size) (fun p=>[(4,spV h.length p.1)])
  (fun p=>h++some (.cells (p.2.cells.map .p))::some (.cells zTm)::spB p.1) (none,t) ⟨trivial,by simp[spA],by simp[spA,hr]⟩ ?_ (by simp[spB]) ?_
 ·simp[spV];exact zK
 rintro⟨st,cur⟩ ⟨hok,hle,hra⟩ IH;simp only at hok hle hra IH;simp;obtain⟨k,i,nm,ls,ks⟩:=cur
 cases hb:isB 4 (Tm.mk k i nm ls ks) with
 |none=>
  have hc:(k==4)=false\/(k=4/\((ks.length:Int)==2)=false):=by
   exact y60
  rw[dL hb] at hra;simp only[aZ3] at hra;subst hra;rcases hc with hc|⟨rfl,hc⟩
  ·refine qJ hc ?_
   match st,hok with
   |none,_=>
    exact y51
   |some (acc,G,cap),hok=>
    obtain⟨hcap,hpos,hW⟩:=hok;simp only[spA] at hle;exact y2q
  ·refine qJ hc ?_
   match st,hok with
   |none,_=>
    exact y50
   |some (acc,G,cap),hok=>
    obtain⟨hcap,hpos,hW⟩:=hok;simp only[spA] at hle;exact y2q
 |some p=>
  obtain⟨f,a⟩:=p
  obtain⟨rfl,rfl⟩:k=4/\ks=[f,a]:=by
   match ks,hb with
   |[x,y],hb=>
    exact y7a
  have hst:=gV hb;simp only[Tm.size,Tm.sizes] at hle;have hfp:=f.size_pos;have hap:=a.size_pos;rw[hst] at hra;simp only[aZi] at hra
  match st,hok with
  |none,_=>
   exact y3l
  |some (acc,G,cap),hok=>
   exact y2y
open Go Go.AI
theorem aNq:∀(n:Nat)(t:Tm),(spG n t).2.length<=t.size
 |0,t=>by simp[spG]
 |n+1,t=>by
  simp only[spG]
  cases hb:isB 4 t with
  |none=>simp
  |some p=>
   obtain⟨f,a⟩:=p;have:=oJ hb;have:=aNq n f;simp;omega
theorem lF (t:Tm):(aG t).2.length<=t.size:=aNq _ _
end Go.Proofs.YtcfcolkbeelegaaGreat
namespace Go.Proofs.YtcfcolkbeelegaaGreat.aw05
open Go Go.AI
def nat:Tm:=aOo [78,97,116]
def kv:Tm:=aOo [86,101,99]
def ke:Tm:=aOo [69,113]
def z:Tm:=aOo [122,101,114,111]
def s:Tm:=aOo [115,111,109,101]
def vec:Tm:=vN kv (vr 0)
def eq:Tm:=vN (vN ke (vr 1)) (vr 0)
def ps:Tm:=aXt 6 [nat,vec] eq
def lk:Tm:=vN kv (vr 2)
def it:Tm:=vN (vN ke z) s
theorem r1:aN7 ps 2=([nat,vec],eq,0):=aC
theorem r2:aN7 ps 3=([],zT,13):=aC
theorem r3:aU9 [nat,vec,nat] 1=(lk,0):=aC
theorem r4:aU8 [nat,vec] eq [z,s]=(it,0):=aC
theorem r5:varL 3 1=[vr 3,vr 2,vr 1]:=aC
theorem o1:nat.ok 65536/\nat.size<=1048576:=by simp[nat,aOo,Tm.ok,Tm.oks,Tm.okN,Tm.size,Tm.sizes]
theorem o2:vec.ok 65536/\vec.size<=1048576:=by simp[vec,kv,vN,aOo,vr,Tm.ok,Tm.oks,Tm.okN,Tm.size,Tm.sizes,aO]
theorem o3:eq.ok 65536/\eq.size<=4096:=by simp[eq,ke,vN,aOo,vr,Tm.ok,Tm.oks,Tm.okN,Tm.size,Tm.sizes,aO]
theorem o4:z.ok 65536/\z.size<=4096:=by simp[z,aOo,Tm.ok,Tm.oks,Tm.okN,Tm.size,Tm.sizes]
theorem o5:s.ok 65536/\s.size<=4096:=by simp[s,aOo,Tm.ok,Tm.oks,Tm.okN,Tm.size,Tm.sizes]
theorem ov (i:Int)(h0:0<=i)(h1:i<65536):(vr i).ok 65536/\(vr i).size<=4096:=by
 simp[vr,Tm.ok,Tm.oks,Tm.okN,Tm.size,Tm.sizes];exact⟨h0,h1⟩
theorem sm (t:Tm)(ht:t.ok 65536/\t.size<=4096)(g:Heap)(hg:WF g):AC 18 [t.av,t.av] g (bA true):=by
 have:=sD t.size t t g (aYw _) (by have:=ht.2;omega) (aS6 _ _ ht.1) hg
 rwa [xA] at this
end Go.Proofs.YtcfcolkbeelegaaGreat.aw05
namespace Go.Proofs.YtcfcolkbeelegaaGreat
open Go Go.AI
theorem aPy {k:Int} {t a b:Tm} (h:isB k t=some (a,b))(hl:t.lvs):a.lvs/\b.lvs/\a.size+b.size+1<=t.size:=by
 obtain⟨k',i,n,ls,ks⟩:=t
 match ks,h with
 |[x,y],h=>
  simp only[isB] at h;split at h
  ·injection h with h;injection h with h1 h2
   subst h1;subst h2;simp only[Tm.lvs,Tm.lvss,Tm.size,Tm.sizes] at hl⊢;exact⟨hl.2.2.1,hl.2.2.2.1,by omega⟩
  ·cases h
theorem aDt (k:Int)(M:Nat):∀(n:Nat)(acc:List Tm)(t:Tm),(∀u∈acc,u.lvs/\u.size<=M)->t.lvs->t.size<=M->(∀u∈(aKa k n acc t).1,u.lvs/\u.size<=M)/\(aKa k n acc t).2.lvs/\(aKa k n acc t).2.size<=M/\(aKa k n acc t).1.length<=acc.length+t.size
 |0,acc,t,ha,hl,hs=>⟨ha,hl,hs,by simp only[aKa];omega⟩
 |n+1,acc,t,ha,hl,hs=>by
  simp only[aKa]
  cases hb:isB k t with
  |none=>exact⟨ha,hl,hs,by simp only;omega⟩
  |some p=>
   obtain⟨a,b⟩:=p;have h:=aPy hb hl;simp only
   have ih:=aDt k M n (acc++[a]) b (fun u hu=>by
    rcases aZn.1 hu with hu|hu
    ·exact ha u hu
    ·simp at hu;subst hu;exact⟨h.1,by omega⟩) h.2.1 aB
   refine⟨ih.1,ih.2.1,ih.2.2.1,?_⟩;have:=ih.2.2.2;simp only[aZ4,bAx] at this;omega
theorem aN6 (t:Tm)(hl:t.lvs):(∀u∈(bY t).1,u.lvs/\u.size<=t.size)/\(bY t).2.lvs/\(bY t).2.size<=t.size/\(bY t).1.length<=t.size:=by
 have:=aDt 6 t.size t.size [] t aA hl (aYw _);simpa [bY] using this
open Go Go.AI
def oV {σ α:Type} (st:σ->α->σ×Bool):σ->List α->σ×Bool
 |s,[]=>(s,true)
 |s,x::l=>if(st s x).2=true then oV st (st s x).1 l else((st s x).1,false)
theorem iH {σ α:Type} (st:σ->α->σ×Bool):∀(l m:List α)(s:σ),oV st s (l++m)=if(oV st s l).2=true then oV st (oV st s l).1 m else((oV st s l).1,false)
 |[],m,s=>by simp[oV]
 |x::l,m,s=>by
  simp only[aYy,oV];split
  ·exact iH st l m _
  ·simp
theorem aCm {σ α:Type} (st:σ->α->σ×Bool) {l m R:List α} {s:σ} (e:m=l++R)(h:(oV st s l).2=false):oV st s m=oV st s l:=by
 rw[e,iH,if_neg (by simp[h])];exact Prod.ext rfl h.symm
theorem qQ (d:Dc)(a:Int):∀(l m:List Ct)(i:Nat),kR d a (l++m) i=kR d a l i++kR d a m (i+l.length)
 |[],m,i=>by simp[kR]
 |x::l,m,i=>by simp only[aYy,kR,qQ d a l m (i+1)];simp[bAz,bBm 1]
theorem qT (d:Dc)(a:Int):∀(l m:List Fu)(i:Nat),kU d a (l++m) i=kU d a l i++kU d a m (i+l.length)
 |[],m,i=>by simp[kU]
 |x::l,m,i=>by simp only[aYy,kU,qT d a l m (i+1)];simp[bAz,bBm 1]
theorem mC {σ α:Type} (st:σ->α->σ×Bool)(s:σ)(x:α):oV st s [x]=st s x:=by
 cases h:st s x with
 |mk a b=>cases b<;>simp[oV,h]
theorem wB (d:Dc)(a:Int):∀(l:List Ct)(i:Nat)(c:Ct),kR d a (l++[c]) i=kR d a l i++[(c.nm,⟨4,a,(i+l.length:Nat),d.ps,c.ty⟩)]
 |[],i,c=>by simp[kR]
 |x::l,i,c=>by simp only[aYy,kR,wB d a l (i+1) c];simp[bAz,bBm 1]
theorem wK (d:Dc)(a:Int):∀(l:List Fu)(i:Nat)(c:Fu),kU d a (l++[c]) i=kU d a l i++[(c.nm,⟨6,a,(i+l.length:Nat),d.ps,c.ty⟩)]
 |[],i,c=>by simp[kU]
 |x::l,i,c=>by simp only[aYy,kU,wK d a l (i+1) c];simp[bAz,bBm 1]
theorem aPi {σ:Type} (st:σ->(List UInt8×En)->σ×Bool)(Lv:σ->Prop)(hLv:∀s x,Lv s->(st s x).2=true->Lv (st s x).1)(y p q:Nat)(d:Dc)(a:Int)(hn:d.nm.length<=1099511627776)(hc:d.cs.length<=1048576)(hf:d.fs.length<=1048576)
  (s:σ) (B:σ->Heap) (n:Nat) (hls:Lv s) (hlen:∀s,(B s).length=n) (hwf:∀s,WF (B s)) (hp:∀s,(B s)[p]?=some (some (.cells [iA a]))) (hq:∀s,(B s)[q]?=some (some (.cells (d.cells.map .p))))
  (HY:∀s nm e l,Lv s->WF (B s++l)->AYield Tryz.prog y [.p (sP nm),En.av e] (B s++l) (fun o h'=>o= .ret (bA (st s (nm,e)).2)/\h'=B (st s (nm,e)).1++l)):
  ACalls Tryz.prog 259 [yv y, .ptr p 0, .ptr q 0] (B s) (fun o h'=>o= .ret (.tup [])/\h'=B (oV st s (nB d a)).1):=by
 have hplt:=(aYv.1 (hp s)).1;have hqlt:=(aYv.1 (hq s)).1;rw[hlen] at hplt hqlt;have cp:∀s (l:List (Option AO)),(B s++l)[p]?=some (some (.cells [iA a])):=fun s l=>by rw[aZ8 (by rw[hlen];exact hplt)];exact hp s
 have cq:∀s (l:List (Option AO)),(B s++l)[q]?=some (some (.cells (d.cells.map .p))):=fun s l=>by rw[aZ8 (by rw[hlen];exact hqlt)];exact hq s
 have cp0:∀s,(B s)[p]?=some (some (.cells [iA a])):=hp;have cq0:∀s,(B s)[q]?=some (some (.cells (d.cells.map .p))):=hq;have gl:∀s (l:List (Option AO)) (k:Nat),(B s++l)[n+k]?=l[k]?:=fun s l k=>eG (hlen s)
 have gl0:∀s (l:List (Option AO)),(B s++l)[n]?=l[0]?:=fun s l=>fV (hlen s)
 have sl:∀s (l:List (Option AO)) (k:Nat) (o:Option AO),(B s++l).set (n+k) o=B s++l.set k o:=fun s l k o=>eU (hlen s)
 have sl0:∀s (l:List (Option AO)) (o:Option AO),(B s++l).set n o=B s++l.set 0 o:=fun s l o=>jK (hlen s)
 have wfl:∀s (l:List (Option AO)),l.all (AO.under (n+l.length))=true->WF (B s++l):=fun s l hl=>(hwf s).app (by rw[hlen];exact hl)
 have hk:=aM4 d.k;obtain⟨r,hr⟩:∃r,r=oV st s (nB d a):=⟨_,rfl⟩;rw[<-hr];unfold nB at hr;have hcap:∀j,∃R,kR d a d.cs 0=kR d a (d.cs.take j) 0++R:=fun j=>⟨_,by rw[<-qQ,bA4]⟩
 have hfap:∀j,∃R,kU d a d.fs 0=kU d a (d.fs.take j) 0++R:=fun j=>⟨_,by rw[<-qT,bA4]⟩
 have hcsn:=fun l c=>wB d a l 0 c
 have hfsn:=fun l c=>wK d a l 0 c
 obtain⟨CE,hCE⟩:∃C,C=fun l=>kR d a l 0:=⟨_,rfl⟩
 obtain⟨FE,hFE⟩:∃C,C=fun l=>kU d a l 0:=⟨_,rfl⟩
 have kc:∀l,kR d a l 0=CE l:=fun l=>by rw[hCE]
 have kf:∀l,kU d a l 0=FE l:=fun l=>by rw[hFE]
 have ce0:CE []=[]:=by rw[hCE];rfl
 have fe0:FE []=[]:=by rw[hFE];rfl
 simp only[kc,kf] at hr hcsn hfsn hcap hfap;clear hCE hFE kc kf;obtain⟨k,nm,ps,⟨k1,i1,n1,l1,s1⟩,⟨k2,i2,n2,l2,s2⟩,fx,cs,rp,⟨k3,i3,n3,l3,s3⟩,rr,fs⟩:=d;simp only at hn hc hf hr hk hcsn hfsn hcap hfap;simp only[Dc.cells,aH,List.map,aYy,aZ3] at cq cq0 hq;refine zE Tryz.func259 Tryz.ntmps259 ?_;refine zn ?_;refine zr3 hlen cp0 cq0 ?_;refine zr1 cq ?_;rcases hk with rfl|rfl|rfl|rfl|rfl|⟨z0,z1,z2,z3,z4⟩
 ·rw[if_pos aB,mC] at hr;refine aI3 ?_;refine zt ?_;refine Run.reg fun K J=>?_
  simp[gl0,sl0,cq];refine zj ?_;clear J;refine Run.reg fun K J=>?_
  simp[gl0,cq];refine zj ?_;clear J;have hy:=HY s nm ⟨0,a,0,ps, .mk k1 i1 n1 l1 s1⟩ [some (.cells [iA 0,iA a,iA 0,iA ps, .p (iP k1), .p (iP i1), .p (sP n1), .p (.sl 2 (aW l1)), .p (.sl 5 (aL s1))])] hls (wfl _ _ aA);simp only[En.av,En.cells,aH,List.map] at hy;refine Run.yield rfl rfl aA hy ?_ ?_
  rotate_left
  ·rintro v h' ⟨hv,_⟩;cases hv
  rintro v h' ⟨hv,rfl⟩;exact y3q
 ·rw[if_pos aB,mC] at hr;refine aFw ?_;refine Run.reg fun K J=>?_
  simp[gl0,sl0,cq];refine zj ?_;clear J;refine Run.reg fun K J=>?_
  simp[gl0,cq];refine zj ?_;clear J;have hy:=HY s nm ⟨1,a,0,ps, .mk k1 i1 n1 l1 s1⟩ [some (.cells [iA 1,iA a,iA 0,iA ps, .p (iP k1), .p (iP i1), .p (sP n1), .p (.sl 2 (aW l1)), .p (.sl 5 (aL s1))])] hls (wfl _ _ aA);simp only[En.av,En.cells,aH,List.map] at hy;refine Run.yield rfl rfl aA hy ?_ ?_
  rotate_left
  ·rintro v h' ⟨hv,_⟩;cases hv
  rintro v h' ⟨hv,rfl⟩;exact y3q
 ·rw[if_pos aB,mC] at hr;refine mE ?_;refine Run.reg fun K J=>?_
  simp[gl0,sl0,cq];refine zj ?_;clear J;refine Run.reg fun K J=>?_
  simp[gl0,cq];refine zj ?_;clear J;have hy:=HY s nm ⟨2,a,0,ps, .mk k1 i1 n1 l1 s1⟩ [some (.cells [iA 2,iA a,iA 0,iA ps, .p (iP k1), .p (iP i1), .p (sP n1), .p (.sl 2 (aW l1)), .p (.sl 5 (aL s1))])] hls (wfl _ _ aA);simp only[En.av,En.cells,aH,List.map] at hy;refine Run.yield rfl rfl aA hy ?_ ?_
  rotate_left
  ·rintro v h' ⟨hv,_⟩;cases hv
  rintro v h' ⟨hv,rfl⟩;exact y3q
 ·rw[if_neg aB,if_pos rfl] at hr;have hsz:nm.length+4<=9223372036854775807:=aB;refine xJ ?_;refine Run.reg fun K J=>?_
  simp[gl0,sl0];refine zj ?_;clear J;refine Run.reg fun K J=>?_
  simp[gl0,cq];refine zj ?_;clear J;have hy:=HY s nm ⟨3,a,0,ps, .mk k1 i1 n1 l1 s1⟩ [some (.cells [iA 3,iA a,iA 0,iA ps, .p (iP k1), .p (iP i1), .p (sP n1), .p (.sl 2 (aW l1)), .p (.sl 5 (aL s1))])] hls (wfl _ _ aA);simp only[En.av,En.cells,aH,List.map] at hy;refine Run.yield rfl rfl aA hy ?_ ?_
  rotate_left
  ·rintro v h' ⟨hv,_⟩;cases hv
  rintro v h' ⟨hv,rfl⟩;simp only[AOut.ret.injEq] at hv;subst hv;obtain⟨⟨s0,g0⟩,hst⟩:∃w,st s (nm,⟨3,a,0,ps, .mk k1 i1 n1 l1 s1⟩)=w:=⟨_,rfl⟩;have hl0:=hLv s (nm,⟨3,a,0,ps, .mk k1 i1 n1 l1 s1⟩) hls;simp only[oV] at hr;rw[hst] at hr hl0⊢;simp only at hr hl0⊢
  cases g0 with
  |false=>
   rw[if_neg aA] at hr;refine zotx ?_;exact Fin.ret' (h0:=B s0) aA (by rw[hlen,hlen]) (hwf _) rfl rfl rfl (Weak.refl _) rfl ⟨rfl,by rw[hr]⟩
  |true=>
  rw[if_pos rfl] at hr;have hl0:=hl0 rfl;refine zo ?_;refine zf ?_;refine zr1 cq ?_
  refine Run.loopS (ι:=Nat×σ) [0,1,2,4,42,43] (fun p=>p.1<=cs.length/\oV st s0 (CE (cs.take p.1))=(p.2,true)/\Lv p.2) (fun p=>cs.length-p.1) (fun p=>[(44,iA p.1)])
   (fun p=>B p.2++[some (.cells [iA 3,iA a,iA 0,iA ps, .p (iP k1), .p (iP i1), .p (sP n1), .p (.sl 2 (aW l1)), .p (.sl 5 (aL s1))])]) (0,s0) ⟨by simp,by simp[ce0,oV],hl0⟩ ?_ aA ?_
  ·exact zS
  rintro⟨j,sj⟩ ⟨hj,hvj,hlj⟩ IH;simp only at hj hvj hlj;refine cI ?_
  by_cases hjl:j<cs.length
  ·have hg:cs[j]?=some cs[j]:=aYu hjl;have htk:cs.take (j+1)=cs.take j++[cs[j]]:=aZ5 hjl;have hsn:=hcsn (cs.take j) cs[j];rw[<-htk,aZv,aZm,bAb hj] at hsn;have hsp:=hcsn;generalize cs[j]=c at hg hsn htk;obtain⟨x,⟨k4,i4,n4,l4,s4⟩⟩:=c
   have hrn:oV st s0 (CE (cs.take (j+1)))=st sj (x,⟨4,a,j,ps, .mk k4 i4 n4 l4 s4⟩):=by
    rw[hsn,iH,hvj];simp only[if_true];exact mC _ _ _
   have hfull:(oV st s0 (CE (cs.take (j+1)))).2=false->r=(oV st s0 (CE (cs.take (j+1)))):=fun h2=>by
    obtain⟨R,hR⟩:=hcap (j+1);rw[hr];exact aCm st (R:=R++[(nm++aJf,⟨5,a,0,rp, .mk k3 i3 n3 l3 s3⟩)]) (by rw[hR,aZi]) h2
   refine dF hjl ?_;refine aUn hg hlen ?_;refine Run.reg fun K J=>?_
   simp[gl,cp,cq];refine zj ?_;clear J;have hy:=HY sj x ⟨4,a,j,ps, .mk k4 i4 n4 l4 s4⟩ [some (.cells [iA 3,iA a,iA 0,iA ps, .p (iP k1), .p (iP i1), .p (sP n1), .p (.sl 2 (aW l1)), .p (.sl 5 (aL s1))]),some (.cells [.p (sP x), .p (iP k4), .p (iP i4), .p (sP n4), .p (.sl 2 (aW l4)), .p (.sl 5 (aL s4))])] hlj (wfl _ _ aA);simp only[En.av,En.cells,aH,List.map] at hy;refine Run.yield rfl rfl aA hy ?_ ?_
   rotate_left
   ·rintro v h' ⟨hv,_⟩;cases hv
   rintro v h' ⟨hv,rfl⟩;simp only[AOut.ret.injEq] at hv;subst hv;obtain⟨⟨s2',g2⟩,hst2⟩:∃w,st sj (x,⟨4,a,j,ps, .mk k4 i4 n4 l4 s4⟩)=w:=⟨_,rfl⟩;have hl2:=hLv sj (x,⟨4,a,j,ps, .mk k4 i4 n4 l4 s4⟩) hlj;rw[hst2] at hrn hl2⊢;simp only at hl2⊢
   cases g2 with
   |false=>
    exact y6f
   |true=>
    refine rJ ?_;refine Run.keep [0,1,2,4,42,43,44] ?_;exact y7t
  ·have hje:j=cs.length:=aB;subst hje;rw[aZl] at hvj;rw[iH,hvj] at hr;simp only[if_true] at hr;rw[mC] at hr;refine dP ?_;refine zr3 cp cq hsz ?_;have hy:=HY sj (nm++aJf) ⟨5,a,0,rp, .mk k3 i3 n3 l3 s3⟩ [some (.cells [iA 3,iA a,iA 0,iA ps, .p (iP k1), .p (iP i1), .p (sP n1), .p (.sl 2 (aW l1)), .p (.sl 5 (aL s1))])] hlj (wfl _ _ aA);simp only[En.av,En.cells,aH,List.map] at hy;simp only[aJf] at hy hr;refine Run.yield rfl rfl aA hy ?_ ?_
   rotate_left
   ·rintro v h' ⟨hv,_⟩;cases hv
   rintro v h' ⟨hv,rfl⟩;exact y3q
 ·rw[if_neg aB,if_neg aB,if_pos rfl] at hr;refine mI ?_;refine yw ?_;refine yw ?_;refine yw ?_;refine zt ?_;refine zr1 cq ?_
  refine Run.loopS (ι:=Nat×σ) [0,1,2,78,79] (fun p=>p.1<=fs.length/\oV st s (FE (fs.take p.1))=(p.2,true)/\Lv p.2) (fun p=>fs.length-p.1) (fun p=>[(80,iA p.1)])
   (fun p=>B p.2++[some (.cells [iA 0,iA a,iA 0,iA ps, .p (iP k1), .p (iP i1), .p (sP n1), .p (.sl 2 (aW l1)), .p (.sl 5 (aL s1))])]) (0,s) ⟨by simp,by simp[fe0,oV],hls⟩ ?_ aA ?_
  ·exact zS
  rintro⟨j,sj⟩ ⟨hj,hvj,hlj⟩ IH;simp only at hj hvj hlj;refine cI ?_
  by_cases hjl:j<fs.length
  ·have hg:fs[j]?=some fs[j]:=aYu hjl;have htk:fs.take (j+1)=fs.take j++[fs[j]]:=aZ5 hjl;have hsn:=hfsn (fs.take j) fs[j];rw[<-htk,aZv,aZm,bAb hj] at hsn;generalize fs[j]=c at hg hsn htk;obtain⟨x,⟨k4,i4,n4,l4,s4⟩,w,⟨w1,⟨w2,w3,w4,w5,w6⟩,w7,w8⟩⟩:=c
   have hrn:oV st s (FE (fs.take (j+1)))=st sj (x,⟨6,a,j,ps, .mk k4 i4 n4 l4 s4⟩):=by
    rw[hsn,iH,hvj];simp only[if_true];exact mC _ _ _
   have hfull:(oV st s (FE (fs.take (j+1)))).2=false->r=(oV st s (FE (fs.take (j+1)))):=fun h2=>by
    obtain⟨R,hR⟩:=hfap (j+1);rw[hr];exact aCm st hR h2
   refine dF hjl ?_;refine aYo hg hlen ?_;refine Run.reg fun K J=>?_
   simp[gl,cp,cq];refine zj ?_;clear J;have hy:=HY sj x ⟨6,a,j,ps, .mk k4 i4 n4 l4 s4⟩ [some (.cells [iA 0,iA a,iA 0,iA ps, .p (iP k1), .p (iP i1), .p (sP n1), .p (.sl 2 (aW l1)), .p (.sl 5 (aL s1))]),some (.cells [.p (sP x), .p (iP k4), .p (iP i4), .p (sP n4), .p (.sl 2 (aW l4)), .p (.sl 5 (aL s4)), .p (iP w), .p (iP w1), .p (iP w2), .p (iP w3), .p (sP w4), .p (.sl 2 (aW w5)), .p (.sl 5 (aL w6)), .p (iP w7), .p (.sl 10 (w8.map Br.cells))])] hlj (wfl _ _ aA);simp only[En.av,En.cells,aH,List.map] at hy;refine Run.yield rfl rfl aA hy ?_ ?_
   rotate_left
   ·rintro v h' ⟨hv,_⟩;cases hv
   rintro v h' ⟨hv,rfl⟩;simp only[AOut.ret.injEq] at hv;subst hv;obtain⟨⟨s2',g2⟩,hst2⟩:∃w,st sj (x,⟨6,a,j,ps, .mk k4 i4 n4 l4 s4⟩)=w:=⟨_,rfl⟩;have hl2:=hLv sj (x,⟨6,a,j,ps, .mk k4 i4 n4 l4 s4⟩) hlj;rw[hst2] at hrn hl2⊢;simp only at hl2⊢
   cases g2 with
   |false=>
    exact y6f
   |true=>
    refine rJ ?_;refine Run.keep [0,1,2,78,79,80] ?_;exact y7t
  ·have hje:j=fs.length:=aB;subst hje;rw[aZl] at hvj;rw[hvj] at hr;refine dP ?_;refine Run.nil ?_;exact Fin.ret' (h0:=B sj) aA (by rw[hlen,hlen]) (hwf _) rfl rfl rfl (Weak.refl _) rfl ⟨rfl,by rw[hr]⟩
 ·rw[if_neg (by simp at z0 z1 z2;omega),if_neg (by simpa using z3),if_neg (by simpa using z4)] at hr;simp only[oV] at hr;refine eZ z0 z1 z2 z3 ?_;refine zr1 z4 ?_;refine zf ?_;refine Run.nil ?_;exact Fin.ret' (h0:=B s) aA (by rw[hlen]) (hwf _) rfl rfl rfl (Weak.refl _) rfl ⟨rfl,by rw[hr]⟩
end Go.Proofs.YtcfcolkbeelegaaGreat
