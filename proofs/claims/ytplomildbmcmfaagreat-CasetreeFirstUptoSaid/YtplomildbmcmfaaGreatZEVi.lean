import Derived.Test.YtplomildbmcmfaaGreatZA0
import Derived.Test.YtplomildbmcmfaaGreatZEVw
import Derived.Test.YtplomildbmcmfaaGreatZFI
namespace Go.AI.EV
open Go Go.AI
def sC (P:Program)(ρ:Operand->AV)(H:HX)(op:Op):Option (AV×HX):=
 match op with
 | .alloc t=>match aS P t with
  |some z=>some (.ptr H.length 0,H++[.cells (prims z)])
  |none=>none
 | .box _ x=>match cU (ρ x) with
  |some cs=>some (.ptr H.length 0,H++[.cells cs])
  |none=>none
 | .load t a=>(aDe P t (ρ a) H).map fun v=>(v,H)
 | .store t a x=>(aOs P t (ρ a) (ρ x) H).map fun H'=>(.tup [],H')
 | .makeSlice t l c=>aXo P t (ρ l) (ρ c) H
 | .slice t x lo hi mx=>(aOp P t (ρ x) (lo.map ρ) (hi.map ρ) (mx.map ρ)).map fun v=>(v,H)
 | .call ⟨.builtin .append,⟨[s,x]⟩,⟨[t,t']⟩⟩=>if t=t'/\bCi (ρ s)=false then aXp P t (ρ s) (ρ x) H else none
 | .call ⟨.builtin .copy,⟨[d,x]⟩,⟨[t,_]⟩⟩=>aXm P t (ρ d) (ρ x) H
 | .call ⟨.builtin .clear,⟨[d]⟩,⟨[t]⟩⟩=>aOm P t (ρ d) H
 | op=>if aN7 op=true then(match aop P ρ [] op with
   |some (x,_)=>some (x,H)
   |none=>none) else none
theorem jW {P:Program} {ks:Ks} {ρ ρ':Operand->AV} {H H':HX} {op:Op} {x:AV} (hr:∀y,ρ' y=io ks (ρ y))(h:sC P ρ H op=some (x,H')):aop P ρ' (iH ks H) op=some (io ks x,iH ks H'):=by
 unfold sC at h;split at h
 ·split at h
  ·rename_i t z hz;simp only[bM0,bMf] at h;obtain⟨rfl,rfl⟩:=h;simp only[aop,hz];rw[fA,bJ,oG]
   have e:iH ks [XO.cells (prims z)]=[some (.cells (prims z))]:=by
    show [some (AO.cells _)]=_;rw[zD]
   rw[e]
  ·cases h
 ·split at h
  ·rename_i cs hc;simp only[bM0,bMf] at h;obtain⟨rfl,rfl⟩:=h;simp only[aop,hr,jG,hc,bN2];rw[fA,bJ,oG];rfl
  ·cases h
 ·obtain⟨v,h1,h2⟩:=bMb.1 h;cases h2;simp only[aop,hr,aFf h1,bN2]
 ·obtain⟨v,h1,h2⟩:=bMb.1 h;cases h2;simp only[aop,hr,aOt (ks:=ks) h1,bN2];simp
 ·simp only[aop,hr];exact aSq h
 ·obtain⟨v,h1,h2⟩:=bMb.1 h;cases h2;rename_i t x' lo hi mx;have e:∀o:Option Operand,o.map ρ'=(o.map ρ).map (io ks):=fun o=>by cases o<;>simp[hr]
  simp only[aop,hr,e,aOq h1,bN2]
 ·rename_i s x' t t';split at h
  ·rename_i hc;obtain⟨rfl,hsm⟩:=hc;have h1:=aXq (ks:=ks) h;simp only[aop,bMd,bNb,hr];unfold abuiltin;split
   ·exact y3c
   ·exact y3c
   ·exact y3c
   ·rename_i e2 e3;simp only[bMz] at e3;exfalso;have:=e3.1
    cases hs:ρ s<;>rw[hs] at this hsm<;>simp[bCi] at this hsm
   ·rename_i t1 t2 s1 x1 _ e2 e3;simp only[bMz,and_true] at e2 e3;obtain⟨rfl,rfl⟩:=e2;obtain⟨rfl,rfl⟩:=e3;rw[if_pos rfl];exact h1
   ·exact y3c
   ·exact y3c
   ·rename_i e0 e1 e2 e3 e4 e5 e6 e7;exact absurd rfl (e5 _ _ _ _ rfl rfl)
  ·cases h
 ·rename_i d x' t t';have h1:=aSp (ks:=ks) h;simp only[aop,bMd,bNb,hr];exact h1
 ·rename_i d t;have h1:=aOn (ks:=ks) h;simp only[aop,bMd,bNb,hr];exact h1
 ·split at h
  ·rename_i hp;split at h
   ·rename_i y g e;simp only[bM0,bMf] at h;obtain⟨rfl,rfl⟩:=h;exact aP9 hp hr e
   ·cases h
  ·cases h
def bFf:AV->Option Bool
 | .p (.prim (.slice none 0 0))=>some true
 | .p (.sl _ (_::_))=>some false
 | .own _ _ (_::_)=>some false
 | .sm _ _ _ _ _=>some false
 |_=>none
theorem aQy {ks:Ks} {E:Env} {w:World} {x:AV} {b:Bool} {v:Value} (h:bFf x=some b)(hx:Rep E w (io ks x) v):∃ad n c,v= .slice ad n c/\ad.isNone=b:=by
 unfold bFf at h;split at h
 rotate_left 4
 ·cases h
 all_goals simp only[bM0] at h
 ·subst h;simp only[eV,Rep,RepP] at hx;exact⟨none,0,0,hx.1,rfl⟩
 ·subst h;simp only[eV,Rep,RepP] at hx;obtain⟨a,c,rfl,_,h⟩:=hx;exact y83
 ·subst h;have:=Weak.own _ _ _ E w v (by simpa using hx);simp only[Rep,RepP] at this;obtain⟨a,c,rfl,_,h⟩:=this;exact y83
 ·subst h;simp only[io_sm,Rep] at hx;obtain⟨b,_,rfl⟩:=hx;exact⟨_,_,_,rfl,rfl⟩
section
variable {P:Program} {ks:Ks} {E:Env} {w:World} {H:HX} {o:Oper} {T:List AV} {D:List AD} {a:Act}
theorem aMf {h:Heap} {t e ty:TypeId} {x:Operand} {op:BinOp} {b:Bool} (hop:op= .eql\/op= .neq) {T2:List AV} (st:St E w a T2 h D)(hr:∀y∈o.op.operands,aev T2 y=io ks (aev T y))(ho:o.op= .binOp op t x (.const (.slice none 0 0)) ty)(hu:P.underlying t=some (.slice e))(hb:bFf (aev T x)=some b):
  Out P o E w a h (.p (.prim (.bool (if op= .eql then b else !b)))) h:=by
 have hxr:=aev_rep st x;rw[hr x (by rw[ho];simp[Op.operands])] at hxr;obtain⟨ad,n,c,hv,hn⟩:=aQy hb hxr
 have h1:∀d (s:Option Addr) n c,(Op.equalIn (d+1) t (.slice s n c) (.slice none 0 0)).run P w= .ok s.isNone w:=by
  intro d s n c
  cases s with
  |none=>simp only[Op.equalIn,Sem.run_bind,run_underlying hu,Result.andThen_ok];rfl
  |some s=>simp only[Op.equalIn,Sem.run_bind,run_underlying hu,Result.andThen_ok];rfl
 have h2:∀(s:Option Addr) n c,(Op.equal t (.slice s n c) (.slice none 0 0)).run P w= .ok s.isNone w:=h1 9999
 have g1:∀op,(eqGuard op t x (.const (.slice none 0 0)) (.slice ad n c) (.slice none 0 0)).run P w= .ok () w:=by
  intro op;unfold eqGuard;cases op<;>rfl
 refine⟨E,w, .bool (if op= .eql then b else !b),?_,st.rel,st.fresh,by simp[Rep,RepP,isPrim],Fr.refl _ _ _⟩;have hev:a.eval (.const (.slice none 0 0))= .slice none 0 0:=rfl;rcases hop with rfl|rfl
 ·simp only[execOp,ho,hv,hev];simp[g1,binOp,h2,hn]
 ·simp only[execOp,ho,hv,hev];simp[g1,binOp,h2,hn]
def fnA:AV->Option Bool
 | .p (.prim .nilFunc)=>some true
 | .p (.prim (.func _ _ _))=>some false
 | .fn _ _ _=>some false
 |_=>none
theorem aWi {x:AV} {b:Bool} {v:Value} (h:fnA x=some b)(hx:Rep E w (io ks x) v):(v= .nilFunc/\b=true)\/∃f u z,v= .func f u z/\b=false:=by
 unfold fnA at h;split at h
 rotate_left 3
 ·cases h
 all_goals simp only[bM0] at h
 ·subst h;simp only[eV,Rep,RepP] at hx;exact .inl ⟨hx.1,rfl⟩
 ·subst h;simp only[eV,Rep,RepP] at hx;exact .inr ⟨_,_,_,hx.1,rfl⟩
 ·subst h;simp only[yM,Rep] at hx;obtain⟨vs,us,e,_⟩:=hx;exact .inr ⟨_,_,_,e,rfl⟩
theorem aEg {h:Heap} {t ty:TypeId} {a1 a2 a3} {x:Operand} {op:BinOp} {b:Bool} (hop:op= .eql\/op= .neq) {T2:List AV} (st:St E w a T2 h D)(hr:∀y∈o.op.operands,aev T2 y=io ks (aev T y))(ho:o.op= .binOp op t x (.const .nilFunc) ty)(hu:P.underlying t=some (.func a1 a2 a3))(hb:fnA (aev T x)=some b):
  Out P o E w a h (.p (.prim (.bool (if op= .eql then b else !b)))) h:=by
 have hxr:=aev_rep st x;rw[hr x (by rw[ho];simp[Op.operands])] at hxr;have hv:=aWi hb hxr
 have h1:∀d,(Op.equalIn (d+1) t .nilFunc .nilFunc).run P w= .ok true w:=by
  intro d;simp only[Op.equalIn,Sem.run_bind,run_underlying hu,Result.andThen_ok];rfl
 have h2:∀d f u v,(Op.equalIn (d+1) t (.func f u v) .nilFunc).run P w= .ok false w:=by
  intro d f u v;simp only[Op.equalIn,Sem.run_bind,run_underlying hu,Result.andThen_ok];rfl
 have e1:(Op.equal t .nilFunc .nilFunc).run P w= .ok true w:=h1 9999;have e2:∀f u v,(Op.equal t (.func f u v) .nilFunc).run P w= .ok false w:=h2 9999
 have g1:∀op,(eqGuard op t x (.const .nilFunc) .nilFunc .nilFunc).run P w= .ok () w:=by
  intro op;unfold eqGuard;cases op<;>simp
 have g2:∀op f u v,(eqGuard op t x (.const .nilFunc) (.func f u v) .nilFunc).run P w= .ok () w:=by
  intro op f u v;unfold eqGuard;cases op<;>rfl
 refine⟨E,w, .bool (if op= .eql then b else !b),?_,st.rel,st.fresh,by simp[Rep,RepP,isPrim],Fr.refl _ _ _⟩;have hev:a.eval (.const .nilFunc)= .nilFunc:=rfl;rcases hv with ⟨hv,rfl⟩|⟨f,u,z,hv,rfl⟩<;>rcases hop with rfl|rfl
 ·simp only[execOp,ho,hv,hev];simp[g1,binOp,e1]
 ·simp only[execOp,ho,hv,hev];simp[g1,binOp,e1]
 ·simp only[execOp,ho,hv,hev];simp[g2,binOp,e2]
 ·simp only[execOp,ho,hv,hev];simp[g2,binOp,e2]
theorem aFw {h:Heap} {t e:TypeId} {sz:Nat} (st:St E w a T h D)(ho:o.op= .buildSlice t 0 #[])(he:elT P t=some e)(hsz:szT P e=some sz):Out P o E w a h (.sm h.length 0 0 0 sz) (h++[some (.cells [])]):=by
 obtain⟨h1,h2,h3⟩:=st.rel.alloc st.fresh (cs:=[]) (vs:=[]) (by simp[RepL]) e;refine⟨_,_, .slice (some ⟨w.heap.size,0,none⟩) 0 0,?_,h1,by simpa using h3,?_,h2⟩
 ·have hrun:(Instr.buildSlice t 0 #[]).run P w= .ok (.slice (some ⟨w.heap.size,0,none⟩) 0 0) (w.alloc (.cells (List.toArray []) e (0,0))):=by
   exact y5j
  simp only[execOp,ho];exact y6v
 ·simp only[Rep];exact⟨_,by simp,rfl⟩
def xrd (P:Program)(ρ:Operand->AV)(op:Op):Option AV:=
 match op with
 | .binOp op t x (.const (.slice none 0 0)) _=>match P.underlying t with
  |some (.slice _)=>match op,bFf (ρ x) with
   | .eql,some b=>some (.p (.prim (.bool b)))
   | .neq,some b=>some (.p (.prim (.bool (!b))))
   |_,_=>none
  |_=>none
 | .binOp op t x (.const .nilFunc) _=>match P.underlying t with
  |some (.func _ _ _)=>match op,fnA (ρ x) with
   | .eql,some b=>some (.p (.prim (.bool b)))
   | .neq,some b=>some (.p (.prim (.bool (!b))))
   |_,_=>none
  |_=>none
 | .slice t x lo hi none=>match elT P t with
  |some e=>match szT P e with
   |some sz=>match ρ x with
    | .sm _id _off len code s=>match loA (lo.map ρ),hiA len (hi.map ρ) with
     |some l,some u=>if s=sz/\0<l/\l=u/\u.toNat<=room code then some (.p (.sl sz [])) else none
     |_,_=>none
    |_=>none
   |none=>none
  |none=>none
 |_=>none
theorem aK7 {h:Heap} {t e:TypeId} {sz id off len code s:Nat} {x:Operand} {lo hi:Option Operand} {l u:Int} {T2:List AV} (st:St E w a T2 h D)(hr:∀y∈o.op.operands,aev T2 y=io ks (aev T y))(ho:o.op= .slice t x lo hi none)(hel:elT P t=some e)(hsz:szT P e=some sz)
  (hx:aev T x= .sm id off len code s) (hl:loA (lo.map (aev T))=some l) (hu:hiA len (hi.map (aev T))=some u) (hc:s=sz/\0<l/\l=u/\u.toNat<=room code):Out P o E w a h (.p (.sl sz [])) h:=by
 obtain⟨rfl,h0,rfl,h3⟩:=hc;have hxr:=aev_rep st x;rw[hr x (by rw[ho];simp[Op.operands]),hx,io_sm] at hxr;have hroom:=vX ks code
 have key:∀(q:Option Operand),(∀y,q=some y->y∈o.op.operands)->∀z,(q.map fun y=>io ks (aev T y))=some z->∃y,q.map a.eval=some y/\Rep E w z y:=by
  intro q hq z hz
  cases q with
  |none=>cases hz
  |some y=>
   simp only[bN2,bM0] at hz;subst hz;exact⟨_,rfl,by rw[<-hr y (hq y rfl)];exact aev_rep st y⟩
 have eq1:∀q:Option Operand,(q.map fun y=>io ks (aev T y))=(q.map (aev T)).map (io ks):=fun q=>by cases q<;>rfl
 obtain⟨r,hrun,hrep⟩:=aF5 (P:=P) (lo:=lo.map fun y=>io ks (aev T y)) (hi:=hi.map fun y=>io ks (aev T y)) (mx:=none) (vlo:=lo.map a.eval) (vhi:=hi.map a.eval) (vmx:=none) (m:=(qH ks code:Nat)) hel hsz hxr
  (key lo fun y hy=>by rw[ho,hy];simp[Op.operands]) (fun e=>by cases lo<;>simp at e⊢) (key hi fun y hy=>by rw[ho,hy];simp[Op.operands]) (fun e=>by cases hi<;>simp at e⊢) (fun _ e=>by cases e) (fun _=>rfl)
  (by rw[eq1,aTk];exact hl) (by rw[eq1,aTh];exact hu) rfl aB aB aB aB rfl
 refine⟨E,w,r,?_,st.rel,st.fresh,?_,Fr.refl _ _ _⟩
 ·simp only[execOp,ho];simp only[Option.map_none];rw[Sem.run_bind,hrun]
  rfl
 ·simp only[Rep] at hrep;obtain⟨b,_,rfl⟩:=hrep;simp only[Rep,RepP];refine⟨_,_,by rw[Nat.sub_self];rfl,Nat.zero_le _, .inl trivial⟩
theorem aOo {h:Heap} {x:AV} {T2:List AV} (hr:∀y∈o.op.operands,aev T2 y=io ks (aev T y))(st:St E w a T2 h D)(h0:xrd P (aev T) o.op=some x):Out P o E w a h (io ks x) h:=by
 unfold xrd at h0;split at h0
 ·rename_i op t x' ty ho;split at h0
  ·rename_i e hu;split at h0
   ·rename_i b hb;simp only[bM0] at h0;subst h0;rw[eV];exact aMf (.inl rfl) st hr ho hu hb
   ·rename_i b hb;simp only[bM0] at h0;subst h0;rw[eV];exact aMf (.inr rfl) st hr ho hu hb
   ·cases h0
  ·cases h0
 ·rename_i op t x' ty ho;split at h0
  ·rename_i a1 a2 a3 hu;split at h0
   ·rename_i b hb;simp only[bM0] at h0;subst h0;rw[eV];exact aEg (.inl rfl) st hr ho hu hb
   ·rename_i b hb;simp only[bM0] at h0;subst h0;rw[eV];exact aEg (.inr rfl) st hr ho hu hb
   ·cases h0
  ·cases h0
 ·rename_i t x' lo hi ho;split at h0
  ·rename_i e hel;split at h0
   ·rename_i sz hsz;split at h0
    ·rename_i id off len code s hx;split at h0
     ·rename_i l u hl hu;split at h0
      ·rename_i hc;simp only[bM0] at h0;subst h0;rw[eV];exact aK7 st hr ho hel hsz hx hl hu hc
      ·cases h0
     ·cases h0
    ·cases h0
   ·cases h0
  ·cases h0
 ·cases h0
def xsp (P:Program)(rows:Bool)(ρ:Operand->AV)(H:HX)(j:Nat)(op:Op):Option (AV×HX×Nat):=
 match op with
 | .call ⟨.builtin .append,⟨[s,x]⟩,⟨[t,t']⟩⟩=>if t=t' then(match bGg P rows t (ρ s) (ρ x) H j with
   |some (y,H',j')=>if(Nat.beq j' j||H.all (aC7 j))=true then some (y,H',j') else none
   |none=>none) else none
 | .buildSlice t 0 ⟨[]⟩=>match elT P t with
  |some e=>match szT P e with
   |some sz=>some (.sm H.length 0 0 0 sz,H++[.cells []],j)
   |none=>none
  |none=>none
 | .makeMap _ none=>some (.mp H.length,H++[.map []],j)
 | .lookup t m ix ok=>(aXn P t (ρ m) (ρ ix) ok H).map fun x=>(x,H,j)
 |op=>(xrd P ρ op).map fun x=>(x,H,j)
theorem aOr {rows:Bool} {x:AV} {H':HX} {j j':Nat} {T2:List AV} (hr:∀y∈o.op.operands,aev T2 y=io ks (aev T y))(st:St E w a T2 (iH ks H) D)(h:xsp P rows (aev T) H j o.op=some (x,H',j')):OutX P o E w a ks H j x H' j':=by
 unfold xsp at h;split at h
 ·rename_i s x' t t' ho;split at h
  ·rename_i ht;subst ht;split at h
   ·rename_i y G i e;split at h
    ·rename_i hc;simp only[bM0,bMf] at h;obtain⟨rfl,rfl,rfl⟩:=h;simp only[bNe] at hc;exact aSo st ho hr (hc.imp Nat.eq_of_beq_eq_true id) e
    ·cases h
   ·cases h
  ·cases h
 ·rename_i t ho;split at h
  ·rename_i e he;split at h
   ·rename_i sz hsz;simp only[bM0,bMf] at h;obtain⟨rfl,rfl,rfl⟩:=h;refine⟨ks,Agree.refl _ _,fun _=>rfl,bLx _,?_⟩;have:=aFw st ho he hsz;rw[bJ] at this;rw[fA,io_sm];exact this
   ·cases h
  ·cases h
 ·rename_i t ho;simp only[bM0,bMf] at h;obtain⟨rfl,rfl,rfl⟩:=h;refine⟨ks,Agree.refl _ _,fun _=>rfl,bLx _,?_⟩;have:=aWu (P:=P) st ho;rw[bJ] at this;rw[fA,bCg];exact this
 ·rename_i t m ix ok ho;obtain⟨y,h1,h2⟩:=bMb.1 h;simp only[bMf] at h2;obtain⟨rfl,rfl,rfl⟩:=h2;exact⟨ks,Agree.refl _ _,fun _=>rfl,bLx _,aQv hr st ho h1⟩
 ·obtain⟨y,h1,h2⟩:=bMb.1 h;simp only[bMf] at h2;obtain⟨rfl,rfl,rfl⟩:=h2;exact⟨ks,Agree.refl _ _,fun _=>rfl,bLx _,aOo hr st h1⟩
end
open Go Go.AI
def ioD (ks:Ks)(d:AD):AD:=(d.1,d.2.1.map (io ks),d.2.2.map (io ks))
def ioR (ks:Ks):AOut->AOut
 | .ret v=> .ret (io ks v)
 | .panic v=> .panic (io ks v)
abbrev bF:=FuncId->List AV->HX->Nat->Option (AOut×HX×Nat)
abbrev cF:=Nat->List AV->HX->Nat->Option (AOut×HX×Nat)
def oS (ks:Ks)(j:Nat)(out:AOut)(H':HX)(j':Nat):AOut->Heap->Prop:=
 fun o g=>∃ks',Agree j ks ks'/\(j'=j->ks'=ks)/\o=ioR ks' out/\g=iH ks' H'
abbrev Kn:=Nat->Ks->Prop
def Kn.Closed (G:Kn):Prop:=∀j j' ks ks',G j ks->Agree j ks ks'->j<=j'->G j' ks'
def gJ (P:Program)(G:Kn)(cf:bF):Prop:=∀f args H j out H' j',cf f args H j=some (out,H',j')->aK P f=true/\j<=j'/\∀ks,G j ks->ACalls P f (args.map (io ks)) (iH ks H) (oS ks j out H' j')
def jD (P:Program)(G:Kn)(yf:cF):Prop:=∀i args H j out H' j',yf i args H j=some (out,H',j')->j<=j'/\∀ks,G j ks->AYield P (ks i).1 (args.map (io ks)) (iH ks H) (oS ks j out H' j')
inductive OR where
 |norm (T:List AV) (H:HX) (j:Nat) (D:List AD)
 |pan (v:AV) (T:List AV) (H:HX) (j:Nat) (D:List AD)
def aWm (j:Nat):List AD->Bool
 |[]=>true
 |d::D=>qL j d.2.1&& qL j d.2.2&& aWm j D
theorem jZ {j:Nat} {ks ks':Ks} (ha:Agree j ks ks'):∀ {D:List AD},aWm j D=true->D.map (ioD ks')=D.map (ioD ks)
 |[],_=>rfl
 |d::D,h=>by
  simp only[aWm,bM8] at h;simp only[bMd,jZ ha h.2]
  congr 1
  simp only[ioD,bX ha h.1.1,bX ha h.1.2]
def kR (j j':Nat)(T:List AV)(D:List AD):Bool:=Nat.beq j' j||(qL j T&& aWm j D)
def bCc (P:Program)(rows:Bool)(cf:bF)(yf:cF)(rnd:Bool)(o:Oper)(T:List AV)(H:HX)(j:Nat)(D:List AD):Option OR:=
 match o.op with
 | .call ⟨.value f,args,types⟩=>match acallee T ⟨.value f,args,types⟩ with
  |some (f,args)=>match cf f args H j with
   |some (.ret v,H',j')=>if kR j j' T D=true then some (.norm (tput T o.dst v) H' j' D) else none
   |some (.panic v,H',j')=>if kR j j' T D=true then some (.pan v T H' j' D) else none
   |none=>none
  |none=>match eJ T ⟨.value f,args,types⟩ with
   |some (i,args)=>match yf i args H j with
    |some (.ret v,H',j')=>if kR j j' T D=true then some (.norm (tput T o.dst v) H' j' D) else none
    |_=>none
   |none=>none
 | .panic x=>match aev T x with
  | .p (.ifc t y)=>some (.pan (.p (.ifc t y)) T H j D)
  |_=>none
 | .defer ⟨.value f,args,_⟩=>if rnd=true then none else match aev T f with
  | .fn (.func i) first cap=>some (.norm (tput T o.dst (.tup [])) H j ((.func i,cap,first++args.toList.map (aev T))::D))
  |_=>none
 | .mapUpdate t m ix x=>match bGh P t (aev T m) (aev T ix) (aev T x) H with
  |some H'=>some (.norm (tput T o.dst (.tup [])) H' j D)
  |none=>match aSt P t (aev T m) (aev T ix) (aev T x) H with
   |some H'=>some (.norm (tput T o.dst (.tup [])) H' j D)
   |none=>none
 |op=>match xsp P rows (aev T) H j op with
  |some (x,H',j')=>if kR j j' T D=true then some (.norm (tput T o.dst x) H' j' D) else none
  |none=>match sC P (aev T) H op with
   |some (x,H')=>some (.norm (tput T o.dst x) H' j D)
   |none=>none
def qB (P:Program)(rows:Bool)(cf:bF)(yf:cF)(rnd:Bool)(all:Array Oper):List Oper->List AV->HX->Nat->List AD->Option OR
 |[],T,H,j,D=>some (.norm T H j D)
 |o::l,T,H,j,D=>match awanted all T o with
  |none=>none
  |some false=>qB P rows cf yf rnd all l (tput T o.dst (.tup [])) H j D
  |some true=>match bCc P rows cf yf rnd o T H j D with
   |some (.norm T' H' j' D')=>qB P rows cf yf rnd all l T' H' j' D'
   |some (.pan v T' H' j' D')=>some (.pan v T' H' j' D')
   |none=>none
section
variable {P:Program} {ks:Ks}
theorem cI (all:Array Oper)(T:List AV)(o:Oper) {b:Bool} (h:awanted all T o=some b):awanted all (T.map (io ks)) o=some b:=by
 unfold awanted at h⊢;split
 ·rename_i hg;rw[hg] at h;exact h
 ·rename_i jj want hg;rw[hg] at h;simp only at h;split
  ·rename_i d hd;rw[hd] at h;simp only at h;rw[rO];split at h
   ·rename_i b' hT;rw[hT,eV];exact h
   ·rename_i hT;rw[hT];simp only[io_tup,bNb];exact h
   ·cases h
  ·rename_i hd;rw[hd] at h;exact h
theorem gK {T:List AV} {c:Call} {f:FuncId} {args:List AV} (h:acallee T c=some (f,args)):acallee (T.map (io ks)) c=some (f,args.map (io ks)):=by
 have hm:c.args.toList.map (aev (T.map (io ks)))=(c.args.toList.map (aev T)).map (io ks):=by
  exact y6g
 unfold acallee at h⊢;split at h
 ·rename_i fo hcal;simp only[aev_io,hm];split at h
  ·rename_i i x y hev;simp only[bM0,bMf] at h;obtain⟨rfl,rfl⟩:=h;rw[hev,eV]
  ·rename_i i first cap hev;simp only[bM0,bMf] at h;obtain⟨rfl,rfl⟩:=h;rw[hev,yM];simp only[iof,bMy]
  ·cases h
 ·cases h
theorem aAq {T:List AV} {c:Call} {i:Nat} {args:List AV} (h:eJ T c=some (i,args)):eJ (T.map (io ks)) c=some ((ks i).1,args.map (io ks)):=by
 have hm:c.args.toList.map (aev (T.map (io ks)))=(c.args.toList.map (aev T)).map (io ks):=by
  exact y6g
 unfold eJ at h⊢;split at h
 ·rename_i fo hcal;simp only[aev_io,hm];split at h
  ·rename_i l hev;simp only[bM0,bMf] at h;obtain⟨rfl,rfl⟩:=h;rw[hev,yM];simp only[iof,bNb]
  ·cases h
 ·cases h
def Next (P:Program)(rd:Option Nat)(nb:Nat)(k:List It)(Q:AX->List AV->Heap->List AD->Prop)(ks:Ks)(j:Nat):OR->Prop
 | .norm T H j' D=>∀ks',Agree j ks ks'->(j'=j->ks'=ks)->Run P rd nb k (T.map (io ks')) (iH ks' H) (D.map (ioD ks')) Q
 | .pan v T H j' D=>∀ks',Agree j ks ks'->(j'=j->ks'=ks)->Q (.panic (io ks' v)) (T.map (io ks')) (iH ks' H) (D.map (ioD ks'))
def OR.j:OR->Nat
 | .norm _ _ j _=>j
 | .pan _ _ _ j _=>j
theorem aTw {rows:Bool} {ρ:Operand->AV} {H H':HX} {j j':Nat} {op:Op} {x:AV} (hx:xsp P rows ρ H j op=some (x,H',j')):j<=j':=by
 unfold xsp at hx;split at hx
 ·split at hx
  ·split at hx
   ·rename_i e;split at hx
    ·simp only[bM0,bMf] at hx;obtain⟨_,_,rfl⟩:=hx;unfold bGg at e
     repeat' (split at e)
     all_goals first
      |(cases e;done)
      |(simp only[bM0,bMf] at e;omega)
    ·cases hx
   ·cases hx
  ·cases hx
 ·repeat' (split at hx)
  all_goals first
   |(cases hx;done)
   |(simp only[bM0,bMf] at hx;omega)
 ·simp only[bM0,bMf] at hx;omega
 ·exact y7q
 ·exact y7q
theorem keepOk_T {j j':Nat} {T:List AV} {D:List AD} {ks':Ks} (h:kR j j' T D=true)(ha:Agree j ks ks')(he:j'=j->ks'=ks):T.map (io ks')=T.map (io ks)/\D.map (ioD ks')=D.map (ioD ks):=by
 unfold kR at h;simp only[bNe,bM8] at h;rcases h with h|h
 ·rw[he (Nat.eq_of_beq_eq_true h)];exact⟨rfl,rfl⟩
 ·exact⟨bX ha h.1,jZ ha h.2⟩
variable {rows:Bool} {G:Kn} {cf:bF} {yf:cF} {rd:Option Nat} {nb:Nat} {k:List It} {Q:AX->List AV->Heap->List AD->Prop}
theorem tH (hcf:gJ P G cf)(hyf:jD P G yf) {all:Array Oper} {o:Oper} {rest:List Oper} {T:List AV} {H:HX} {j:Nat} {D:List AD} {rnd:Bool} (hrd:rnd=false->rd=none) {r:OR} (hw:awanted all T o=some true)
  (h:bCc P rows cf yf rnd o T H j D=some r):j<=r.j/\∀ks,G j ks->Next P rd nb (.ops all rest::k) Q ks j r->Run P rd nb (.ops all (o::rest)::k) (T.map (io ks)) (iH ks H) (D.map (ioD ks)) Q:=by
 have hw':∀ks,awanted all (T.map (io ks)) o=some true:=fun ks=>cI all T o hw
 unfold bCc at h;split at h
 ·--calls
  rename_i f args types ho;split at h
  ·rename_i f' args' hc;split at h
   ·rename_i v H' j' hcall;split at h
    ·rename_i hk;simp only[bM0] at h;subst h;obtain⟨c1,c2,c3⟩:=hcf _ _ _ _ _ _ _ hcall;refine⟨c2,fun ks hG hn=>Run.call ho (hw' ks) (gK hc) c1 (c3 ks hG) ?_ ?_⟩
     ·rintro v' h' ⟨ks',a1,a2,a3,rfl⟩;simp only[ioR,AOut.ret.injEq] at a3;subst a3;exact y5c
     ·rintro v' h' ⟨ks',a1,a2,a3,rfl⟩;cases a3
    ·cases h
   ·rename_i v H' j' hcall;split at h
    ·rename_i hk;simp only[bM0] at h;subst h;obtain⟨c1,c2,c3⟩:=hcf _ _ _ _ _ _ _ hcall;refine⟨c2,fun ks hG hn=>Run.call ho (hw' ks) (gK hc) c1 (c3 ks hG) ?_ ?_⟩
     ·rintro v' h' ⟨ks',a1,a2,a3,rfl⟩;cases a3
     ·rintro v' h' ⟨ks',a1,a2,a3,rfl⟩;simp only[ioR,AOut.panic.injEq] at a3;subst a3;have e:=keepOk_T hk a1 a2;have:=hn ks' a1 a2;rw[e.1,e.2] at this;exact this
    ·cases h
   ·cases h
  ·split at h
   ·rename_i i args' hc;split at h
    ·rename_i v H' j' hcall;split at h
     ·rename_i hk;simp only[bM0] at h;subst h;obtain⟨c2,c3⟩:=hyf _ _ _ _ _ _ _ hcall;refine⟨c2,fun ks hG hn=>Run.yield ho (hw' ks) (aAq hc) (c3 ks hG) ?_ ?_⟩
      ·rintro v' h' ⟨ks',a1,a2,a3,rfl⟩;simp only[ioR,AOut.ret.injEq] at a3;subst a3;exact y5c
      ·rintro v' h' ⟨ks',a1,a2,a3,rfl⟩;cases a3
     ·cases h
    ·cases h
   ·cases h
 ·--panic
  rename_i x ho;split at h
  ·rename_i t y hx;simp only[bM0] at h;subst h;refine⟨bLx _,fun ks _ hn=>Run.panic ho (hw' ks) (by rw[aev_io,hx,eV]) ?_⟩;have:=hn ks (Agree.refl _ _) (fun _=>rfl);rw[eV] at this;exact this
  ·cases h
 ·--defer
  rename_i f args types ho;split at h
  ·cases h
  ·rename_i hr;have hrd':rd=none:=hrd (by simpa using hr);subst hrd';split at h
   ·rename_i i first cap hx;simp only[bM0] at h;subst h;refine⟨bLx _,fun ks _ hn=>Run.defer (i:=i) (first:=first.map (io ks)) (cap:=cap.map (io ks)) ho (hw' ks) rfl (by rw[aev_io,hx,yM];rfl) ?_⟩;have:=hn ks (Agree.refl _ _) (fun _=>rfl);rw[<-tput_io,io_tup,bNb] at this
    have hm:args.toList.map (aev (T.map (io ks)))=(args.toList.map (aev T)).map (io ks):=by
     exact y6g
    simp only[bMd,ioD,bMy] at this;rw[hm];exact this
   ·cases h
 ·--a map is given a key
  rename_i t m ix x ho;split at h
  ·rename_i H' hx;simp only[bM0] at h;subst h;refine⟨bLx _,fun ks _ hn=>aSv ho (hw' ks) hx ?_⟩;exact y76
  ·split at h
   ·rename_i H' hx;simp only[bM0] at h;subst h;refine⟨bLx _,fun ks _ hn=>Run.op (x:= .tup []) (h':=iH ks H') (hw' ks) ?_ ?_⟩
    ·rw[ho];simp only[aop,aev_io,aSu hx,bN2]
    ·exact y76
   ·cases h
 ·--the others
  rename_i n1 n2 n3 n4;split at h
  ·rename_i x H' j' hx;split at h
   ·rename_i hk;simp only[bM0] at h;subst h;have hj:j<=j':=aTw hx;refine⟨hj,fun ks _ hn=>Run.opR (R:=fun y g=>∃ks',Agree j ks ks'/\(j'=j->ks'=ks)/\y=io ks' x/\g=iH ks' H') (hw' ks) (fun c hc=>?_) (fun E w a st=>?_) ?_⟩
    ·unfold xsp at hx;rw[hc] at hx;simp[xrd] at hx
    ·obtain⟨ks',a1,a2,_,E',w',v,b1,b2,b3,b4,b5⟩:=aOr (fun y _=>aev_io ks T y) st hx;exact⟨_,_,E',w',v,⟨ks',a1,a2,rfl,rfl⟩,b1,b2,b3,b4,b5⟩
    ·rintro y g ⟨ks',a1,a2,rfl,rfl⟩;exact y5c
   ·cases h
  ·split at h
   ·rename_i x H' hx;simp only[bM0] at h;subst h;refine⟨bLx _,fun ks _ hn=>Run.op (hw' ks) (jW (fun y=>aev_io ks T y) hx) ?_⟩;rw[tput_io];exact hn ks (Agree.refl _ _) (fun _=>rfl)
   ·cases h
theorem eE (hGc:G.Closed)(hcf:gJ P G cf)(hyf:jD P G yf) {all:Array Oper} {rnd:Bool} (hrd:rnd=false->rd=none):∀(l:List Oper)(T:List AV)(H:HX)(j:Nat)(D:List AD)(r:OR),qB P rows cf yf rnd all l T H j D=some r->
  j<=r.j/\∀ks,G j ks->Next P rd nb k Q ks j r->Run P rd nb (.ops all l::k) (T.map (io ks)) (iH ks H) (D.map (ioD ks)) Q
 |[],T,H,j,D,r,h=>by
  simp only[qB,bM0] at h;subst h;exact⟨bLx _,fun ks _ hn=>Run.opsNil (hn ks (Agree.refl _ _) fun _=>rfl)⟩
 |o::l,T,H,j,D,r,h=>by
  simp only[qB] at h;split at h
  ·cases h
  ·rename_i hw;obtain⟨h1,h2⟩:=eE hGc hcf hyf hrd l _ _ _ _ r h;refine⟨h1,fun ks hG hn=>Run.off (cI all T o hw) ?_⟩;have:=h2 ks hG hn;rw[<-tput_io,io_tup,bNb] at this;exact this
  ·rename_i hw;split at h
   ·rename_i T' H' j' D' ho;obtain⟨h1,h2⟩:=eE hGc hcf hyf hrd l _ _ _ _ r h;obtain⟨h3,h4⟩:=tH (rows:=rows) (rd:=rd) (nb:=nb) (k:=k) (Q:=Q) (rest:=l) hcf hyf hrd hw ho;simp only[OR.j] at h3;refine⟨bNs h3 h1,fun ks hG hn=>h4 ks hG fun ks' a1 a2=>h2 ks' (hGc _ _ _ _ hG a1 h3) ?_⟩
    cases r with
    |norm T2 H2 j2 D2=>
     simp only[OR.j] at h1
     exact fun ks2 b1 b2=>hn ks2 (a1.trans h3 b1) fun e=>by
      have e1:j'=j:=aB;rw[<-a2 e1];exact b2 aB
    |pan v T2 H2 j2 D2=>
     simp only[OR.j] at h1
     exact fun ks2 b1 b2=>hn ks2 (a1.trans h3 b1) fun e=>by
      have e1:j'=j:=aB;rw[<-a2 e1];exact b2 aB
   ·rename_i v T' H' j' D' ho;simp only[bM0] at h;subst h;obtain⟨h3,h4⟩:=tH (rows:=rows) (rd:=rd) (nb:=nb) (k:=k) (Q:=Q) (rest:=l) hcf hyf hrd hw ho;exact⟨h3,fun ks hG hn=>h4 ks hG hn⟩
   ·cases h
end
open Go Go.AI
structure Pl where
 tbl:List Nat
 fl:List Nat
def Pl.pre (p:Pl)(i j:Nat):Bool:=(p.tbl.getD i 0).testBit j
structure Seat where
 fn:FuncId->Option Func
 plan:FuncId->Nat->Option (List Nat×List Nat×List Nat×List Nat)
 planF:FuncId->Nat->Option Pl
 plan2:FuncId->Nat->Option Pl2
 planE:FuncId->Nat->List (Nat×List Nat×List Nat×List Nat×List Nat)
 rows:FuncId->Bool
 keep:FuncId->FuncId->Bool
structure LE where
 j:Nat
 fid:FuncId
 T:List AV
 ps:Array Tmp
 asg:Code
 bd:Code
abbrev LT:=List LE
mutual
theorem aEj {j j':Nat} (h:j<=j'):∀ {x:AV},jok j x=true->jok j' x=true
 | .p _,_=>rfl
 | .agg cs,hx=>by simp only[jok] at hx⊢;exact fN h hx
 | .tup cs,hx=>by simp only[jok] at hx⊢;exact fN h hx
 | .ptr _ _,_=>rfl
 | .sm _ _ _ cap _,hx=>by
  simp only[jok,bH3,bNe,bMi] at hx⊢;exact hx.imp id fun q=>by omega
 | .own _ _ _,_=>rfl
 | .fn f xs ys,hx=>by
  simp only[jok,bM8] at hx⊢;refine⟨⟨?_,fN h hx.1.2⟩,fN h hx.2⟩;have h1:=hx.1.1
  cases f<;>first|rfl|(simp only[bH4,bMi] at h1⊢;omega)
 | .ifc _ x,hx=>by simp only[jok] at hx⊢;exact aEj h hx
 | .mp _,_=>rfl
 | .vec _ _,_=>rfl
 | .junk,_=>rfl
theorem fN {j j':Nat} (h:j<=j'):∀ {l:List AV},qL j l=true->qL j' l=true
 |[],_=>rfl
 |x::l,hx=>by
  simp only[qL,bM8] at hx⊢;exact⟨aEj h hx.1,fN h hx.2⟩
end
def Gl (lt:LT):Kn:=fun j ks=>∀e∈lt,e.j<j/\qL j e.T=true/\(ks e.j).2=⟨e.T.map (io ks),e.ps,e.asg,e.bd⟩
theorem Gl.closed (lt:LT):(Gl lt).Closed:=by
 intro j j' ks ks' hG ha hj e he;obtain⟨h1,h2,h3⟩:=hG e he;refine⟨by omega,fN hj h2,?_⟩;rw[ha _ h1,h3,bX ha h2]
def fT (P:Program)(T:List AV)(op:Op)(x:AV)(G:HX):Bool:=
 match op with
 | .load t a=>match aDe P t (aev T a) G with
  |some y=>eqA y x
  |none=>false
 |_=>true
def nH (j j':Nat)(T:List AV)(D:List AD)(hist:List HX):Bool:=Nat.beq j' j||(qL j T&& aWm j D&& hist.all fun H=>H.all (aC7 j))
def eO (P:Program)(rows:Bool)(cf:bF)(ops:Array Oper)(lo:List Nat)(D:List AD):List Nat->List HX->List AV->HX->Nat->Option (List AV×HX×Nat)
 |[],_,T,H,j=>some (T,H,j)
 |i::π,hist,T,H,j=>match ops[i]? with
  |none=>none
  |some o=>match awanted ops T o with
   |none=>none
   |some false=>eO P rows cf ops lo D π (if isE o.op=true then hist++[H] else hist) (tput T o.dst (.tup [])) H j
   | some true=>if isE o.op=true then
     (match o.op with
     | .call ⟨.value f,args,types⟩=>match acallee T ⟨.value f,args,types⟩ with
      |some (f,args)=>match cf f args H j with
       |some (.ret v,H',j')=>if nH j j' T D (hist++[H])=true then eO P rows cf ops lo D π (hist++[H]) (tput T o.dst v) H' j' else none
       |_=>none
      |none=>none
     | .defer _=>none
     |op=>match xsp P rows (aev T) H j op with
      |some (x,H',j')=>if nH j j' T D (hist++[H])=true then eO P rows cf ops lo D π (hist++[H]) (tput T o.dst x) H' j' else none
      |none=>match sC P (aev T) H op with
       |some (x,H')=>eO P rows cf ops lo D π (hist++[H]) (tput T o.dst x) H' j
       |none=>none)
    else match sC P (aev T) H o.op with
     |some (x,_)=>if(hist.drop (lo.getD i 0)).all (fun G=>fT P T o.op x G)=true then eO P rows cf ops lo D π hist (tput T o.dst x) H j else none
     |none=>match xrd P (aev T) o.op with
      |some x=>if hist.length<lo.getD i 0 then eO P rows cf ops lo D π hist (tput T o.dst x) H j else none
      |none=>none
inductive DRes where
 |nrm (T:List AV) (H:HX) (j:Nat)
 |pan (i:Nat) (f:FuncId) (args:List AV) (H:HX) (j:Nat) (v:AV) (H':HX) (j':Nat)
def aBt (P:Program)(rows:Bool)(cf:bF)(ops:Array Oper)(lo:List Nat)(D:List AD):List Nat->List HX->List AV->HX->Nat->Option DRes
 |[],_,T,H,j=>some (.nrm T H j)
 |i::π,hist,T,H,j=>match ops[i]? with
  |none=>none
  |some o=>match awanted ops T o with
   |none=>none
   |some false=>aBt P rows cf ops lo D π (if isE o.op=true then hist++[H] else hist) (tput T o.dst (.tup [])) H j
   | some true=>if isE o.op=true then
     (match o.op with
     | .call ⟨.value f,args,types⟩=>match acallee T ⟨.value f,args,types⟩ with
      |some (f,args)=>match cf f args H j with
       |some (.ret v,H',j')=>if nH j j' T D (hist++[H])=true then aBt P rows cf ops lo D π (hist++[H]) (tput T o.dst v) H' j' else none
       |some (.panic v,H',j')=>some (.pan i f args H j v H' j')
       |none=>none
      |none=>none
     | .defer _=>none
     |op=>match xsp P rows (aev T) H j op with
      |some (x,H',j')=>if nH j j' T D (hist++[H])=true then aBt P rows cf ops lo D π (hist++[H]) (tput T o.dst x) H' j' else none
      |none=>match sC P (aev T) H op with
       |some (x,H')=>aBt P rows cf ops lo D π (hist++[H]) (tput T o.dst x) H' j
       |none=>none)
    else match sC P (aev T) H o.op with
     |some (x,_)=>if(hist.drop (lo.getD i 0)).all (fun G=>fT P T o.op x G)=true then aBt P rows cf ops lo D π hist (tput T o.dst x) H j else none
     |none=>match xrd P (aev T) o.op with
      |some x=>if hist.length<lo.getD i 0 then aBt P rows cf ops lo D π hist (tput T o.dst x) H j else none
      |none=>none
theorem aE9 {P:Program} {rows:Bool} {cf:bF} {ops:Array Oper} {lo:List Nat} {D:List AD} {T':List AV} {H':HX} {j':Nat} :∀ {π:List Nat} {hist:List HX} {T:List AV} {H:HX} {j:Nat},aBt P rows cf ops lo D π hist T H j=some (.nrm T' H' j')->eO P rows cf ops lo D π hist T H j=some (T',H',j')
 |[],hist,T,H,j,h=>by
  simp only[aBt,bM0,DRes.nrm.injEq] at h;obtain⟨rfl,rfl,rfl⟩:=h
  rfl
 |i::π,hist,T,H,j,h=>by
  simp only[aBt] at h;simp only[eO]
  repeat' (split at h)
  all_goals first|(cases h;done)|(have q:=aE9 h;clear h;simp_all;done)
theorem iD {P:Program} {rows:Bool} {cf:bF} {ops:Array Oper} {lo:List Nat} {D:List AD} {e:Nat} {f:FuncId} {args:List AV} {H0:HX} {j0:Nat} {v:AV} {H1:HX} {j1:Nat} :∀ {π:List Nat} {hist:List HX} {T:List AV} {H:HX} {j:Nat},aBt P rows cf ops lo D π hist T H j=some (.pan e f args H0 j0 v H1 j1)->cf f args H0 j0=some (.panic v,H1,j1)
 |[],hist,T,H,j,h=>by simp only[aBt,bM0] at h;cases h
 |i::π,hist,T,H,j,h=>by
  simp only[aBt] at h;split at h
  ·cases h
  ·split at h
   ·cases h
   ·exact iD h
   ·split at h
    ·split at h
     ·split at h
      ·split at h
       ·split at h
        ·exact iD h
        ·cases h
       ·rename_i e2;simp only[bM0,DRes.pan.injEq] at h;obtain⟨rfl,rfl,rfl,rfl,rfl,rfl,rfl,rfl⟩:=h;exact e2
       ·cases h
      ·cases h
     ·cases h
     ·split at h
      ·split at h
       ·exact iD h
       ·cases h
      ·split at h
       ·exact iD h
       ·cases h
    ·split at h
     ·split at h
      ·exact iD h
      ·cases h
     ·split at h
      ·split at h
       ·exact iD h
       ·cases h
      ·cases h
section
variable {P:Program}
theorem uO {ρ:Operand->AV} {H H' G:HX} {op:Op} {x:AV} (he:isE op=false)(hl:∀t a,op≠ .load t a)(h:sC P ρ H op=some (x,H')):H'=H/\sC P ρ G op=some (x,G):=by
 unfold sC at h⊢;split at h
 ·simp[isE] at he
 ·simp[isE] at he
 ·rename_i t a;exact absurd rfl (hl t a)
 ·simp[isE] at he
 ·simp[isE] at he
 ·obtain⟨v,h1,h2⟩:=bMb.1 h;cases h2;rw[h1];exact⟨rfl,rfl⟩
 ·simp[isE] at he
 ·simp[isE] at he
 ·simp[isE] at he
 ·rename_i n1 n2 n3 n4 n5 n6 n7 n8 n9;split at h
  ·rename_i hp;split at h
   ·rename_i y g e;simp only[bM0,bMf] at h;obtain⟨rfl,rfl⟩:=h;simp[hp]
   ·cases h
  ·cases h
theorem aNu {ks:Ks} {T:List AV} {H H' G:HX} {op:Op} {x:AV} (he:isE op=false)(h:sC P (aev T) H op=some (x,H'))(hs:fT P T op x G=true):
  aop P (aev (T.map (io ks))) (iH ks G) op=some (io ks x,iH ks G):=by
 by_cases hl:∃t a,op= .load t a
 ·obtain⟨t,a,rfl⟩:=hl;simp only[fT] at hs;split at hs
  ·rename_i y hy;have e:=xZ hs;subst e;exact jW (fun y=>aev_io ks T y) (by simp only[sC,hy,bN2])
  ·cases hs
 ·obtain⟨_,h2⟩:=uO (G:=G) he (fun t a e=>hl ⟨t,a,e⟩) h;exact jW (fun y=>aev_io ks T y) h2
theorem aLz {ks ks':Ks} {j j':Nat} {T:List AV} {D:List AD} {hist:List HX} (h:nH j j' T D hist=true)(ha:Agree j ks ks')(he:j'=j->ks'=ks):T.map (io ks')=T.map (io ks)/\D.map (ioD ks')=D.map (ioD ks)/\hist.map (iH ks')=hist.map (iH ks):=by
 unfold nH at h;simp only[bNe,bM8] at h;rcases h with h|h
 ·rw[he (Nat.eq_of_beq_eq_true h)];exact⟨rfl,rfl,rfl⟩
 ·exact⟨bX ha h.1.1,jZ ha h.1.2,List.map_congr_left fun H hH=>pB ha (bMg.1 h.2 H hH)⟩
theorem bZ {G:Kn} (hG:G.Closed) {rows:Bool} {cf:bF} (hcf:gJ P G cf) {ops:Array Oper} {lo:List Nat} {D:List AD} {Kont:List AV->Heap->Prop} {T':List AV} {H':HX} {j':Nat} :
  ∀(π:List Nat) (hist:List HX) (T:List AV) (H:HX) (j:Nat),eO P rows cf ops lo D π hist T H j=some (T',H',j')->j<=j'/\∀ks,G j ks->
   (∀ks',Agree j ks ks'->(j'=j->ks'=ks)->D.map (ioD ks')=D.map (ioD ks)->Kont (T'.map (io ks')) (iH ks' H'))->DR P ops lo Kont π (hist.map (iH ks)) (T.map (io ks)) (iH ks H)
 |[],hist,T,H,j,h=>by
  simp only[eO,bM0,bMf] at h;obtain⟨rfl,rfl,rfl⟩:=h;exact⟨bLx _,fun ks _ J=>J ks (Agree.refl _ _) (fun _=>rfl) rfl⟩
 |i::π,hist,T,H,j,h=>by
  have ih:=bZ hG hcf (ops:=ops) (lo:=lo) (D:=D) (rows:=rows) (Kont:=Kont) (T':=T') (H':=H') (j':=j') π;simp only[eO] at h;split at h
  ·cases h
  ·rename_i o ho;split at h
   ·cases h
   ·rename_i hw;obtain⟨h1,h2⟩:=ih _ _ _ _ h;refine⟨h1,fun ks hg J=>⟨o,ho, .inl ⟨cI ops T o hw,?_⟩⟩⟩;have:=h2 ks hg J;rw[<-tput_io,io_tup,bNb] at this;split
    ·rename_i hE;rw[if_pos hE,bMy] at this;exact this
    ·rename_i hE;rw[if_neg hE] at this;exact this
   ·rename_i hw;have hw':=fun ks=>cI (ks:=ks) ops T o hw
    split at h
    ·rename_i hE
     --an operation of which the letters are new
     have fam:∀(v:AV) (H2:HX) (j2:Nat),j<=j2->nH j j2 T D (hist++[H])=true->eO P rows cf ops lo D π (hist++[H]) (tput T o.dst v) H2 j2=some (T',H',j')->
       (∀ks,G j ks->Does P o (T.map (io ks)) (iH ks H) (fun x g=>∃ks',Agree j ks ks'/\(j2=j->ks'=ks)/\x=io ks' v/\g=iH ks' H2))->
       j<=j'/\∀ks,G j ks->(∀ks',Agree j ks ks'->(j'=j->ks'=ks)->D.map (ioD ks')=D.map (ioD ks)->Kont (T'.map (io ks')) (iH ks' H'))->DR P ops lo Kont (i::π) (hist.map (iH ks)) (T.map (io ks)) (iH ks H):=by
      intro v H2 j2 hj hk hd hdo;obtain⟨h1,h2⟩:=ih _ _ _ _ hd;refine⟨by omega,fun ks hg J=>⟨o,ho, .inr (.inr (.inr (.inr (.inl ⟨hw' ks,hE,_,⟨_,_,ks,Agree.refl _ _,fun _=>rfl,rfl,rfl⟩,hdo ks hg,?_⟩))))⟩⟩;rintro x g ⟨ks',a1,a2,rfl,rfl⟩;obtain⟨e1,e2,e3⟩:=aLz hk a1 a2
      have:=h2 ks' (hG _ _ _ _ hg a1 hj) fun ks2 b1 b2 b3=>J ks2 (a1.trans hj b1) (fun e=>by
       have q1:j2=j:=aB;have q2:j'=j2:=aB;rw[b2 q2,a2 q1]) (by rw[b3,e2])
      rw[<-tput_io,e1,e3,bMy] at this;exact this
     split at h
     ·rename_i f args types hop;split at h
      ·rename_i f' args' hc;split at h
       ·rename_i v H2 j2 hcall;split at h
        ·rename_i hk;obtain⟨c1,c2,c3⟩:=hcf _ _ _ _ _ _ _ hcall;refine fam v H2 j2 c2 hk h fun ks hg=> .inr ⟨_,f',args'.map (io ks),hop,gK hc,c1,(c3 ks hg).mono ?_⟩
         rintro o' g ⟨ks',a1,a2,rfl,rfl⟩;exact⟨_,rfl,ks',a1,a2,rfl,rfl⟩
        ·cases h
       ·cases h
      ·cases h
     ·cases h
     ·rename_i nc nd;split at h
      ·rename_i x H2 j2 hx;split at h
       ·rename_i hk;refine fam x H2 j2 (aTw hx) hk h fun ks hg=> .inl ⟨fun c hc=>nd c hc,fun T2 hT2 E w a D2 st=>?_⟩
        obtain⟨ks',a1,a2,a3,hout⟩:=aOr (ks:=ks) (T2:=T2) (fun y hy=>by rw[hT2 y hy,aev_io]) st hx;exact⟨_,_,⟨ks',a1,a2,rfl,rfl⟩,hout⟩
       ·cases h
      ·split at h
       ·rename_i x H2 hx;obtain⟨h1,h2⟩:=ih _ _ _ _ h;refine⟨h1,fun ks hg J=>⟨o,ho, .inr (.inr (.inl ⟨hw' ks,hE,_,_,jW (fun y=>aev_io ks T y) hx,?_⟩))⟩⟩;have:=h2 ks hg J;rw[<-tput_io,bMy] at this;exact this
       ·cases h
    ·rename_i hE;have hE':isE o.op=false:=by simpa using hE
     split at h
     ·rename_i x H2 hx;split at h
      ·rename_i hst;obtain⟨h1,h2⟩:=ih _ _ _ _ h;refine⟨h1,fun ks hg J=>⟨o,ho,?_⟩⟩
       have e1:aop P (aev (T.map (io ks))) (iH ks H) o.op=some (io ks x,iH ks H):=by
        have h1:=jW (ks:=ks) (fun y=>aev_io ks T y) hx;have h2:=gL hE' h1;rw[h2] at h1;exact h1
       refine .inr (.inl ⟨hw' ks,hE',io ks x,e1,?_,?_⟩)
       ·rw[stab_iff];intro g hg;rw[<-List.map_drop] at hg;obtain⟨G',hG',rfl⟩:=bMr.1 hg;exact aNu hE' hx (bMg.1 hst G' hG')
       ·have:=h2 ks hg J;rw[<-tput_io] at this;exact this
      ·cases h
     ·split at h
      ·rename_i x hx;split at h
       ·rename_i hlt;obtain⟨h1,h2⟩:=ih _ _ _ _ h;refine⟨h1,fun ks hg J=>⟨o,ho, .inr (.inr (.inr (.inr (.inr ⟨hw' ks,hE',by rw[bMp];exact hlt,io ks x,⟨?_,?_⟩,?_⟩))))⟩⟩
        ·intro c hc;rw[hc] at hE';simp[isE] at hE'
        ·intro T2 hT2 E w a D2 st;exact aOo (ks:=ks) (fun y hy=>by rw[hT2 y hy,aev_io]) st hx
        ·have:=h2 ks hg J;rw[<-tput_io] at this;exact this
       ·cases h
      ·cases h
end
def eqX:XO->XO->Bool
 | .cells a, .cells b=>aAm a b
 | .row n j s a, .row n' j' s' b=>Nat.beq n n'&& Nat.beq j j'&& Nat.beq s s'&& aAm a b
 | .tok n s, .tok n' s'=>Nat.beq n n'&& Nat.beq s s'
 | .dblk, .dblk=>true
 | .dead, .dead=>true
 |_,_=>false
theorem bBi:∀ {a b:XO},eqX a b=true->a=b:=by
 intro a b h
 cases a<;>cases b<;>simp only[eqX,bM8] at h<;>try (cases h;done)
 ·rw[gF h]
 ·obtain⟨⟨⟨h1,h2⟩,h3⟩,h4⟩:=h;rw[Nat.eq_of_beq_eq_true h1,Nat.eq_of_beq_eq_true h2,Nat.eq_of_beq_eq_true h3,gF h4]
 ·rw[Nat.eq_of_beq_eq_true h.1,Nat.eq_of_beq_eq_true h.2]
 ·rfl
 ·rfl
def eqH:HX->HX->Bool
 |[],[]=>true
 |a::l,b::l'=>eqX a b&& eqH l l'
 |_,_=>false
theorem aKa:∀ {a b:HX},eqH a b=true->a=b
 |[],[],_=>rfl
 |a::l,b::l',h=>by
  simp only[eqH,bM8] at h;rw[bBi h.1,aKa h.2]
 |[],_::_,h=>by cases h
 |_::_,[],h=>by cases h
def aRd (ops:Array Oper)(i:Nat)(T:List AV)(H:HX)(j:Nat)(f:FuncId)(args:List AV)(H0:HX)(j0 j1:Nat)(D:List AD):Bool:=match ops[i]? with
 |some o=>(match awanted ops T o with
  |some true=>(match o.op with
   | .call ⟨.value c,xs,ts⟩=>(match acallee T ⟨.value c,xs,ts⟩ with
    |some (g,as')=>Nat.beq g f&& aAm as' args&& eqH H H0&& Nat.beq j j0&& nH j0 j1 T D []
    |none=>false)
   |_=>false)
  |_=>false)
 |none=>false
theorem aHi {ops:Array Oper} {i:Nat} {T:List AV} {H:HX} {j:Nat} {f:FuncId} {args:List AV} {H0:HX} {j0 j1:Nat} {D:List AD} (h:aRd ops i T H j f args H0 j0 j1 D=true):∃o c,ops[i]?=some o/\awanted ops T o=some true/\o.op= .call c/\acallee T c=some (f,args)/\H=H0/\j=j0/\nH j0 j1 T D []=true:=by
 unfold aRd at h;split at h
 ·rename_i o ho;split at h
  ·rename_i hw;split at h
   ·rename_i c xs ts hop;split at h
    ·rename_i g as' hc;simp only[bM8] at h;obtain⟨⟨⟨⟨h1,h2⟩,h3⟩,h4⟩,h5⟩:=h;have h1:=Nat.eq_of_beq_eq_true h1;have h2:=gF h2;subst h1;subst h2;exact⟨o,_,ho,hw,hop,hc,aKa h3,Nat.eq_of_beq_eq_true h4,h5⟩
    ·cases h
   ·cases h
  ·cases h
 ·cases h
def aWh (l:List (Nat×List Nat×List Nat×List Nat×List Nat))(i:Nat):Option (Nat×List Nat×List Nat×List Nat×List Nat):=l.find? fun q=>Nat.beq q.1 i
theorem yB {l:List (Nat×List Nat×List Nat×List Nat×List Nat)} {i:Nat} {q:Nat×List Nat×List Nat×List Nat×List Nat} (h:aWh l i=some q):q∈l/\q.1=i:=⟨List.mem_of_find?_eq_some h,Nat.eq_of_beq_eq_true (by have:=List.find?_some h;simpa using this)⟩
end Go.AI.EV
