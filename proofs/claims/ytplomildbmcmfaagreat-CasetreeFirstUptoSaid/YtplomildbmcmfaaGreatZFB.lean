import Derived.Test.YtplomildbmcmfaaGreatZA0
import Derived.Test.YtplomildbmcmfaaGreatZFA
namespace Go.AI
open Go
theorem pM {P:Program} {E w h} {t:TypeId} {x y:AV} {v:Value} (r:Rel E (Heap.at h) w)(hx:Rep E w x v)(hl:aAt P t x h=some y):
  ∃a u,v= .pointer (some a)/\(loadVar t a).run P w= .ok u w/\Rep E w y u:=by
 unfold aAt at hl;split at hl
 ·rename_i ag n hag hn;split at hl
  ·rename_i id off;simp only[Rep] at hx;obtain⟨b,hg,rfl⟩:=hx;split at hl
   ·rename_i cs hat;obtain⟨b',vs,hg',hrow,hreps⟩:=r.objs _ cs hat;rw[hg] at hg';cases hg';refine⟨⟨b,off,none⟩,?_⟩
    cases ag with
    |true=>
     simp only[if_true] at hl;split at hl
     ·rename_i hle;simp only[bM0] at hl;subst hl;have hl':=hreps.length;refine⟨.agg (List.toArray ((vs.drop off).take n)),rfl,?_,?_⟩
      ·simp[loadVar,gA hag,run_szT hn,aQs hrow (show off+n<=vs.length by omega)]
      ·simp only[Rep];exact⟨_,rfl,(hreps.drop off).take n⟩
     ·cases hl
    |false=>
     simp only[bMe,if_false] at hl;have hget:=hreps.get off;have hlt:off<cs.length:=(bLw.1 hl).1;have hl':=hreps.length;simp only[List.getD,hl,bMc] at hget;refine⟨vs[off]'aB,rfl,?_,?_⟩
     ·simp[loadVar,gA hag,hrow.cell,bLv (show off<vs.length by omega)]
     ·simpa [bLv (show off<vs.length by omega)] using hget
   ·cases hl
  ·rename_i cs;simp only[Rep,RepP] at hx;obtain⟨b,off,rfl,hat⟩:=hx;refine⟨⟨b,off,none⟩,?_⟩
   cases ag with
   |true=>
    simp only[if_true] at hl;split at hl
    ·rename_i hle;simp only[bM0] at hl;subst hl;obtain⟨vs,e1,e2⟩:=hat.load (P:=P) hle;exact⟨.agg (List.toArray vs),rfl,by simp[loadVar,gA hag,run_szT hn,e1],by simp only[Rep];exact⟨_,rfl,e2⟩⟩
    ·cases hl
   |false=>
    simp only[bMe,if_false,bMb] at hl;obtain⟨x,hx,rfl⟩:=hl;obtain⟨u,_,e1,e2⟩:=hat.get hx;exact⟨u,rfl,by simp only[bO7] at e1;simp[loadVar,gA hag,e1],by simp only[Rep];exact e2⟩
  ·cases hl
 ·cases hl
section
variable {P:Program} {E:Env} {w:World} {h h':Heap}
theorem Good.alloc (r:Rel E h.at w)(hf:Fresh E h.length) {cs:List AV} {vs:List Value} (hc:RepL E w cs vs)(T:TypeId) {s:Sem Value}
  (hs:s.run P w= .ok (.pointer (some ⟨w.heap.size,0,none⟩)) (w.alloc (.cells (List.toArray vs) T (0,0)))):Good P s E h w (.ptr h.length 0) (h++[some (.cells cs)]):=by
 obtain⟨h1,h2,h3⟩:=r.alloc hf hc T;refine⟨_,_,_,hs,h1,by simpa using h3,?_,h2⟩;exact y7i
theorem lB (off:Nat):∀(us:List Value)(k:Nat)(cs:Array Value),(us.zipIdx k).foldl (fun cs x=>cs.setIfInBounds (off+x.2) x.1) cs=List.toArray (patch cs.toList (off+k) us)
 |[],k,cs=>by simp[patch]
 |u::us,k,cs=>by
  simp only[List.zipIdx_cons,List.foldl_cons,patch];rw[lB off us (k+1)];simp[bO0]
theorem mZ (place:Nat->Option (Nat×Nat))(pl:List (Nat×Nat))(hpl:∀i p,pl[i]?=some p->place i=some p):
  ∀(parts:List (Nat×AV)) (vals:List (Nat×Value)) (cells:List AV) (vs:List Value) (out:List AV),
   parts.map (·.1)=vals.map (·.1)->RepL E w (parts.map (·.2)) (vals.map (·.2))->RepL E w cells vs->sK pl cells parts=some out->
   ∃vo:List Value,Instr.fill place (List.toArray vs) vals=some (List.toArray vo)/\RepL E w out vo
 |[],vals,cells,vs,out,h1,h2,h3,h4=>by
  simp at h1;subst h1;simp only[sK,bM0] at h4;subst h4;exact⟨vs,rfl,h3⟩
 |(i,x)::parts,vals,cells,vs,out,h1,h2,h3,h4=>by
  cases vals with
  |nil=>simp at h1
  |cons y vals=>
   obtain⟨i',v⟩:=y;simp only[bMd,bMz] at h1;obtain⟨rfl,h1⟩:=h1;simp only[bMd,RepL] at h2;obtain⟨v',us',e,r1,r2⟩:=h2;simp only[bMz] at e;obtain⟨rfl,rfl⟩:=e;simp only[sK] at h4;split at h4
   ·rename_i off n us hp hc;split at h4
    ·rename_i hcond;obtain⟨ns,e1,e2⟩:=gN hc r1;have hl:=e2.length;have hl3:=h3.length;obtain⟨vo,e3,e4⟩:=mZ place pl hpl parts vals (patch cells off us) (patch vs off ns) out h1 r2 (RepL.patch off e2 h3) h4;refine⟨vo,?_,e4⟩;simp only[Instr.fill,hpl _ _ hp];have hsz:v.cells.size=n:=by rw[e1];simp[hl,hcond.1]
     have hbound:¬(off+v.cells.size>(List.toArray vs).size):=by rw[hsz];simp;omega
     have hz:(v.cells.zipIdx.foldl (fun cs x=>cs.setIfInBounds (off+x.2) x.1) (List.toArray vs))=List.toArray (patch vs off ns):=by
      rw[e1,<-Array.foldl_toList];have:=lB off ns 0 (List.toArray vs);simpa using this
     refine y1v ?_;exact hz▸e3
    ·cases h4
   ·cases h4
theorem tX:∀(fs:List Field)(pl:List (Nat×Nat)),(fs.mapM fun f=>(szT P f.type).map fun n=>(f.offset,n))=some pl->
  (fs.mapM (m:=Sem) fun f=>do pure (f.offset,<-sizeOf f.type)).run P w= .ok pl w
 |[],pl,h=>by simp at h;subst h;simp
 |f::fs,pl,h=>by
  simp only[List.mapM_cons,Option.bind_eq_bind,Option.bind_eq_some_iff,bMb,Option.pure_def,bM0] at h;obtain⟨x,⟨n,hn,rfl⟩,l,hl,rfl⟩:=h;have ih:=tX fs l hl;simp only[List.mapM_cons,Sem.run_bind,run_szT hn,Result.andThen_ok,Sem.run_pure,ih]
theorem aB2 {t:TypeId} {parts:List (Nat×AV)} {vals:Array (Nat×Value)} {x:AV} (h1:parts.map (·.1)=vals.toList.map (·.1))(h2:RepL E w (parts.map (·.2)) (vals.toList.map (·.2)))
  (hb:pJ P t parts=some x):∃v,(Instr.build t vals).run P w= .ok v w/\Rep E w x v:=by
 unfold pJ at hb;split at hb
 ·rename_i z pl hz hpl;simp only[bMb] at hb;obtain⟨out,ho,rfl⟩:=hb;obtain⟨zv,hzr,hzc⟩:=jU (w:=w) hz;obtain⟨_,_,_,_,_,_,hprim⟩:=aN hz;unfold stT at hpl;split at hpl
  ·rename_i fs hu;have hm:=tX (P:=P) (w:=w) fs.toList pl hpl
   have hm':(fs.mapM (m:=Sem) fun f=>do pure (f.offset,<-sizeOf f.type)).run P w= .ok (List.toArray pl) w:=by
    rw[Array.mapM_eq_mapM_toList];simp only[Sem.run_map,hm,Result.andThen_ok]
   obtain⟨vo,e1,e2⟩:=mZ (E:=E) (w:=w) (fun i=>(List.toArray pl)[i]?) pl (fun i p hp=>by simpa using hp) parts vals.toList (prims z) z out h1 h2 (prims_rep hprim) ho;refine⟨.agg (List.toArray vo),?_,by simp only[Rep];exact⟨vo,rfl,e2⟩⟩;unfold Instr.build;simp only[Sem.run_bind,hzr,Result.andThen_ok,run_underlying hu,hzc]
   erw [hm']
   simp only[Result.andThen_ok,e1]
   rfl
  ·rename_i n e hu;simp only[bMb] at hpl;obtain⟨s,hs,rfl⟩:=hpl
   obtain⟨vo,e1,e2⟩:=mZ (E:=E) (w:=w) (fun i=>some (i*s,s)) ((List.range n).map fun i=>(i*s,s)) (fun i p hp=>by
    rw[bO4,bMb] at hp;obtain⟨a,ha,rfl⟩:=hp;obtain⟨_,rfl⟩:=bLw.1 ha;simp) parts vals.toList (prims z) z out h1 h2 (prims_rep hprim) ho
   refine⟨.agg (List.toArray vo),?_,by simp only[Rep];exact⟨vo,rfl,e2⟩⟩;unfold Instr.build;simp only[Sem.run_bind,hzr,Result.andThen_ok,run_underlying hu,hzc,run_szT hs,e1]
   rfl
  ·cases hpl
 ·cases hb
theorem patch_skip {α:Type} :∀(us x r:List α)(off:Nat),patch (x++r) (x.length+off) us=x++patch r off us
 |[],x,r,off=>rfl
 |u::us,x,r,off=>by
  simp only[patch];rw[bNf _ _ aB,show x.length+off-x.length=off by omega,show x.length+off+1=x.length+(off+1) by omega];exact patch_skip us x (r.set off u) (off+1)
theorem patch_full {α:Type} :∀(us x r:List α),us.length=x.length->patch (x++r) 0 us=us++r
 |[],x,r,h=>by
  have:x=[]:=by cases x<;>simp at h⊢
  subst this;rfl
 |u::us,x,r,h=>by
  cases x with
  |nil=>simp at h
  |cons y x=>
   simp only[patch,bLz,bO1];have:=patch_skip us [u] (x++r) 0;simp only[List.singleton_append,bNy,bO7] at this;rw[show(0+1)=1 from rfl,this,patch_full us x r (by simpa using h)]
theorem lW {α:Type} (sz:Nat):∀(es:List (List α))(i:Nat)(us:List α),(∀e∈es,e.length=sz)->us.length=sz->i<es.length->(es.set i us).flatten=patch es.flatten (i*sz) us
 |[],i,us,_,_,hi=>by simp at hi
 |e::es,0,us,he,hu,_=>by
  simp only[bO1,bNa,Nat.zero_mul];rw[patch_full us e es.flatten (by rw[hu,he e aA])]
 |e::es,i+1,us,he,hu,hi=>by
  simp only[bOc,bNa];rw[lW sz es i us (fun x hx=>he x (by simp[hx])) hu (by simpa using hi)];have:=patch_skip us e es.flatten (i*sz);rw[he e aA] at this;rw[show(i+1)*sz=sz+i*sz by rw[bOm];omega,this]
theorem flat_replicate {α:Type} [Inhabited α] (z:Array α)(n:Nat):(Array.range (n*z.size)).map (fun i=>z[i%z.size]!)=List.toArray (List.replicate n z.toList).flatten:=by
 apply bOb;simp only[Array.toList_map,Array.toList_range]
 induction n with
 |zero=>simp
 |succ n ih=>
  rw[List.replicate_succ',bOa,<-ih,bOm,List.range_add,bMy]
  congr 1
  simp only[bNa,List.flatten_nil,bM1,bOr];apply List.ext_getElem
  ·simp
  ·intro i h1 h2;simp at h1 h2;simp[Nat.add_mod,Nat.mod_eq_of_lt h2,h2]
theorem aF9:∀ {x:AV} {y:PV} {v:Value},rQ x=some y->Rep E w x v->RepP E w y v
 | .p x,y,v,h,r=>by simp only[rQ,bM0] at h;subst h;simpa only[Rep] using r
 | .own tok sz es,y,v,h,r=>by
  simp only[rQ,bM0] at h;subst h;simp only[Rep,RepP] at r⊢;obtain⟨L,_,_,blk,cap,rfl,hc,h,_⟩:=r;refine⟨_,cap,rfl,hc,h.imp id ?_⟩;rintro⟨b,rfl,hh⟩;exact⟨b,0,rfl,hh⟩
 | .ifc t x,y,v,h,r=>by
  simp only[rQ] at h;split at h
  ·rename_i y' hy;simp only[bM0] at h;subst h;simp only[Rep,RepP] at r⊢;obtain⟨u,e,r⟩:=r;exact⟨u,e,aF9 hy r⟩
  ·cases h
 | .agg _,_,_,h,_=>by simp[rQ] at h
 | .tup _,_,_,h,_=>by simp[rQ] at h
 | .ptr _ _,_,_,h,_=>by simp[rQ] at h
 | .sm _ _ _ _ _,_,_,h,_=>by simp[rQ] at h
 | .fn _ _ _,_,_,h,_=>by simp[rQ] at h
 | .mp _,_,_,h,_=>by simp[rQ] at h
 | .vec _ _,_,_,h,_=>by simp[rQ] at h
 | .junk,_,_,h,_=>by simp[rQ] at h
theorem aA4:∀ {xs:List AV} {ys:List PV} {vs:List Value},nS xs=some ys->RepL E w xs vs->RepL E w (ys.map .p) vs
 |[],ys,vs,h,r=>by simp only[nS,bM0] at h;subst h;exact r
 |x::xs,ys,vs,h,r=>by
  simp only[nS] at h;split at h
  ·rename_i y ys' hy hys;simp only[bM0] at h;subst h;simp only[RepL,bMd] at r⊢;obtain⟨v,us,e,r1,r2⟩:=r;exact⟨v,us,e,by simp only[Rep];exact aF9 hy r1,aA4 hys r2⟩
  ·cases h
theorem jO {α β:Type} (f:α->β):∀(us l:List α)(off:Nat),(patch l off us).map f=patch (l.map f) off (us.map f)
 |[],l,off=>rfl
 |u::us,l,off=>by simp only[patch,bMd];rw[jO f us];simp[List.map_set]
theorem lA (sz:Nat):∀(parts:List (Nat×AV))(vals:List (Nat×Value))(es:List (List PV))(vs:List Value)(out:List (List PV)),
  parts.map (·.1)=vals.map (·.1)->RepL E w (parts.map (·.2)) (vals.map (·.2))->(∀e∈es,e.length=sz)->RepL E w (es.flatten.map .p) vs->kJ sz es parts=some out->
  ∃vo:List Value,Instr.fill (fun i=>some (i*sz,sz)) (List.toArray vs) vals=some (List.toArray vo)/\RepL E w (out.flatten.map .p) vo/\(∀e∈out,e.length=sz)/\out.length=es.length
 |[],vals,es,vs,out,h1,h2,he,h3,h4=>by
  simp at h1;subst h1;simp only[kJ,bM0] at h4;subst h4;exact⟨vs,rfl,h3,he,rfl⟩
 |(i,x)::parts,vals,es,vs,out,h1,h2,he,h3,h4=>by
  cases vals with
  |nil=>simp at h1
  |cons y vals=>
   obtain⟨i',v⟩:=y;simp only[bMd,bMz] at h1;obtain⟨rfl,h1⟩:=h1;simp only[bMd,RepL] at h2;obtain⟨v',us',e,r1,r2⟩:=h2;simp only[bMz] at e;obtain⟨rfl,rfl⟩:=e;simp only[kJ] at h4;split at h4
   ·rename_i us hc;split at h4
    ·rename_i hcond;obtain⟨hlen,hi⟩:=hcond;obtain⟨cs,hcs,hpv⟩:=Option.bind_eq_some_iff.1 hc;obtain⟨ns,e1,e2⟩:=gN hcs r1;have e2':=aA4 hpv e2;have hl:=e2'.length;simp only[bMp] at hl;have hfl:es.flatten.length=es.length*sz:=flat_length he;have hl3:=h3.length;simp only[bMp] at hl3
     have hset:RepL E w ((es.set i us).flatten.map .p) (patch vs (i*sz) ns):=by
      rw[lW sz es i us he hlen hi,jO];exact RepL.patch _ e2' h3
     have he':∀e∈es.set i us,e.length=sz:=by
      intro e hm;rcases List.mem_or_eq_of_mem_set hm with hm|hm
      ·exact he e hm
      ·rw[hm];exact hlen
     obtain⟨vo,e3,e4,e5,e6⟩:=lA sz parts vals (es.set i us) (patch vs (i*sz) ns) out h1 r2 he' hset h4;refine⟨vo,?_,e4,e5,by rw[e6];simp⟩
     have hb:i*sz+sz<=es.length*sz:=by
      have:(i+1)*sz<=es.length*sz:=bNk _ hi;rw[bOm] at this;omega
     simp only[Instr.fill];have hsz:v.cells.size=sz:=by rw[e1];simp[hl,hlen]
     have hbound:¬(i*sz+v.cells.size>(List.toArray vs).size):=by rw[hsz];simp;omega
     have hz:(v.cells.zipIdx.foldl (fun cs x=>cs.setIfInBounds (i*sz+x.2) x.1) (List.toArray vs))=List.toArray (patch vs (i*sz) ns):=by
      rw[e1,<-Array.foldl_toList];have:=lB (i*sz) ns 0 (List.toArray vs);simpa using this
     refine y1v ?_;exact hz▸e3
    ·cases h4
   ·cases h4
theorem uC (z:List Value)(n:Nat):(List.replicate n (z.map PV.prim)).flatten.map AV.p=prims (List.replicate n z).flatten:=by
 unfold prims
 induction n with
 |zero=>rfl
 |succ n ih=>simp[bN3,ih,Function.comp_def]
theorem Good.slice (r:Rel E h.at w)(hf:Fresh E h.length) {sz:Nat} {es:List (List PV)} {vs:List Value} (hes:∀e∈es,e.length=sz)(hc:RepL E w (es.flatten.map .p) vs)(T:TypeId) {s:Sem Value}
  (hs:s.run P w= .ok (.slice (some ⟨w.heap.size,0,none⟩) es.length es.length) (w.alloc (.cells (List.toArray vs) T (0,0)))):Good P s E h w (.p (.sl sz es)) h:=by
 obtain⟨h1,h2⟩:=r.alloc_ro vs T;refine⟨_,_,_,hs,h1,hf,?_,h2⟩;simp only[Rep,RepP];refine⟨_,_,rfl,bLx _, .inr ⟨w.heap.size,0,rfl,?_⟩⟩;have hrow:Row (w.alloc (.cells (List.toArray vs) T (0,0))) w.heap.size vs:=⟨T,alloc_new _⟩;exact RepEs.of_row hes (fun j v hj=>⟨.inr rfl,by rw[hrow.cell];simpa using hj⟩) (hc.ext h2.ext)
theorem oU {t:TypeId} {len:Nat} {parts:List (Nat×AV)} {vals:Array (Nat×Value)} {x:AV} (r:Rel E h.at w)(hf:Fresh E h.length)
  (h1:parts.map (·.1)=vals.toList.map (·.1)) (h2:RepL E w (parts.map (·.2)) (vals.toList.map (·.2)))
  (hb:eW P t len parts=some x):Good P (Instr.buildSlice t len vals) E h w x h:=by
 unfold eW at hb;split at hb
 ·rename_i e hel;split at hb
  ·rename_i sz z hsz hz;split at hb
   ·rename_i hcond;obtain⟨hlim,hpos⟩:=hcond;simp only[bMb] at hb;obtain⟨out,ho,rfl⟩:=hb;obtain⟨zv,hzr,hzc⟩:=jU (w:=w) hz;obtain⟨i,_,hi,_,_,hzl,hprim⟩:=aN hz;have hzs:z.length=sz:=by unfold szT at hsz;rw[hi] at hsz;simp at hsz;omega
    have hu0:∀e∈List.replicate len (z.map PV.prim),e.length=sz:=by
     intro e he;rw[(bOp.1 he).2];simp[hzs]
    have h30:RepL E w ((List.replicate len (z.map PV.prim)).flatten.map .p) (List.replicate len z).flatten:=by
     rw[uC];exact y3e
    obtain⟨vo,e1,e2,e3,e4⟩:=lA (E:=E) (w:=w) sz parts vals.toList _ _ out h1 h2 hu0 h30 ho;simp only[List.length_replicate] at e4;subst e4;refine Good.slice r hf e3 e2 e ?_
    have hinit:(Array.range (out.length*sz)).map (fun i=>(List.toArray z)[i%(List.toArray z).size]!)=List.toArray (List.replicate out.length z).flatten:=by
     exact y71
    refine y1o ?_
    by_cases hz0:out.length*sz=0
    ·have hl0:out.length=0:=by
      exact y5r
     have e1':Instr.fill (fun i=>some (i*sz,sz)) #[] vals.toList=some (List.toArray vo):=by
      rw[hl0] at e1;simpa using e1
     exact y7e
    ·exact y72
   ·cases hb
  ·cases hb
 ·cases hb
end
open Go
section
variable {P:Program} {E:Env} {w:World} {h h':Heap}
theorem aCw {t:TypeId} {a x:AV} {va vx:Value} (r:Rel E h.at w)(ha:Rep E w a va)(hx:Rep E w x vx)(hs:sZ P t a x h=some h'):
  ∃w',(Instr.storeAt t va vx).run P w= .ok () w'/\Rel E (Heap.at h') w'/\Fr E h.at w E (Heap.at h') w'/\h'.length=h.length:=by
 unfold sZ at hs;split at hs
 ·rename_i id off;split at hs
  ·rename_i cs us hat hc;split at hs
   ·rename_i hcond;obtain⟨hsz,hl,hone⟩:=hcond;simp only[bM0] at hs;subst hs;simp only[Rep] at ha;obtain⟨b,hg,rfl⟩:=ha;obtain⟨b',vs,hg',hrow,hreps⟩:=r.objs _ cs hat;rw[hg] at hg';cases hg';obtain⟨ns,e1,e2⟩:=gN hc hx;have hln:=e2.length;have hlv:=hreps.length;obtain⟨w',hrun,hrow',hsame,hsize,hos,hout⟩:=rM (P:=P) hrow (off:=off) (us:=ns) aB (RepL.one_all hone e2);obtain⟨h1,h2⟩:=r.write hat hg hrow' hsame hsize hos hout (RepL.patch off e2 hreps);refine⟨w',?_,h1,h2,by simp⟩;simp[Instr.storeAt,Instr.sureAddr,storeVar,run_szT hsz,e1,hln,hrun]
   ·cases hs
  ·cases hs
 ·cases hs
theorem tM {t:TypeId} {f fo n:Nat} {g:Bool} (hf:cD P t f=some (fo,n,g)):
  ∃fs fd,P.underlying t=some (.struct fs)/\fs[f]?=some fd/\fd.offset=fo/\szT P fd.type=some n/\dW P fd.type=some g/\n≠0:=by
 unfold cD at hf;split at hf
 ·rename_i fs hu;split at hf
  ·rename_i fd hfd;split at hf
   ·rename_i n' g' hn hg;split at hf
    ·cases hf
    ·rename_i hne;simp only[bM0,bMf] at hf;obtain⟨rfl,rfl,rfl⟩:=hf;exact⟨fs,fd,hu,hfd,rfl,hn,hg,hne⟩
   ·cases hf
  ·cases hf
 ·cases hf
theorem qC {t:TypeId} {f:Nat} {x y:AV} {v:Value} (hx:Rep E w x v)(hf:dZ P t x f=some y):∃u,(Instr.fieldAt t v f).run P w= .ok u w/\Rep E w y u:=by
 unfold dZ at hf;split at hf
 ·rename_i fo n g hfl;obtain⟨fs,fd,hu,hfd,ho,hn,_,hne⟩:=tM hfl;split at hf
  ·simp only[bM0] at hf;subst hf;simp only[Rep] at hx⊢;obtain⟨b,hg,rfl⟩:=hx;refine⟨_,?_,b,hg,rfl⟩;exact y78
  ·rename_i cs;split at hf
   ·rename_i hle;simp only[bM0] at hf;subst hf;simp only[Rep,RepP] at hx⊢;obtain⟨b,off,rfl,hat⟩:=hx;refine⟨_,?_,b,off+fo,rfl,hat.drop fo hle⟩;exact y78
   ·cases hf
  ·cases hf
 ·cases hf
theorem uB {t:TypeId} {n off:Nat} {g:Bool} (hn:szT P t=some n)(hg:dW P t=some g) {cs:List AV} {vs:List Value} (hc:RepL E w cs vs) {y:AV}
  (hy:(if g then some (.agg ((cs.drop off).take n)) else cs[off]?)=some y):∃u,(part t (List.toArray vs) off).run P w= .ok u w/\Rep E w y u:=by
 cases g with
 |true=>
  simp only[if_true,bM0] at hy;subst hy;refine⟨.agg (List.toArray ((vs.drop off).take n)),?_,by simp only[Rep];exact⟨_,rfl,(hc.drop off).take n⟩⟩;simp[part,gA hg,run_szT hn]
 |false=>
  simp only[bMe,if_false] at hy;have hlt:off<cs.length:=(bLw.1 hy).1;have hl:=hc.length;have hget:=hc.get off;simp only[List.getD,hy,bMc] at hget;refine⟨vs[off]'aB,?_,by simpa [bLv (show off<vs.length by omega)] using hget⟩;simp[part,gA hg,bLv (show off<vs.length by omega)]
theorem aBx {t:TypeId} {f:Nat} {x y:AV} {v:Value} (hx:Rep E w x v)(hf:pK P t x f=some y):∃u,(Instr.field t v f).run P w= .ok u w/\Rep E w y u:=by
 unfold pK at hf;split at hf
 ·rename_i fo n g hfl;obtain⟨fs,fd,hu,hfd,ho,hn,hg,hne⟩:=tM hfl;split at hf
  ·rename_i cs;simp only[Rep] at hx;obtain⟨vs,rfl,hc⟩:=hx;obtain⟨u,e1,e2⟩:=uB (P:=P) hn hg hc hf;refine⟨u,?_,e2⟩;simp[Instr.field,run_underlying hu,hfd,asAgg,ho,e1]
  ·cases hf
 ·cases hf
theorem intA_rep {x:AV} {n:Int} {v:Value} (hi:sG x=some n)(hx:Rep E w x v):∃k,v= .int k n:=by
 unfold sG at hi;split at hi
 ·simp only[bM0] at hi;subst hi;simp only[Rep,RepP] at hx;exact⟨_,hx.1⟩
 ·cases hi
theorem aEy {tok sz:Nat} {es:List (List PV)} {v:Value} (hx:Rep E w (.own tok sz es) v):RepP E w (.sl sz es) v:=by
 simp only[Rep,RepP] at hx⊢;obtain⟨L,_,_,blk,cap,rfl,hc,h,_⟩:=hx;exact y7r
theorem oC {t e:TypeId} {sz:Nat} {es:List (List PV)} {n:Int} {k:IntKind} {v:Value} {y:AV} (hel:elT P t=some e)(hsz:szT P e=some sz)(hn:¬n<0)
  (hv:RepP E w (.sl sz es) v) (hy:((es[n.toNat]?).map fun e=>AV.p (.ro e))=some y):∃u,(Instr.indexAt t v (.int k n)).run P w= .ok u w/\Rep E w y u:=by
 simp only[bMb] at hy;obtain⟨e',he,rfl⟩:=hy;have hlt:n.toNat<es.length:=(bLw.1 he).1;simp only[RepP] at hv;obtain⟨a,cap,rfl,_,hh⟩:=hv;obtain⟨b,off,rfl,hr⟩:=hh.resolve_left (by rintro rfl;simp at hlt);refine⟨.pointer (some ⟨b,off+n.toNat*sz,none⟩),?_,by simp only[Rep,RepP];exact⟨b,_,rfl,hr.get he⟩⟩;have h1:0<=n:=aB;have h2:n<(es.length:Int):=aB;simp[Instr.indexAt,asIntOf,run_elT hel,h1,h2,run_szT hsz,addr_add]
theorem qI {t:TypeId} {x i y:AV} {v vi:Value} (hx:Rep E w x v)(hi:Rep E w i vi)(hf:eA P t x i=some y):∃u,(Instr.indexAt t v vi).run P w= .ok u w/\Rep E w y u:=by
 unfold eA at hf;split at hf
 ·rename_i n hn;obtain⟨k,rfl⟩:=intA_rep hn hi;split at hf
  ·cases hf
  ·rename_i hneg;split at hf
   ·rename_i e hel;split at hf
    ·rename_i sz hsz;split at hf
     ·rename_i s es;split at hf
      ·rename_i hs;subst hs;exact oC hel hsz hneg (by simpa only[Rep] using hx) hf
      ·cases hf
     ·rename_i s es;split at hf
      ·rename_i hs;subst hs;exact oC hel hsz hneg (aEy hx) hf
      ·cases hf
     ·rename_i id off len cap s;split at hf
      ·rename_i hc;obtain⟨rfl,hlt⟩:=hc;simp only[bM0] at hf;subst hf;simp only[Rep] at hx⊢;obtain⟨b,hg,rfl⟩:=hx;refine⟨_,?_,b,hg,rfl⟩;have h1:0<=n:=aB;simp[Instr.indexAt,asIntOf,run_elT hel,h1,hlt,run_szT hsz,addr_add]
      ·cases hf
     ·cases hf
    ·cases hf
   ·split at hf
    ·rename_i m e har;have hu:=aOa har;split at hf
     ·rename_i sz hsz;split at hf
      ·rename_i id off;split at hf
       ·rename_i hlt;simp only[bM0] at hf;subst hf;simp only[Rep] at hx⊢;obtain⟨b,hg,rfl⟩:=hx;refine⟨_,?_,b,hg,rfl⟩;exact y6i
       ·cases hf
      ·rename_i cs;split at hf
       ·rename_i hc;obtain⟨hlt,hle⟩:=hc;simp only[bM0] at hf;subst hf;simp only[Rep,RepP] at hx⊢;obtain⟨b,off,rfl,hat⟩:=hx;refine⟨_,?_,b,off+n.toNat*sz,rfl,hat.drop _ hle⟩;exact y6i
       ·cases hf
      ·cases hf
     ·cases hf
    ·cases hf
 ·cases hf
theorem aC4 {t:TypeId} {x i y:AV} {v vi:Value} (hx:Rep E w x v)(hi:Rep E w i vi)(hf:pL P t x i=some y):∃u,(Instr.index t v vi).run P w= .ok u w/\Rep E w y u:=by
 unfold pL at hf;split at hf
 ·rename_i n hn;obtain⟨k,rfl⟩:=intA_rep hn hi;split at hf
  ·cases hf
  ·rename_i hneg;have h1:0<=n:=aB;split at hf
   ·rename_i s;split at hf
    ·rename_i hu;have hu':=aSh hu;simp only[bMb] at hf;obtain⟨bt,hb,rfl⟩:=hf;simp only[Rep,RepP] at hx;obtain⟨rfl,_⟩:=hx
     have hsb:s[n.toNat]?=some bt:=by
      have hlt:n.toNat<s.data.size:=(bN9.1 hb).1;have he:s.data[n.toNat]=bt:=(bN9.1 hb).2;have hlt':n.toNat<s.size:=hlt;rw[getElem?_pos s n.toNat hlt'];exact congrArg some he
     refine⟨.int .u8 bt.toNat,?_,by simp[Rep,RepP,isPrim]⟩;simp[Instr.index,asIntOf,run_underlying hu',h1,hsb]
    ·cases hf
   ·rename_i cs;split at hf
    ·rename_i m e har;have hu:=aOa har;split at hf
     ·rename_i sz ag hsz hag;split at hf
      ·rename_i hlt;simp only[Rep] at hx;obtain⟨vs,rfl,hc⟩:=hx;obtain⟨u,e1,e2⟩:=uB (P:=P) hsz hag hc hf;refine⟨u,?_,e2⟩;simp[Instr.index,asIntOf,run_underlying hu,h1,hlt,run_szT hsz,e1]
      ·cases hf
     ·cases hf
    ·cases hf
   ·cases hf
 ·cases hf
theorem aFv {op:BinOp} {t:TypeId} {a b v:Value} (hv:aXw op a b=some v):(binOp op t a b).run P w= .ok v w/\isPrim v=true:=by
 cases a<;>cases b<;>simp only[aXw] at hv<;>try (cases hv;done)
 ·split at hv
  ·rename_i hk;subst hk
   cases op<;>simp at hv<;>(try (have h0:=hv.1;replace hv:=hv.2))<;>subst hv<;>simp[binOp,Op.intArith,Op.intCmp,Op.intDiv,Op.intBits,Op.shift,isPrim, *]<;>(intro hneg;omega)
  ·split at hv
   ·rename_i h;obtain⟨rfl,h0⟩:=h;cases hv;simp[binOp,Op.shift,isPrim,Int.not_lt.2 h0]
   ·cases hv
 ·rename_i a b
  by_cases hop:op= .add
  ·subst hop;simp only at hv;split at hv
   ·rename_i hs;cases hv;have:¬((a.size+b.size:Nat):Int)>IntKind.i64.max:=by simp[IntKind.max,IntKind.bits,IntKind.signed];omega
    simp[binOp,Op.stringOp,isPrim];omega
   ·cases hv
  ·cases op<;>simp at hv hop<;>subst hv<;>simp[binOp,Op.stringOp,isPrim]
theorem oA {op:BinOp} {t:TypeId} {x y:Operand} {a b:Value} (ha:∀cs,a≠ .agg cs)(hn:a≠ .nilIface):(eqGuard op t x y a b).run P w= .ok () w:=by
 unfold eqGuard
 cases op<;>first|rfl|(cases a<;>first|exact absurd rfl hn|exact absurd rfl (ha _)|(cases b<;>rfl))
theorem aRc {P:Program} {w:World} {t:TypeId} (h:aHg P t=true)(k k':IntKind)(a b a' b':Int):
  (Op.equal t (.agg #[.int k a, .int k' b]) (.agg #[.int k a', .int k' b'])).run P w= .ok (a==a'&& b==b') w:=by
 unfold aHg at h;split at h
 ·rename_i f0 f1 hu;simp only[bM8,bne_iff_ne,ne_eq,beq_iff_eq,bN0] at h;obtain⟨⟨⟨⟨⟨⟨⟨⟨h1,h2⟩,h3⟩,h4⟩,h5⟩,h6⟩,h7⟩,h8⟩,h9⟩:=h;split at h7
  ·rename_i k0 k1 hu0 hu1
   have e0:∀d,(Op.equalIn (d+1) f0.type (.int k a) (.int k a')).run P w= .ok (a==a') w:=by
    intro d;simp[Op.equalIn,run_underlying hu0]
   have e1:∀d,(Op.equalIn (d+1) f1.type (.int k' b) (.int k' b')).run P w= .ok (b==b') w:=by
    intro d;simp[Op.equalIn,run_underlying hu1]
   have g0:=gA (w:=w) h5;have g1:=gA (w:=w) h6
   have:∀d,(Op.equalIn (d+2) t (.agg #[.int k a, .int k' b]) (.agg #[.int k a', .int k' b'])).run P w= .ok (a==a'&& b==b') w:=by
    intro d;rw[Op.equalIn];simp only[Sem.run_bind,run_underlying hu,Result.andThen_ok];simp[h1,h2,h3,h4,h8,g0,g1,e0,e1,part]
    by_cases q1:a=a'<;>by_cases q2:b=b'<;>simp[q1,q2]
   exact this 9998
  ·cases h7
 ·cases h
theorem aHh {P:Program} {w:World} {t:TypeId} (h:aHg P t=true)(op:BinOp)(x y:Operand)(xs ys:Array Value):
  (eqGuard op t x y (.agg xs) (.agg ys)).run P w= .ok () w:=by
 have h9:P.eqGuardType P.depth t=false:=by
  unfold aHg at h;split at h
  ·simp only[bM8,bN0] at h;exact h.2
  ·cases h
 unfold eqGuard
 cases op<;>simp[h9]
theorem aFl {op:BinOp} {t:TypeId} {x y z:AV} {ox oy:Operand} {a b:Value} (hx:Rep E w x a)(hy:Rep E w y b)(hb:abin P op t x y=some z):
  ∃v,(do eqGuard op t ox oy a b;binOp op t a b:Sem Value).run P w= .ok v w/\Rep E w z v:=by
 unfold abin at hb;split at hb
 ·rename_i p q;simp only[Rep,RepP] at hx hy;obtain⟨rfl,_⟩:=hx;obtain⟨rfl,_⟩:=hy;split at hb
  ·rename_i hu;have hu':=aOb hu;have hg:=oA (P:=P) (w:=w) (op:=op) (t:=t) (x:=ox) (y:=oy) (a:= .bool p) (b:= .bool q) aA aA
   have he:(Op.equal t (.bool p) (.bool q)).run P w= .ok (p==q) w:=by
    have:∀d,(Op.equalIn (d+1) t (.bool p) (.bool q)).run P w= .ok (p==q) w:=by
     intro d;simp only[Op.equalIn,Sem.run_bind,run_underlying hu',Result.andThen_ok];rfl
    exact this 9999
   cases op<;>simp at hb<;>subst hb
   ·exact⟨.bool (p==q),by simp[hg,binOp,he],by simp[Rep,RepP,isPrim]⟩
   ·exact⟨.bool (!(p==q)),by simp[hg,binOp,he],by simp[Rep,RepP,isPrim]⟩
  ·cases hb
 ·rename_i p q _;simp only[Rep,RepP] at hx hy;obtain⟨rfl,hpx⟩:=hx;obtain⟨rfl,_⟩:=hy;simp only[bMb] at hb;obtain⟨v,hv,rfl⟩:=hb;obtain⟨h1,h2⟩:=aFv (P:=P) (w:=w) (t:=t) hv;have hg:=oA (P:=P) (w:=w) (op:=op) (t:=t) (x:=ox) (y:=oy) (a:=a) (b:=b) (by rintro cs rfl;simp[aXw] at hv) (by rintro rfl;simp[aXw] at hv);exact⟨v,by simp[hg,h1],by simp[Rep,RepP,h2]⟩
 ·rename_i k a k2 b k' a' k2' b';simp only[Rep,RepL,RepP] at hx hy;obtain⟨vs,rfl,v1,us1,rfl,⟨rfl,_⟩,v2,us2,rfl,⟨rfl,_⟩,rfl⟩:=hx;obtain⟨vs',rfl,v1',us1',rfl,⟨rfl,_⟩,v2',us2',rfl,⟨rfl,_⟩,rfl⟩:=hy;split at hb
  ·rename_i hc;obtain⟨hp,rfl,rfl⟩:=hc;have hg:=aHh (P:=P) (w:=w) hp op ox oy #[.int k a, .int k2 b] #[.int k a', .int k2 b'];have he:=aRc (P:=P) (w:=w) hp k k2 a b a' b'
   cases op<;>simp at hb<;>subst hb
   ·exact⟨.bool (a==a'&& b==b'),by simp[hg,binOp,he],by simp[Rep,RepP,isPrim]⟩
   ·exact⟨.bool (!(a==a'&& b==b')),by simp[hg,binOp,he],by simp[Rep,RepP,isPrim]⟩
  ·cases hb
 ·cases hb
theorem aJ2 {op:UnOp} {x z:AV} {a:Value} (hx:Rep E w x a)(hb:aun op x=some z):∃v,(Op.unary op a).run P w= .ok v w/\Rep E w z v:=by
 unfold aun at hb;split at hb
 ·rename_i b;simp only[Rep,RepP] at hx;obtain⟨rfl,_⟩:=hx;simp only[bM0] at hb;subst hb;exact⟨.bool !b,rfl,by simp[Rep,RepP,isPrim]⟩
 ·rename_i k n;simp only[Rep,RepP] at hx;obtain⟨rfl,_⟩:=hx;simp only[bM0] at hb;subst hb;exact⟨.int k (k.wrap (0-n)),rfl,by simp[Rep,RepP,isPrim]⟩
 ·cases hb
theorem aAs {s d:TypeId} {x z:AV} {a:Value} (hx:Rep E w x a)(hb:xB P s d x=some z):∃v,(convert s d a).run P w= .ok v w/\Rep E w z v:=by
 unfold xB at hb;split at hb
 ·rename_i ds k kk n hs hd;simp only[Rep,RepP] at hx;obtain⟨rfl,_⟩:=hx;simp only[bM0] at hb;subst hb;refine⟨.int k (k.wrap n),?_,by simp[Rep,RepP,isPrim]⟩;simp only[convert,Sem.run_bind,run_underlying hs,Result.andThen_ok,run_underlying hd]
  cases ds<;>rfl
 ·cases hb
theorem aFp {t ty:TypeId} {x z:AV} {a:Value} (hx:Rep E w x a)(hb:aT8 P t x=some z):∃v,(Builtin.len_ #[t] ty #[a]).run P w= .ok v w/\Rep E w z v:=by
 unfold aT8 at hb;split at hb<;>try (cases hb;done)
 all_goals (simp only[bM0] at hb;subst hb)
 ·rename_i s hu;simp only[Rep,RepP] at hx;obtain⟨rfl,_⟩:=hx;exact y3k
 ·rename_i e hu;simp only[Rep,RepP] at hx;obtain⟨rfl,_⟩:=hx;exact y3k
 ·rename_i e sz es hu;simp only[Rep,RepP] at hx;obtain⟨_,_,rfl,_⟩:=hx;exact y3k
 ·rename_i e tok sz es hu;simp only[Rep] at hx;obtain⟨_,_,_,_,_,rfl,_⟩:=hx;exact y3k
 ·rename_i e id off n cap sz hu;simp only[Rep] at hx;obtain⟨_,_,rfl⟩:=hx;exact y3k
end
open Go
section
variable {P:Program} {E:Env} {w:World} {h h':Heap}
theorem RepEs.append {b sz:Nat} :∀ {es ys:List (List PV)} {off:Nat},RepEs E w b sz off es->RepEs E w b sz (off+es.length*sz) ys->RepEs E w b sz off (es++ys)
 |[],ys,off,_,s=>by simpa using s
 |e::es,ys,off,r,s=>by
  simp only[RepEs,bLz] at r⊢;refine⟨r.1,r.2.1,RepEs.append r.2.2 ?_⟩;rw[show off+sz+es.length*sz=off+(e::es).length*sz by simp[bOm];omega];exact s
theorem jQ {α:Type} :∀(us l:List α)(off i:Nat),i<off->(patch l off us)[i]?=l[i]?
 |[],l,off,i,_=>rfl
 |u::us,l,off,i,hi=>by
  simp only[patch];rw[jQ us _ _ _ aB,bMl aB]
theorem oM {α:Type} :∀(us l:List α)(off j:Nat),off+us.length<=l.length->j<us.length->(patch l off us)[off+j]?=us[j]?
 |[],l,off,j,_,hj=>by simp at hj
 |u::us,l,off,j,hl,hj=>by
  simp only[patch]
  cases j with
  |zero=>
   rw[jQ us _ _ _ aB];simp at hl⊢;rw[bLv (by simp;omega)];simp
  |succ j=>
   have:=oM us (l.set off u) (off+1) j (by simp at hl⊢;omega) (by simpa using hj);rw[show off+(j+1)=off+1+j by omega,this];simp
theorem iR {x:AV} {ys:List (List PV)} {sz:Nat} {v:Value} (h1:sI x=some ys)(h2:srcSz sz x=true)(hx:Rep E w x v):RepP E w (.sl sz ys) v:=by
 unfold sI at h1;split at h1
 ·simp only[bM0] at h1;subst h1;simp only[Rep,RepP] at hx⊢;obtain⟨rfl,_⟩:=hx;exact⟨none,0,rfl,bLx _, .inl trivial⟩
 ·simp only[bM0] at h1;subst h1;simp only[srcSz,beq_iff_eq] at h2;subst h2;simpa only[Rep] using hx
 ·simp only[bM0] at h1;subst h1;simp only[srcSz,beq_iff_eq] at h2;subst h2;exact aEy hx
 ·cases h1
theorem RepEs.values {b sz off:Nat} {es:List (List PV)} (r:RepEs E w b sz off es):
  ∃vs:List Value,vs.length=es.length*sz/\(∀j v,vs[j]?=some v->w.cell? ⟨b,off+j,none⟩=some v)/\RepL E w (es.flatten.map .p) vs:=by
 obtain⟨vs,e1,e2,e3⟩:=r.flat.values;exact⟨vs,by rw[e1,flat_length r.length],e2,e3⟩
theorem RepL.one_p:∀ {xs:List PV} {vs:List Value},RepL E w (xs.map .p) vs->∀v∈vs,v.oneCell'=true
 |[],vs,r,v,hv=>by simp only[bNb,RepL] at r;subst r;cases hv
 |x::xs,vs,r,v,hv=>by
  simp only[bMd,RepL] at r;obtain⟨u,us,rfl,r1,r2⟩:=r
  cases bMh.1 hv with
  |inl e=>subst e;exact r1.one rfl
  |inr e=>exact RepL.one_p r2 v e
theorem fJ {t e ty:TypeId} {i:TypeInfo} (ht:P.underlying t=some (.slice e))(hi:P.info? e=some i)(base a:Option Addr)(n cap c:Nat)(hn:n<=cap):
  (Builtin.append_ #[t,t] ty #[.slice base n cap, .slice a 0 c]).run P w= .ok (.slice base n cap) w:=by
 have hf:∀sz,(Builtin.firstCells sz 0 (.slice a 0 c)).run P w= .ok #[] w:=by
  intro sz
  cases a with
  |none=>simp[Builtin.firstCells]
  |some a=>simp[Builtin.firstCells,loadCells,loadCellsFrom]
 cases base with
 |none=>simp[Builtin.append_,run_underlying ht,sizeOf,typeInfo,hi,Builtin.lenOf,hn,hf]
 |some b=>simp[Builtin.append_,run_underlying ht,sizeOf,typeInfo,hi,Builtin.lenOf,hn,hf,storeCells]
theorem append_room {t e ty:TypeId} {i:TypeInfo} (ht:P.underlying t=some (.slice e))(hi:P.info? e=some i) {g n cap:Nat} {cur:List Value} (hg:Row w g cur)
  {a:Addr} {m c:Nat} {news:List Value} (hl:news.length=m*i.size) (hnews:∀j u,news[j]?=some u->w.cell? (a.add j)=some u) (h1:∀u∈news,u.oneCell'=true)
  (hroom:n+m<=cap) (hfit:n*i.size+news.length<=cur.length):
  ∃w',(Builtin.append_ #[t,t] ty #[.slice (some ⟨g,0,none⟩) n cap, .slice (some a) m c]).run P w= .ok (.slice (some ⟨g,0,none⟩) (n+m) cap) w'/\
   Row w' g (patch cur (n*i.size) news)/\(∀b',b'≠g->w'.heap[b']?=w.heap[b']?)/\w'.heap.size=w.heap.size/\w'.os=w.os/\w'.output=w.output:=by
 have hf:=run_firstCells_some (P:=P) w i.size m a m c news hl hnews;obtain⟨w',hst,hr⟩:=rM (P:=P) hg hfit h1;refine⟨w',?_,hr⟩;simp[Builtin.append_,run_underlying ht,sizeOf,typeInfo,hi,Builtin.lenOf,hroom,hf,addr_add,hst]
theorem le_grownCap (w:World)(need old:Nat)(e:TypeId):need<=grownCap w need old e:=by simp[grownCap,Question.cut]
theorem RepEs.row {b sz:Nat} {es:List (List PV)} {vs rest:List Value} (hrow:Row w b (vs++rest))(hro:∀off,off<es.length*sz->E.ro b off)(hl:∀e∈es,e.length=sz)
  (hr:RepL E w (es.flatten.map .p) vs):RepEs E w b sz 0 es:=by
 refine RepEs.of_row hl (fun j v hj=>?_) hr;have hlen:=hr.length;simp only[bMp] at hlen;rw[flat_length hl] at hlen;have hlt:j<vs.length:=(bLw.1 hj).1;refine⟨hro _ aB,?_⟩;rw[hrow.cell,bMw,bM9 hlt];exact hj
theorem Fresh.set {E:Env} {h:Heap} {n:Nat} {o:Option AO} (hf:Fresh E h.length):Fresh E (List.length (List.set h n o)):=by simpa using hf
theorem vK (r:Rel E h.at w)(hf:Fresh E h.length) {tok n sz:Nat} {es ys:List (List PV)} {olds news zs:List Value} {c':Nat} {e:TypeId} {s:Sem Value} (hn:n=es.length)
  (hid:h.at tok=some (.tok n sz)) (hm:0<ys.length) (ho:∀x∈es,x.length=sz) (hy:∀x∈ys,x.length=sz) (hro:RepL E w (es.flatten.map .p) olds) (hrn:RepL E w (ys.flatten.map .p) news)
  (hz:zs.length=(c'-(n+ys.length))*sz) (hc:n+ys.length<=c')
  (hs:s.run P w= .ok (.slice (some ⟨w.heap.size,0,none⟩) (n+ys.length) c') (w.drew.alloc (.cells (List.toArray (olds++news++zs)) e (0,0)))):
  Good P s E h w (.own tok sz (es++ys)) (h.set tok (some (.tok (n+ys.length) sz))):=by
 subst hn;have hlo:=hro.length;have hln:=hrn.length;simp only[bMp] at hlo hln;rw[flat_length ho] at hlo;rw[flat_length hy] at hln;have hw:(w.drew.alloc (.cells (List.toArray (olds++news++zs)) e (0,0))).heap=(w.alloc (.cells (List.toArray (olds++news++zs)) e (0,0))).heap:=rfl;have hrow:Row (w.drew.alloc (.cells (List.toArray (olds++news++zs)) e (0,0))) w.heap.size (olds++news++zs):=⟨e,by rw[hw];exact alloc_new _⟩;have hmul:(es.length+ys.length)*sz+(c'-(es.length+ys.length))*sz=c'*sz:=by rw[<-bO3];congr 1;omega
 have hadd:(es.length+ys.length)*sz=es.length*sz+ys.length*sz:=bO3 _ _ _
 obtain⟨h1,h2⟩:=r.grow (w':=w.drew.alloc (.cells (List.toArray (olds++news++zs)) e (0,0))) hid hm (b:=w.heap.size) (c':=c') (.inr (bLx _)) hrow
  (by simp only[bM5];omega) hc (fun b' _ hb=>by rw[hw];exact alloc_old _ hb) (fun off hoff=>by have:=r.lt _ off hoff;omega) (by rw[hw,alloc_size];omega) (Kp.trans (b:=w.drew) ⟨rfl,rfl⟩ (Kp.alloc (fun _ _ _ e=>by cases e;rfl)))
 refine⟨_,_,_,hs,h1,?_,?_,h2⟩
 ·intro id hid';have hid2:h.length<=id:=by simpa using hid'
  refine⟨(hf id hid2).1,?_⟩;have:id≠tok:=by have:=bD hid;omega
  simp only[this,if_false];exact(hf id hid2).2
 ·simp only[Rep,bM5];refine⟨⟨some w.heap.size,c',es.length+ys.length⟩,by simp,bLx _,some w.heap.size,c',rfl,hc, .inr ⟨_,rfl,?_⟩,fun _=>⟨rfl,rfl⟩⟩;refine RepEs.row (vs:=olds++news) (rest:=zs) hrow (fun off hoff=> .inr ⟨rfl,by simpa using hoff⟩) (fun x hx=>?_) ?_
  ·rcases bMo.1 hx with hx|hx
   ·exact ho x hx
   ·exact hy x hx
  ·rw[bOa,bMy];exact(hro.ext h2.ext).append (hrn.ext h2.ext)
theorem yE {E w} {es ys:List (List PV)} {vs us:List Value} (h1:RepL E w (es.flatten.map .p) vs)(h2:RepL E w (ys.flatten.map .p) us):RepL E w ((es++ys).flatten.map .p) (vs++us):=by
 rw[bOa,bMy];exact h1.append h2
theorem nT {E:Env} {id b c n:Nat} {R:Nat->Nat->Prop} {o:Option AO} (hf:Fresh E h.length)(hlt:id<h.length):
  Fresh {E with ro:=R,t:=fun j=>if j=id then some ⟨some b,c,n⟩ else E.t j} (h.set id o).length:=by
 intro j hj;exact y6c
theorem pN {t ty e:TypeId} {x:AV} {vs vx:Value} {es ys:List (List PV)} {id sz by_:Nat} {z:List Value} (r:Rel E h.at w)(hf:Fresh E h.length)(he:elT P t=some e)(hsz:szT P e=some sz)(hby:byT P e=some by_)(hz:aS P e=some z)
  (hsr:Rep E w (.vec id es.length) vs) (hid:h.at id=some (.vec sz es)) (hes:∀e∈es,e.length=sz) (hx:sI x=some ys) (hx2:srcSz sz x=true) (hxr:Rep E w x vx) (hpos:0<ys.length)
  (hb:(es.length+ys.length)*by_<=140737488355328) (hb2:es.length+ys.length<=9223372036854775807):
  Good P (Builtin.append_ #[t,t] ty #[vs,vx]) E h w (.vec id (es.length+ys.length)) (h.set id (some (.vec sz (es++ys)))):=by
 have hlt:=bD hid;simp only[Rep] at hsr;obtain⟨L,hL,_,ad0,cap0,hsv,hcur⟩:=hsr;obtain⟨blk,cap,ht,k1,k2,k3⟩:=r.toks id _ _ _ _ _ hid rfl;rw[hL] at ht;cases ht;obtain⟨ha0,hc0⟩:=hcur rfl;simp only at hc0;rw[ha0,hc0] at hsv;have hX:=iR hx hx2 hxr;simp only[RepP] at hX;obtain⟨ad,cx,hxv,_,hX⟩:=hX;have hne:ys≠[]:=by intro h0;rw[h0] at hpos;simp at hpos
 obtain⟨b,off,rfl,hr⟩:=hX.resolve_left hne;have hu:=eZ he;obtain⟨i,zv,hi,hzv,hzc,hzl,_⟩:=aN hz;have hisz:i.size=sz:=by unfold szT at hsz;rw[hi] at hsz;simpa using hsz
 have hiby:i.bytes=by_:=by unfold byT at hby;rw[hi] at hby;simpa using hby
 have hyl:=hr.length;obtain⟨news,n1,n2,n3⟩:=hr.values;have hlY:(ys.flatten.map AV.p).length=ys.length*sz:=by rw[bMp,flat_length hyl]
 have hlE:(es.flatten.map AV.p).length=es.length*sz:=by rw[bMp,flat_length hes]
 have hadd:(es.length+ys.length)*sz=es.length*sz+ys.length*sz:=bO3 _ _ _;have hlA:((es++ys).flatten.map AV.p).length=(es.length+ys.length)*sz:=by rw[bOa,bMy,bM5,hlE,hlY,hadd]
 have hk':(AO.vec sz (es++ys)).tk=some (es.length+ys.length,sz,0,(es++ys).flatten.map .p):=by simp[AO.tk]
 cases blk with
 |none=>
  have hc0:=k2 rfl;have he0:es=[]:=bNw aB;subst he0;subst hc0;have hrun:=run_append_nil (P:=P) w t ty e i zv hu hi hzv ⟨b,off,none⟩ ys.length cx news (by rw[n1,hisz]) (fun j v hj=>by rw[addr_add];exact n2 j v hj) hpos (by simp at hb2;omega) (by rw[hiby];simp at hb;omega)
  have hzs:((Builtin.zeroCells zv.cells (grownCap w ys.length 0 e-ys.length)).toList).length=(grownCap w ys.length 0 e-ys.length)*sz:=by
   exact y3g
  have hle:=le_grownCap w ys.length 0 e
  have hq:List.toArray (news++(Builtin.zeroCells zv.cells (grownCap w ys.length 0 e-ys.length)).toList)=news.toArray++Builtin.zeroCells zv.cells (grownCap w ys.length 0 e-ys.length):=by
   exact y5z
  rw[<-hq] at hrun
  obtain⟨g1,g2⟩:=r.growG (w':=w.drew.alloc (.cells (List.toArray (news++(Builtin.zeroCells zv.cells (grownCap w ys.length 0 e-ys.length)).toList)) e (0,0))) (b:=w.heap.size) (c':=grownCap w ys.length 0 e) (vs:=news++(Builtin.zeroCells zv.cells (grownCap w ys.length 0 e-ys.length)).toList)
   (o':= .vec sz ([]++ys)) (m:=ys.length) hid rfl hk' (bLx _) (.inl hpos) (.inr (bLx _)) ⟨e,alloc_new (w:=w.drew) _⟩
   (by rw[bM5,n1,hzs,<-bO3];congr 1;omega) (by simpa using hle) (fun b' _ hb'=>alloc_old (w:=w.drew) _ hb') (fun off ho=>by have:=r.lt _ _ ho;omega) (by rw[alloc_size];show w.heap.size<=w.heap.size+1;omega) ⟨rfl,rfl⟩
   (fun E' hx' _=>by
    refine yx ?_;exact n3.ext hx')
  refine⟨_,_, .slice (some ⟨w.heap.size,0,none⟩) ys.length (grownCap w ys.length 0 e),?_,g1,nT hf hlt,?_,g2⟩
  ·rw[hsv,hxv];exact hrun
  ·simp only[Rep];exact⟨⟨some w.heap.size,grownCap w ys.length 0 e,([]:List (List PV)).length+ys.length⟩,by simp,by simp,_,grownCap w ys.length 0 e,by simp,fun _=>⟨rfl,rfl⟩⟩
 |some g=>
  obtain⟨cur,hrow,hcl,hcr⟩:=k3 g rfl;have hnro:∀off,¬E.ro g off:=fun off=>r.sepT id _ _ _ _ _ g _ _ off hid rfl hL aB
  have hlec:es.length*sz<=cap*sz:=bNk _ k1;rw[hlE] at hcr
  by_cases hroom:es.length+ys.length<=cap
  ·have hmulle:(es.length+ys.length)*sz<=cap*sz:=bNk _ hroom
   obtain⟨w',hrun,hrow',hsame,hsize,hos,hout⟩:=append_room (P:=P) (ty:=ty) hu hi hrow (a:=⟨b,off,none⟩) (m:=ys.length) (c:=cx) (news:=news) (n:=es.length) (cap:=cap) (by rw[n1,hisz]) (fun j v hj=>by rw[addr_add];exact n2 j v hj)
    (RepL.one_p n3) hroom (by rw[hisz];omega)
   rw[hisz] at hrow'
   obtain⟨g1,g2⟩:=r.growG (w':=w') (b:=g) (c':=cap) (vs:=patch cur (es.length*sz) news) (o':= .vec sz (es++ys)) (m:=ys.length) hid rfl hk' (bLx _) (.inl hpos) (.inl ⟨_,hL,rfl⟩) hrow'
    (by rw[patch_length];exact hcl) hroom (fun b' hne _=>hsame b' hne) (fun off ho=>absurd ho (hnro off)) aB ⟨hos,hout⟩
    (fun E' hx' _=>by
     rw[hlA]
     have e1:patch cur (es.length*sz) news=cur.take (es.length*sz)++patch (cur.drop (es.length*sz)) 0 news:=by
      have hh:=patch_skip news (cur.take (es.length*sz)) (cur.drop (es.length*sz)) 0;rw[bN5,bMn,bNc aB,bO7] at hh;exact hh
     have e2:patch (cur.drop (es.length*sz)) 0 news=news++(cur.drop (es.length*sz)).drop (ys.length*sz):=by
      have hh:=patch_full news ((cur.drop (es.length*sz)).take (ys.length*sz)) ((cur.drop (es.length*sz)).drop (ys.length*sz)) (by rw[bMn,bN1];omega)
      rwa [bN5] at hh
     refine yg ?_;exact yE (hcr.ext hx') (n3.ext hx'))
   refine⟨_,w', .slice (some ⟨g,0,none⟩) (es.length+ys.length) cap,?_,g1,nT hf hlt,?_,g2⟩
   ·rw[hsv,hxv];exact hrun
   ·simp only[Rep];exact⟨⟨some g,cap,es.length+ys.length⟩,by simp,bLx _,_,_,rfl,fun _=>⟨rfl,rfl⟩⟩
  ·have hol:(cur.take (es.length*sz)).length=es.length*sz:=by rw[bMn];omega
   have holds:∀j v,(cur.take (es.length*sz))[j]?=some v->w.cell? ((⟨g,0,none⟩:Addr).add j)=some v:=by
    intro j v hj;rw[addr_add,bMw,hrow.cell];exact y3h
   have hrun:=run_append_grow (P:=P) w t ty e i zv hu hi hzv ⟨g,0,none⟩ es.length cap (cur.take (es.length*sz)) (by rw[hol,hisz]) holds ⟨b,off,none⟩ ys.length cx news (by rw[n1,hisz])
    (fun j v hj=>by rw[addr_add];exact n2 j v hj) aB aB (growslice_fits aB (by rw[hiby];exact hb))
   have hzs:((Builtin.zeroCells zv.cells (grownCap w (es.length+ys.length) cap e-(es.length+ys.length))).toList).length=(grownCap w (es.length+ys.length) cap e-(es.length+ys.length))*sz:=by
    exact y3g
   have hle:=le_grownCap w (es.length+ys.length) cap e
   have hq:List.toArray (cur.take (es.length*sz)++news++(Builtin.zeroCells zv.cells (grownCap w (es.length+ys.length) cap e-(es.length+ys.length))).toList)=
     (cur.take (es.length*sz)).toArray++news.toArray++Builtin.zeroCells zv.cells (grownCap w (es.length+ys.length) cap e-(es.length+ys.length)):=by
    exact y5z
   rw[<-hq] at hrun
   obtain⟨g1,g2⟩:=r.growG (w':=w.drew.alloc (.cells (List.toArray (cur.take (es.length*sz)++news++(Builtin.zeroCells zv.cells (grownCap w (es.length+ys.length) cap e-(es.length+ys.length))).toList)) e (0,0))) (b:=w.heap.size) (c':=grownCap w (es.length+ys.length) cap e)
    (o':= .vec sz (es++ys)) (m:=ys.length) hid rfl hk' (bLx _) (.inl hpos) (.inr (bLx _)) ⟨e,alloc_new (w:=w.drew) _⟩
    (by rw[bM5,bM5,hol,n1,hzs,<-hadd,<-bO3];congr 1;omega) hle (fun b' _ hb'=>alloc_old (w:=w.drew) _ hb') (fun off ho=>by have:=r.lt _ _ ho;omega) (by rw[alloc_size];show w.heap.size<=w.heap.size+1;omega) ⟨rfl,rfl⟩
    (fun E' hx' _=>by
     have hl1:(cur.take (es.length*sz)++news).length=(es.length+ys.length)*sz:=by rw[bM5,hol];omega
     have hh:=yE (hcr.ext hx') (n3.ext hx');generalize cur.take (es.length*sz)++news=q at hh hl1;refine y16 ?_;exact hh)
   refine⟨_,_, .slice (some ⟨w.heap.size,0,none⟩) (es.length+ys.length) (grownCap w (es.length+ys.length) cap e),?_,g1,nT hf hlt,?_,g2⟩
   ·rw[hsv,hxv];exact hrun
   ·simp only[Rep];exact⟨⟨some w.heap.size,grownCap w (es.length+ys.length) cap e,es.length+ys.length⟩,by simp,bLx _,_,_,rfl,fun _=>⟨rfl,rfl⟩⟩
theorem xD {t ty:TypeId} {s x y:AV} {vs vx:Value} (r:Rel E h.at w)(hf:Fresh E h.length)(hs:Rep E w s vs)(hx:Rep E w x vx)(ha:mS P t s x h=some (y,h')):
  Good P (Builtin.append_ #[t,t] ty #[vs,vx]) E h w y h':=by
 unfold mS at ha;split at ha
 ·rename_i e hel;split at ha
  ·rename_i sz by_ z ys hsz hby hz hsrc;split at ha
   ·rename_i hcond;obtain⟨hss,hpos⟩:=hcond;have hX:=iR hsrc hss hx;simp only[RepP] at hX;obtain⟨a,cx,rfl,_,hX⟩:=hX;have hu:=eZ hel;obtain⟨i,zv,hi,hzv,hzc,hzl,hprim⟩:=aN hz;have hisz:i.size=sz:=by unfold szT at hsz;rw[hi] at hsz;simpa using hsz
    have hiby:i.bytes=by_:=by unfold byT at hby;rw[hi] at hby;simpa using hby
    have hzsz:∀k,(Builtin.zeroCells zv.cells k).toList.length=k*sz:=by
     intro k;rw[bOl,size_zeroCells,hzc];simp[hzl,hisz]
    have nilq:∀(l:List Value) (q:Array Value),List.toArray (([]:List Value)++l++q.toList)=l.toArray++q:=by
     intro l q;apply bOb;simp
    split at ha
    ·split at ha
     ·rename_i hb;obtain⟨hb1,hb2⟩:=hb;simp only[bM0,bMf] at ha;obtain⟨rfl,rfl⟩:=ha;simp only[Rep,RepP] at hs;obtain⟨rfl,_⟩:=hs;obtain⟨t1,t2,t3⟩:=r.newTok hf sz
      by_cases hy0:ys=[]
      ·subst hy0;refine⟨_,w,_,fJ hu hi none a 0 0 cx (bLx _),t1,by simpa using t3,?_,t2⟩;exact y43
      ·obtain⟨b,off,rfl,hr⟩:=hX.resolve_left hy0;have hm:0<ys.length:=by cases ys<;>simp at hy0⊢
       obtain⟨news,e1,e2,e3⟩:=hr.values;have hrun:=run_append_nil (P:=P) w t ty e i zv hu hi hzv ⟨b,off,none⟩ ys.length cx news (by rw[e1,hisz]) (fun j v hj=>by rw[addr_add];exact e2 j v hj) hm aB (by rw[hiby];omega)
       have hg:=vK (P:=P) (s:=Builtin.append_ #[t,t] ty #[.slice none 0 0, .slice (some ⟨b,off,none⟩) ys.length cx]) (w:=w) (tok:=h.length) (n:=0) (sz:=sz) (es:=[]) (ys:=ys) (olds:=[]) (news:=news)
        (zs:=(Builtin.zeroCells zv.cells (grownCap w ys.length 0 e-ys.length)).toList) (c':=grownCap w ys.length 0 e) (e:=e) t1 (by simpa using t3) rfl (by rw[cM,if_pos rfl]) hm aA hr.length (by simp[RepL]) (e3.ext t2.ext)
        (by rw[hzsz];simp) (by simpa using le_grownCap w ys.length 0 e) (by rw[nilq,bMw];exact hrun)
       obtain⟨E',w',v,g1,g2,g3,g4,g5⟩:=hg;have hset:(h++[some (AO.tok 0 sz)]).set h.length (some (.tok (0+ys.length) sz))=h++[some (.tok ys.length sz)]:=aA;rw[hset] at g2 g3 g5;exact⟨E',w',v,g1,g2,g3,by simpa using g4,t2.trans g5⟩
     ·cases ha
    ·rename_i tok s' es;split at ha
     ·rename_i n s2 hat;split at ha
      ·rename_i hb;obtain⟨rfl,rfl,rfl,hb1,hb2⟩:=hb;simp only[bM0,bMf] at ha;obtain⟨rfl,rfl⟩:=ha;have hs0:=hs;simp only[Rep] at hs;obtain⟨L,hL,hle,blk,cap,rfl,hcap,hes,hcur⟩:=hs;obtain⟨blk',cap',ht,k1,k2,k3⟩:=r.toks tok _ es.length s2 _ _ hat rfl;rw[hL] at ht;cases ht;obtain⟨e1,e2⟩:=hcur rfl;simp only at e1 e2;subst e1 e2
       by_cases hy0:ys=[]
       ·subst hy0
        have hset:List.set h tok (some (AO.tok (es.length+([]:List (List PV)).length) s2))=h:=by
         apply bNj;intro j;refine y1t ?_;split
         ·rename_i hj;subst hj;have hlt:=bD hat;unfold Heap.at at hat;rw[bLv hlt] at hat⊢;simp only[hlt,if_true];simp at hat⊢;exact hat.symm
         ·rfl
        rw[hset];refine⟨E,w,_,fJ hu hi _ a es.length cap' cx hcap,r,hf,?_,Fr.refl _ _ _⟩;simpa using hs0
       ·obtain⟨b,off,rfl,hr⟩:=hX.resolve_left hy0;have hm:0<ys.length:=by cases ys<;>simp at hy0⊢
        obtain⟨news,n1,n2,n3⟩:=hr.values
        cases blk' with
        |none=>
         have hc0:=k2 rfl;subst hc0;have hes0:es=[]:=by cases es<;>simp at hcap⊢
         subst hes0;have hrun:=run_append_nil (P:=P) w t ty e i zv hu hi hzv ⟨b,off,none⟩ ys.length cx news (by rw[n1,hisz]) (fun j v hj=>by rw[addr_add];exact n2 j v hj) hm (by simp at hb2;omega) (by rw[hiby];simp at hb1;omega)
         exact vK (P:=P) (w:=w) (tok:=tok) (n:=0) (sz:=s2) (es:=[]) (ys:=ys) (olds:=[]) (news:=news) (zs:=(Builtin.zeroCells zv.cells (grownCap w ys.length 0 e-ys.length)).toList)
          (c':=grownCap w ys.length 0 e) (e:=e) r hf rfl hat hm aA hr.length (by simp[RepL]) n3 (by rw[hzsz];simp) (by simpa using le_grownCap w ys.length 0 e) (by rw[nilq,bMw];exact hrun)
        |some g=>
         obtain⟨cur,hrow,hlen,_⟩:=k3 g rfl
         by_cases hroom:es.length+ys.length<=cap'
         ·have hadd:(es.length+ys.length)*s2=es.length*s2+ys.length*s2:=bO3 _ _ _;have hmul:(es.length+ys.length)*s2<=cap'*s2:=bNk _ hroom
          obtain⟨w',hrun,hrow',hsame,hsize,hos,hout⟩:=append_room (P:=P) (ty:=ty) hu hi hrow (a:=⟨b,off,none⟩) (m:=ys.length) (c:=cx) (news:=news) (n:=es.length) (cap:=cap') (by rw[n1,hisz]) (fun j v hj=>by rw[addr_add];exact n2 j v hj)
           (RepL.one_p n3) hroom (by rw[hisz];omega)
          rw[hisz] at hrow'
          have hkeep:∀off',E.ro g off'->w'.cell? ⟨g,off',none⟩=w.cell? ⟨g,off',none⟩:=by
           intro off' ho
           have hlt:off'<es.length*s2:=by
            rcases bNi off' (es.length*s2) with l|l
            ·exact l
            ·exact absurd ho (r.sepT tok _ es.length s2 _ _ g cap' es.length off' hat rfl hL l)
           rw[hrow'.cell,hrow.cell,jQ _ _ _ _ hlt]
          obtain⟨g1,g2⟩:=r.grow hat hm (b:=g) (c':=cap') (.inl ⟨_,hL,rfl⟩) hrow' (by rw[patch_length];exact hlen) hroom (fun b' hne _=>hsame b' hne) hkeep aB (Kp.turn hos hout hsame (fun off=>hrow.frozen off) (fun off=>hrow'.frozen off));refine⟨_,w',_,by simpa using hrun,g1,?_,?_,g2⟩
          ·intro id hid';have hid2:h.length<=id:=by simpa using hid'
           refine⟨(hf id hid2).1,?_⟩;have:id≠tok:=by have:=bD hat;omega
           simp only[this,if_false];exact(hf id hid2).2
          ·simp only[Rep,bM5];refine⟨⟨some g,cap',es.length+ys.length⟩,by simp,bLx _,some g,cap',rfl,hroom, .inr ⟨_,rfl,?_⟩,fun _=>⟨rfl,rfl⟩⟩;refine RepEs.append ?_ ?_
           ·rcases hes with rfl|⟨g',hg',hr'⟩
            ·simp[RepEs]
            ·cases hg';exact hr'.ext g2.ext
           ·refine RepEs.of_row hr.length (fun j v hj=>?_) (n3.ext g2.ext);have hj':j<news.length:=(bLw.1 hj).1;refine⟨.inr ⟨rfl,by omega⟩,?_⟩;rw[hrow'.cell,bMw,oM _ _ _ _ aB hj'];exact hj
         ·have hold:∃olds:List Value,olds.length=es.length*s2/\(∀j v,olds[j]?=some v->w.cell? ⟨g,0+j,none⟩=some v)/\RepL E w (es.flatten.map .p) olds/\∀e∈es,e.length=s2:=by
           rcases hes with rfl|⟨g',hg',hr'⟩
           ·exact⟨[],by simp,by simp,by simp[RepL],by simp⟩
           ·cases hg'
            obtain⟨olds,o1,o2,o3⟩:=hr'.values;exact⟨olds,o1,o2,o3,hr'.length⟩
          obtain⟨olds,o1,o2,o3,o4⟩:=hold
          have hrun:=run_append_grow (P:=P) w t ty e i zv hu hi hzv ⟨g,0,none⟩ es.length cap' olds (by rw[o1,hisz]) (fun j v hj=>by rw[addr_add];exact o2 j v hj) ⟨b,off,none⟩ ys.length cx news (by rw[n1,hisz])
           (fun j v hj=>by rw[addr_add];exact n2 j v hj) aB aB (growslice_fits aB (by rw[hiby];exact hb1))
          refine vK (P:=P) (w:=w) (tok:=tok) (n:=es.length) (sz:=s2) (es:=es) (ys:=ys) (olds:=olds) (news:=news) (zs:=(Builtin.zeroCells zv.cells (grownCap w (es.length+ys.length) cap' e-(es.length+ys.length))).toList)
           (c':=grownCap w (es.length+ys.length) cap' e) (e:=e) r hf rfl hat hm o4 hr.length o3 n3 (by rw[hzsz]) (le_grownCap w _ cap' e) ?_
          have hq:List.toArray (olds++news++(Builtin.zeroCells zv.cells (grownCap w (es.length+ys.length) cap' e-(es.length+ys.length))).toList)=
            olds.toArray++news.toArray++Builtin.zeroCells zv.cells (grownCap w (es.length+ys.length) cap' e-(es.length+ys.length)):=by
           exact y5z
          rw[hq];exact hrun
      ·cases ha
     ·cases ha
    ·rename_i id n;split at ha
     ·rename_i s2 es hat;split at ha
      ·rename_i hb;obtain⟨rfl,rfl,hp,hall,hb1,hb2⟩:=hb;simp only[bM0,bMf] at ha;obtain⟨rfl,rfl⟩:=ha;exact pN r hf hel hsz hby hz hs hat (fun e he=>by simpa using bMg.1 hall e he) hsrc hss hx hp hb1 hb2
      ·cases ha
     ·cases ha
    ·cases ha
   ·cases ha
  ·cases ha
 ·cases ha
end
open Go
section
variable {P:Program} {E:Env} {w:World} {h h':Heap}
theorem aAc {n:Int} (h0:0<=n)(h1:n<=1099511627776):IntKind.i64.wrap n=n:=by
 have e:n%2^64=n:=Int.emod_eq_of_lt h0 aB;simp only[IntKind.wrap,IntKind.bits,IntKind.signed,e];rw[if_neg];simp;omega
theorem aHb {t:TypeId} {l c y:AV} {vl vc:Value} (r:Rel E h.at w)(hf:Fresh E h.length)(hl:Rep E w l vl)(hc:Rep E w c vc)(hm:aFr P t l c h=some (y,h')):
  Good P (Instr.makeSlice t vl vc) E h w y h':=by
 unfold aFr at hm;split at hm
 ·rename_i e n m hel hn hm';obtain⟨k,rfl⟩:=intA_rep hn hl;obtain⟨k',rfl⟩:=intA_rep hm' hc;split at hm
  ·rename_i sz by_ z hsz hby hz;split at hm
   ·rename_i hcond;obtain⟨h0,rfl,hb,hn40,hpos⟩:=hcond;simp only[bM0,bMf] at hm;obtain⟨rfl,rfl⟩:=hm;obtain⟨i,zv,hi,hzv,hzc,hzl,hprim⟩:=aN hz;have hisz:i.size=sz:=by unfold szT at hsz;rw[hi] at hsz;simpa using hsz
    have hiby:i.bytes=by_:=by unfold byT at hby;rw[hi] at hby;simpa using hby
    have hw:=aAc h0 aB
    have hrep:RepL E w (List.replicate n.toNat (prims z)).flatten (List.replicate n.toNat z).flatten:=by
     have:(List.replicate n.toNat (prims z)).flatten=prims (List.replicate n.toNat z).flatten:=by
      unfold prims;generalize n.toNat=q
      induction q with
      |zero=>rfl
      |succ q ih=>rw[bN3,bN3,bNa,bNa,bMy,ih]
     rw[this];exact y3e
    obtain⟨h1,h2,h3⟩:=r.alloc hf hrep e;refine⟨_,_, .slice (some ⟨w.heap.size,0,none⟩) n.toNat n.toNat,?_,h1,by simpa using h3,?_,h2⟩
    ·have hinit:(Array.range (n.toNat*sz)).map (fun i=>(List.toArray z)[i%(List.toArray z).size]!)=List.toArray (List.replicate n.toNat z).flatten:=by
      have:=flat_replicate (List.toArray z) n.toNat;simp only[List.size_toArray,hzl,hisz] at this⊢;exact this
     have hbn:(i.bytes:Int)*n<=140737488355328:=by
      rw[hiby];have h2:(n.toNat:Int)=n:=Int.toNat_of_nonneg h0;have h3:((n.toNat*by_:Nat):Int)<=140737488355328:=aB;rw[Int.natCast_mul,h2,Int.mul_comm] at h3;exact h3
     have htl:¬(n<0\/281474976710656<(i.bytes:Int)*n):=aB
     by_cases hz0:n.toNat*sz=0
     ·have hn0:n.toNat=0:=by
       exact y5r
      have hn00:n=0:=aB;exact y69
     ·refine y1d ?_;simp at hinit;rw[hinit]
    ·exact y7i
   ·cases hm
  ·cases hm
 ·cases hm
theorem bK {k:IntKind} {n:Int} {y:Nat} {c:BoundsCode} (h0:0<=n)(h1:n<=y):(Instr.sliceBound (.int k n) y c).run P w= .ok n.toNat w:=by
 simp[Instr.sliceBound,asIntOf,h0,h1]
theorem xJ {n cap:Nat} {vlo vhi:Option Value} {l u:Int} (hl:(vlo=none/\l=0)\/∃k,vlo=some (.int k l))(hu:(vhi=none/\u=n)\/∃k,vhi=some (.int k u))(h0:0<=l)(h1:l<=u)(h2:u<=n)(h3:n<=cap):
  (Instr.sliceBounds true n cap vlo vhi none).run P w= .ok (l.toNat,u.toNat,cap) w:=by
 have e1:∀k c,(Instr.sliceBound (.int k u) cap c).run P w= .ok u.toNat w:=fun k c=>bK aB aB
 have e2:∀k c,(Instr.sliceBound (.int k l) u.toNat c).run P w= .ok l.toNat w:=fun k c=>bK aB aB
 rcases hl with ⟨rfl,rfl⟩|⟨k,rfl⟩<;>rcases hu with ⟨rfl,rfl⟩|⟨k',rfl⟩
 ·simp[Instr.sliceBounds]
 ·simp[Instr.sliceBounds,e1]
 ·have e3:∀c,(Instr.sliceBound (.int k l) n c).run P w= .ok l.toNat w:=fun c=>bK aB aB
  simp[Instr.sliceBounds,e3]
 ·simp[Instr.sliceBounds,e1,e2]
theorem aF4 {t e:TypeId} {sz:Nat} {es:List (List PV)} {v:Value} {lo hi mx:Option AV} {vlo vhi vmx:Option Value} {l u m:Int} (hel:elT P t=some e)(hsz:szT P e=some sz)(hv:RepP E w (.sl sz es) v)
  (hlo:∀x,lo=some x->∃y,vlo=some y/\Rep E w x y) (hlo0:lo=none->vlo=none) (hhi:∀x,hi=some x->∃y,vhi=some y/\Rep E w x y) (hhi0:hi=none->vhi=none)
  (hmx:∀x,mx=some x->∃y,vmx=some y/\Rep E w x y) (hmx0:mx=none->vmx=none)
  (el:loA lo=some l) (eu:hiA es.length hi=some u) (em:maA es.length mx=some m) (h0:0<=l) (h1:l<=u) (h2:u<=m) (h3:m<=es.length) (h5:(mx.isNone||hi.isSome)=true):
  ∃r,(Instr.sliceAt t v vlo vhi vmx).run P w= .ok r w/\Rep E w (.p (.sl sz ((es.take u.toNat).drop l.toNat))) r:=by
 simp only[RepP] at hv;obtain⟨a,cap,rfl,hcap,hv⟩:=hv;have hlenr:((es.take u.toNat).drop l.toNat).length=u.toNat-l.toNat:=by simp;omega
 have hlv:(vlo=none/\l=0)\/∃k,vlo=some (.int k l):=by
  cases lo with
  |none=>simp only[loA,bM0] at el;exact .inl ⟨hlo0 rfl,el.symm⟩
  |some x=>
   exact y59
 have huv:(vhi=none/\u=es.length/\hi=none)\/∃k,vhi=some (.int k u):=by
  cases hi with
  |none=>simp only[hiA,bM0] at eu;exact .inl ⟨hhi0 rfl,eu.symm,rfl⟩
  |some x=>
   exact y58
 have hbounds:∃M,(Instr.sliceBounds true es.length cap vlo vhi vmx).run P w= .ok (l.toNat,u.toNat,M) w/\u.toNat<=M:=by
  cases mx with
  |none=>
   rw[hmx0 rfl];refine⟨cap,xJ hlv ?_ h0 h1 aB hcap,by omega⟩;rcases huv with ⟨a,b,_⟩|h
   ·exact .inl ⟨a,b⟩
   ·exact .inr h
  |some x=>
   simp only[maA] at em;obtain⟨y,ey,hy⟩:=hmx x rfl;obtain⟨km,rfl⟩:=intA_rep em hy;rw[ey];have em':∀k c,(Instr.sliceBound (.int k m) cap c).run P w= .ok m.toNat w:=fun k c=>bK aB aB
   have eu1:∀k c,(Instr.sliceBound (.int k u) m.toNat c).run P w= .ok u.toNat w:=fun k c=>bK aB aB
   have el1:∀k c,(Instr.sliceBound (.int k l) u.toNat c).run P w= .ok l.toNat w:=fun k c=>bK aB aB
   refine⟨m.toNat,?_,by omega⟩;rcases huv with ⟨_,_,rfl⟩|⟨k',rfl⟩
   ·simp at h5
   ·exact y6l
 obtain⟨M,hbounds,hM⟩:=hbounds;refine⟨.slice (if M=l.toNat then a else a.map (·.add (l.toNat*sz))) (u.toNat-l.toNat) (M-l.toNat),?_,?_⟩
 ·simp[Instr.sliceAt,Instr.slice,run_elT hel,hbounds,run_szT hsz]
 ·simp only[Rep,RepP];refine⟨_,_,by rw[hlenr],by rw[hlenr];omega,?_⟩
  by_cases hemp:(es.take u.toNat).drop l.toNat=[]
  ·exact .inl hemp
  ·right;have hpos:0<u.toNat-l.toNat:=by rw[<-hlenr];exact bNx.2 hemp
   obtain⟨b,off,rfl,hr⟩:=hv.resolve_left (by rintro rfl;simp at hemp);refine⟨b,off+l.toNat*sz,?_,?_⟩
   ·rw[if_neg aB];simp[addr_add]
   ·exact(hr.take u.toNat).drop l.toNat (by simp;omega)
theorem aNs {t e:TypeId} {sz:Nat} {lo hi:Option AV} {vlo vhi:Option Value} (hel:elT P t=some e)(hsz:szT P e=some sz)
  (hlo:∀x,lo=some x->∃y,vlo=some y/\Rep E w x y) (hlo0:lo=none->vlo=none) (hhi:∀x,hi=some x->∃y,vhi=some y/\Rep E w x y) (hhi0:hi=none->vhi=none)
  (el:loA lo=some 0) (eu:hiA 0 hi=some 0):
  (Instr.sliceAt t (.slice none 0 0) vlo vhi none).run P w= .ok (.slice none 0 0) w:=by
 have hlv:(vlo=none/\(0:Int)=0)\/∃k,vlo=some (.int k 0):=by
  cases lo with
  |none=>exact .inl ⟨hlo0 rfl,rfl⟩
  |some x=>
   exact y59
 have huv:(vhi=none/\(0:Int)=(0:Nat))\/∃k,vhi=some (.int k 0):=by
  cases hi with
  |none=>exact .inl ⟨hhi0 rfl,rfl⟩
  |some x=>
   exact y58
 have hb:=xJ (P:=P) (w:=w) (cap:=0) hlv huv aB aB aB aB;simp[Instr.sliceAt,Instr.slice,run_elT hel,hb,run_szT hsz]
theorem aF5 {t e:TypeId} {sz id off len cap:Nat} {v:Value} {lo hi mx:Option AV} {vlo vhi vmx:Option Value} {l u m:Int} (hel:elT P t=some e)(hsz:szT P e=some sz)(hv:Rep E w (.sm id off len cap sz) v)
  (hlo:∀x,lo=some x->∃y,vlo=some y/\Rep E w x y) (hlo0:lo=none->vlo=none) (hhi:∀x,hi=some x->∃y,vhi=some y/\Rep E w x y) (hhi0:hi=none->vhi=none)
  (hmx:∀x,mx=some x->∃y,vmx=some y/\Rep E w x y) (hmx0:mx=none->vmx=none)
  (el:loA lo=some l) (eu:hiA len hi=some u) (em:maA cap mx=some m) (h0:0<=l) (h1:l<=u) (h2:u<=m) (h3:m<=cap) (h5:(mx.isNone||hi.isSome)=true):
  ∃r,(Instr.sliceAt t v vlo vhi vmx).run P w= .ok r w/\Rep E w (.sm id (if m.toNat=l.toNat then off else off+l.toNat*sz) (u.toNat-l.toNat) (m.toNat-l.toNat) sz) r:=by
 simp only[Rep] at hv;obtain⟨b,hb,rfl⟩:=hv
 have hlv:(vlo=none/\l=0)\/∃k,vlo=some (.int k l):=by
  cases lo with
  |none=>simp only[loA,bM0] at el;exact .inl ⟨hlo0 rfl,el.symm⟩
  |some x=>
   exact y59
 have huv:(vhi=none/\u=len/\hi=none)\/∃k,vhi=some (.int k u):=by
  cases hi with
  |none=>simp only[hiA,bM0] at eu;exact .inl ⟨hhi0 rfl,eu.symm,rfl⟩
  |some x=>
   exact y58
 have hmv:(vmx=none/\m=cap)\/∃k,vmx=some (.int k m)/\mx.isSome=true:=by
  cases mx with
  |none=>simp only[maA,bM0] at em;exact .inl ⟨hmx0 rfl,em.symm⟩
  |some x=>
   obtain⟨y,ey,hy⟩:=hmx x rfl;obtain⟨k,rfl⟩:=intA_rep em hy;exact .inr ⟨k,ey,rfl⟩
 have em':∀k c,(Instr.sliceBound (.int k m) cap c).run P w= .ok m.toNat w:=fun k c=>bK aB aB
 have eu1:∀k c,(Instr.sliceBound (.int k u) m.toNat c).run P w= .ok u.toNat w:=fun k c=>bK aB aB
 have el1:∀k c,(Instr.sliceBound (.int k l) u.toNat c).run P w= .ok l.toNat w:=fun k c=>bK aB aB
 have hbounds:(Instr.sliceBounds true len cap vlo vhi vmx).run P w= .ok (l.toNat,u.toNat,m.toNat) w:=by
  rcases hmv with ⟨rfl,rfl⟩|⟨km,rfl,hms⟩
  ·simp only[bMk] at eu1;rcases huv with ⟨rfl,rfl,_⟩|⟨k',rfl⟩<;>rcases hlv with ⟨rfl,rfl⟩|⟨k,rfl⟩
   ·simp[Instr.sliceBounds]
   ·simp only[bMk] at el1;simp[Instr.sliceBounds,el1]
   ·simp[Instr.sliceBounds,eu1]
   ·simp[Instr.sliceBounds,eu1,el1]
  ·rcases huv with ⟨rfl,rfl,rfl⟩|⟨k',rfl⟩
   ·cases mx<;>simp at hms h5
   ·exact y6l
 refine⟨.slice (some ⟨b,if m.toNat=l.toNat then off else off+l.toNat*sz,none⟩) (u.toNat-l.toNat) (m.toNat-l.toNat),?_,?_⟩
 ·by_cases hne:m.toNat=l.toNat
  ·simp[Instr.sliceAt,Instr.slice,run_elT hel,hbounds,run_szT hsz,hne]
  ·simp[Instr.sliceAt,Instr.slice,run_elT hel,hbounds,run_szT hsz,hne,addr_add]
 ·simp only[Rep];exact⟨b,hb,rfl⟩
theorem aCs {t:TypeId} {x y:AV} {v:Value} {lo hi mx:Option AV} {vlo vhi vmx:Option Value} (hx:Rep E w x v)
  (hlo:∀x,lo=some x->∃y,vlo=some y/\Rep E w x y) (hlo0:lo=none->vlo=none) (hhi:∀x,hi=some x->∃y,vhi=some y/\Rep E w x y) (hhi0:hi=none->vhi=none)
  (hmx:∀x,mx=some x->∃y,vmx=some y/\Rep E w x y) (hmx0:mx=none->vmx=none)
  (hs:aslice P t x lo hi mx=some y):∃r,(Instr.sliceAt t v vlo vhi vmx).run P w= .ok r w/\Rep E w y r:=by
 unfold aslice at hs;split at hs
 ·rename_i e hel;split at hs
  ·rename_i sz hsz;split at hs
   ·split at hs
    ·rename_i l u el eu;split at hs
     ·rename_i hc;obtain⟨hmn,rfl,rfl⟩:=hc;have:mx=none:=by cases mx<;>simp at hmn⊢
      subst this;simp only[bM0] at hs;subst hs;simp only[Rep,RepP] at hx;obtain⟨rfl,hpr⟩:=hx;rw[hmx0 rfl];exact⟨_,aNs hel hsz hlo hlo0 hhi hhi0 el eu,by simp only[Rep,RepP];exact⟨trivial,hpr⟩⟩
     ·cases hs
    ·cases hs
   ·split at hs
    ·rename_i l u m el eu em;split at hs
     ·rename_i hc;obtain⟨rfl,h0,h1,h2,h3,h5⟩:=hc;simp only[bM0] at hs;subst hs;exact aF4 hel hsz (by simpa only[Rep] using hx) hlo hlo0 hhi hhi0 hmx hmx0 el eu em h0 h1 h2 h3 h5
     ·cases hs
    ·cases hs
   ·split at hs
    ·rename_i l u m el eu em;split at hs
     ·rename_i hc;obtain⟨rfl,h0,h1,h2,h3,h5⟩:=hc;simp only[bM0] at hs;subst hs;exact aF4 hel hsz (aEy hx) hlo hlo0 hhi hhi0 hmx hmx0 el eu em h0 h1 h2 h3 h5
     ·cases hs
    ·cases hs
   ·split at hs
    ·rename_i l u m el eu em;split at hs
     ·rename_i hc;obtain⟨rfl,h0,h1,h2,h3,h5⟩:=hc;simp only[bM0] at hs;subst hs;exact aF5 hel hsz hx hlo hlo0 hhi hhi0 hmx hmx0 el eu em h0 h1 h2 h3 h5
     ·cases hs
    ·cases hs
   ·cases hs
  ·cases hs
 ·cases hs
theorem RepL.two {x y:AV} {vs:List Value} (r:RepL E w [x,y] vs):∃u v,vs=[u,v]/\Rep E w x u/\Rep E w y v:=by
 simp only[RepL] at r;obtain⟨u,us,rfl,r1,v,vs',rfl,r2,rfl⟩:=r;exact⟨u,v,rfl,r1,r2⟩
theorem kU {x:AV} {v:Value} {sz k m:Nat} {l:List PV} (r:Rel E h.at w)(hx:Rep E w x v)(hm:aTj x=some m)(hs:gC h sz k x=some l):
  ∃a c vs,v= .slice a m c/\k<=m/\vs.length=k*sz/\l.length=k*sz/\RepL E w (l.map .p) vs/\((k=0/\vs=[])\/∃A,a=some A/\∀j u,vs[j]?=some u->w.cell? (A.add j)=some u):=by
 unfold gC at hs;split at hs
 ·rename_i id off len cap s;split at hs
  ·rename_i hc;obtain⟨rfl,hk⟩:=hc;split at hs
   ·rename_i cs hid;split at hs
    ·rename_i l' hf;split at hs
     ·rename_i hl;simp only[bM0] at hs;subst hs;simp only[aTj,bM0] at hm;subst hm;simp only[Rep] at hx;obtain⟨b,hb,rfl⟩:=hx;obtain⟨g',cur,hg',hrow,hreps⟩:=r.objs id _ hid;rw[hb] at hg';cases hg';have hrl:=(hreps.drop off).take (k*s);rw[vI hf] at hrl;have hvl:=hrl.length;rw[bMp] at hvl;refine⟨_,_,_,rfl,hk,by omega,hl,hrl, .inr ⟨_,rfl,fun j u hj=>?_⟩⟩;rw[addr_add,hrow.cell];rw[bO2] at hj;split at hj
      ·rwa [List.getElem?_drop] at hj
      ·cases hj
     ·cases hs
    ·cases hs
   ·cases hs
  ·cases hs
 ·split at hs
  ·rename_i ys hy;split at hs
   ·rename_i hc;obtain⟨h2,hk⟩:=hc;simp only[bM0] at hs;subst hs;have hX:=iR hy h2 hx;simp only[RepP] at hX;obtain⟨ad,cx,hxv,_,hX⟩:=hX
    have hml:m=ys.length:=by
     unfold sI at hy;split at hy<;>try (cases hy;done)
     all_goals (simp only[bM0] at hy;subst hy;simp only[aTj,bM0] at hm;exact hm.symm)
    subst hml;rcases hX with rfl|⟨b,off,rfl,hr⟩
    ·have hk0:k=0:=by simpa using hk
     subst hk0;exact⟨_,_,[],hxv,bLx _,by simp,by simp,by simp[RepL], .inl ⟨rfl,rfl⟩⟩
    ·have hrt:=hr.take k;obtain⟨vs,e1,e2,e3⟩:=hrt.values;have htl:(ys.take k).length=k:=by simp;omega
     rw[htl] at e1;refine⟨_,_,vs,hxv,hk,e1,?_,e3, .inr ⟨_,rfl,fun j u hj=>?_⟩⟩
     ·rw[flat_length hrt.length,htl]
     ·rw[addr_add];exact e2 j u hj
   ·cases hs
  ·cases hs
theorem yD {sz k m c:Nat} {a:Option Addr} {vs:List Value} (hl:vs.length=k*sz)(hv:(k=0/\vs=[])\/∃A,a=some A/\∀j u,vs[j]?=some u->w.cell? (A.add j)=some u):
  (Builtin.firstCells sz k (.slice a m c)).run P w= .ok vs.toArray w:=by
 rcases hv with ⟨rfl,rfl⟩|⟨A,rfl,hA⟩
 ·cases a with
  |none=>simp[Builtin.firstCells]
  |some a=>simp[Builtin.firstCells,loadCells,loadCellsFrom]
 ·exact run_firstCells_some (P:=P) w sz k A m c vs hl hA
theorem nN {id off b:Nat} {l:List PV} {vs:List Value} (r:Rel E h.at w)(hf:Fresh E h.length)(hg:E.g id=some b)(hv:RepL E w (l.map .p) vs)(hp:aX7 h id off l=some h'):
  ∃w',(storeCells ⟨b,off,none⟩ vs).run P w= .ok () w'/\Rel E (Heap.at h') w'/\Fresh E h'.length/\Fr E h.at w E (Heap.at h') w':=by
 unfold aX7 at hp;split at hp
 ·rename_i cs hid;split at hp
  ·rename_i hle;simp only[bM0] at hp;subst hp;obtain⟨g',cur,hg',hrow,hreps⟩:=r.objs id _ hid;rw[hg] at hg';cases hg';have hcl:=hreps.length;have hvl:=hv.length;rw[bMp] at hvl;obtain⟨w',hst,hrow',hsame,hsize,hos,hout⟩:=rM (P:=P) (off:=off) hrow aB hv.one_p;have hnew:=RepL.patch off hv hreps;obtain⟨g1,g2⟩:=r.writeO hid rfl (o':= .cells (patch cs off (l.map .p))) rfl hg (fun hx=>⟨_,hrow',hnew.ext hx⟩) hsame hsize hos hout;exact⟨w',hst,g1,by simpa using hf,g2⟩
  ·cases hp
 ·cases hp
theorem aG0 {t t' ty:TypeId} {d x y:AV} {vd vx:Value} (r:Rel E h.at w)(hf:Fresh E h.length)(hd:Rep E w d vd)(hx:Rep E w x vx)(hc:aFo P t d x h=some (y,h')):
  Good P (Builtin.copy_ #[t,t'] ty #[vd,vx]) E h w y h':=by
 unfold aFo at hc;split at hc
 ·rename_i e hel;split at hc
  ·rename_i sz hsz;split at hc
   ·rename_i id off n cap s m hm;split at hc
    ·rename_i hs;subst hs;split at hc
     ·rename_i l hl;simp only[bMb,bMf] at hc;obtain⟨g,hput,rfl,rfl⟩:=hc;obtain⟨a,c,vs,rfl,hk,hvl,hll,hvs,hA⟩:=kU r hx hm hl;simp only[Rep] at hd;obtain⟨b,hb,rfl⟩:=hd;have hfc:=yD (P:=P) (m:=m) (c:=c) hvl hA;obtain⟨w',hst,g1,g2,g3⟩:=nN (P:=P) r hf hb hvs hput;refine⟨E,w', .int .i64 (Nat.min m n:Nat),?_,g1,g2,by simp[Rep,RepP,isPrim],g3⟩;simp[Builtin.copy_,run_elT hel,Builtin.lenOf,run_szT hsz,hfc,hst,goInt]
     ·cases hc
    ·cases hc
   ·cases hc
  ·cases hc
 ·cases hc
theorem aMs {z:List Value} (hz:∀x∈z,isPrim x=true)(n:Nat):RepL E w ((List.replicate n (z.map PV.prim)).flatten.map .p) (List.replicate n z).flatten:=by
 induction n with
 |zero=>simp[RepL]
 |succ n ih=>
  simp only[bN3,bNa,bMy];refine RepL.append ?_ ih;clear ih
  induction z with
  |nil=>simp[RepL]
  |cons a z ih2=>
   simp only[bMd,RepL];exact⟨a,z,rfl,by simp[Rep,RepP,hz a aA],ih2 fun x hx=>hz x (by simp[hx])⟩
theorem aB4 {t ty:TypeId} {d y:AV} {vd:Value} (r:Rel E h.at w)(hf:Fresh E h.length)(hd:Rep E w d vd)(hc:sX P t d h=some (y,h')):
  Good P (Builtin.clear_ #[t] ty #[vd]) E h w y h':=by
 unfold sX at hc;split at hc
 ·rename_i e hel;split at hc
  ·rename_i sz z hsz hz;split at hc
   ·rename_i id off n cap s;split at hc
    ·rename_i hs;obtain⟨rfl,hn⟩:=hs;simp only[bMb,bMf] at hc;obtain⟨g,hput,rfl,rfl⟩:=hc;obtain⟨i,zv,hi,hzv,hzc,hzl,hzp⟩:=aN hz;simp only[Rep] at hd;obtain⟨b,hb,rfl⟩:=hd;obtain⟨w',hst,g1,g2,g3⟩:=nN (P:=P) r hf hb (aMs hzp n) hput
     have hzz:(Builtin.zeroCells zv.cells n).toList=(List.replicate n z).flatten:=by
      rw[hzc];have:=flat_replicate (List.toArray z) n;simp only[Builtin.zeroCells];rw[this]
     have hz0:(zeroValue e).run P w= .ok zv w:=by simp[zeroValue,typeInfo,hi,hzv]
     refine⟨E,w', .tuple #[],?_,g1,g2,by simp[Rep,RepL],g3⟩;obtain⟨n',rfl⟩:∃n',n=n'+1:=⟨n-1,by omega⟩;simp[Builtin.clear_,run_elT hel,hz0,hzz,hst]
    ·cases hc
   ·cases hc
  ·cases hc
 ·cases hc
theorem aFt {t ty:TypeId} {d x y:AV} {vd vx:Value} (r:Rel E h.at w)(hf:Fresh E h.length)(hd:Rep E w d vd)(hx:Rep E w x vx)(hc:aP6 P t d x h=some (y,h')):
  Good P (Builtin.append_ #[t,t] ty #[vd,vx]) E h w y h':=by
 unfold aP6 at hc;split at hc
 ·rename_i e hel;split at hc
  ·rename_i sz hsz;split at hc
   ·rename_i id n cap s id2 off2 m cap2 s2;split at hc
    ·rename_i hs;obtain⟨rfl,hroom⟩:=hs;split at hc
     ·rename_i l hl;simp only[bMb,bMf] at hc;obtain⟨g,hput,rfl,rfl⟩:=hc;obtain⟨a,c,vs,rfl,hk,hvl,hll,hvs,hA⟩:=kU (m:=m) r hx rfl hl;simp only[Rep] at hd;obtain⟨b,hb,rfl⟩:=hd;have hfc:=yD (P:=P) (m:=m) (c:=c) hvl hA;obtain⟨w',hst,g1,g2,g3⟩:=nN (P:=P) r hf hb hvs hput;refine⟨E,w', .slice (some ⟨b,0,none⟩) (n+m) cap,?_,g1,g2,by simp only[Rep];exact⟨b,hb,rfl⟩,g3⟩;simp[Builtin.append_,run_elT hel,run_szT hsz,Builtin.lenOf,hroom,hfc,addr_add,hst]
     ·cases hc
    ·cases hc
   ·cases hc
  ·cases hc
 ·cases hc
theorem uX {b:Builtin} {types:Array TypeId} {ty:TypeId} {cs:Array Bool} {args:List AV} {vs:List Value} {y:AV} (r:Rel E h.at w)(hf:Fresh E h.length)(ha:RepL E w args vs)
  (hb:abuiltin P b types args h=some (y,h')):∃E' w' v,(builtin b types ty cs (List.toArray vs)).run P w= .ok (.value v) w'/\Rel E' (Heap.at h') w'/\Fresh E' h'.length/\Rep E' w' y v/\Fr E h.at w E' (Heap.at h') w':=by
 unfold abuiltin at hb;split at hb
 ·rename_i t x ht;simp only[bMb,bMf] at hb;obtain⟨z,hz,rfl,rfl⟩:=hb;simp only[RepL] at ha;obtain⟨u,us,rfl,r1,rfl⟩:=ha;obtain⟨v,e1,e2⟩:=aFp (ty:=ty) r1 hz;have:types=#[t]:=by apply bOb;simpa using ht
  subst this;exact⟨E,w,v,by simp[builtin,e1],r,hf,e2,Fr.refl _ _ _⟩
 ·rename_i k a k' b;simp only[bM0,bMf] at hb;obtain⟨rfl,rfl⟩:=hb;obtain⟨u,v,rfl,r1,r2⟩:=ha.two;simp only[Rep,RepP] at r1 r2;obtain⟨rfl,_⟩:=r1;obtain⟨rfl,_⟩:=r2;exact⟨E,w,_,by simp[builtin,Builtin.max_,Builtin.max2];rfl,r,hf,by simp[Rep,RepP,isPrim],Fr.refl _ _ _⟩
 ·rename_i k a k' b;simp only[bM0,bMf] at hb;obtain⟨rfl,rfl⟩:=hb;obtain⟨u,v,rfl,r1,r2⟩:=ha.two;simp only[Rep,RepP] at r1 r2;obtain⟨rfl,_⟩:=r1;obtain⟨rfl,_⟩:=r2;exact⟨E,w,_,by simp[builtin,Builtin.min_,Builtin.min2];rfl,r,hf,by simp[Rep,RepP,isPrim],Fr.refl _ _ _⟩
 ·rename_i t t' a1 a2 a3 a4 a5 x ht;split at hb
  ·rename_i he;subst he;obtain⟨u,v,rfl,r1,r2⟩:=ha.two;have:types=#[t,t]:=by apply bOb;simpa using ht
   subst this;obtain⟨E',w',v',g1,g2⟩:=aFt (ty:=ty) r hf r1 r2 hb;exact y6h
  ·cases hb
 ·rename_i t t' s x _ ht;split at hb
  ·rename_i he;subst he;obtain⟨u,v,rfl,r1,r2⟩:=ha.two;have:types=#[t,t]:=by apply bOb;simpa using ht
   subst this;obtain⟨E',w',v',g1,g2⟩:=xD (ty:=ty) r hf r1 r2 hb;exact y6h
  ·cases hb
 ·rename_i t t' d x ht;obtain⟨u,v,rfl,r1,r2⟩:=ha.two;have:types=#[t,t']:=by apply bOb;simpa using ht
  subst this;obtain⟨E',w',v',g1,g2⟩:=aG0 (t':=t') (ty:=ty) r hf r1 r2 hb;exact y6h
 ·rename_i t d ht;simp only[RepL] at ha;obtain⟨u,us,rfl,r1,rfl⟩:=ha;have:types=#[t]:=by apply bOb;simpa using ht
  subst this;obtain⟨E',w',v',g1,g2⟩:=aB4 (ty:=ty) r hf r1 hb;exact y6h
 ·cases hb
theorem aFs {op:BinOp} {t:TypeId} {x z:AV} {ox oy:Operand} {a:Value} (ho:gP oy=true)(hx:Rep E w x a)(hb:aU9 P op t x=some z):
  ∃v,(do eqGuard op t ox oy a .nilIface;binOp op t a .nilIface:Sem Value).run P w= .ok v w/\Rep E w z v:=by
 have hoy:oy= .const .nilIface:=by
  unfold gP at ho;split at ho
  ·rfl
  ·cases ho
 subst hoy;unfold aU9 at hb;split at hb
 ·rename_i ms hu
  have h1:∀d,(Op.equalIn (d+1) t .nilIface .nilIface).run P w= .ok true w:=by
   intro d;simp only[Op.equalIn,Sem.run_bind,run_underlying hu,Result.andThen_ok];rfl
  have h2:∀d tt u,(Op.equalIn (d+1) t (.iface tt u) .nilIface).run P w= .ok false w:=by
   intro d tt u;simp only[Op.equalIn,Sem.run_bind,run_underlying hu,Result.andThen_ok];rfl
  have e1:(Op.equal t .nilIface .nilIface).run P w= .ok true w:=h1 9999;have e2:∀tt u,(Op.equal t (.iface tt u) .nilIface).run P w= .ok false w:=h2 9999
  have g1:∀op,(eqGuard op t ox (.const .nilIface) .nilIface .nilIface).run P w= .ok () w:=by
   intro op;unfold eqGuard;cases op<;>simp
  have g2:∀op tt u,(eqGuard op t ox (.const .nilIface) (.iface tt u) .nilIface).run P w= .ok () w:=by
   intro op tt u;unfold eqGuard;cases op<;>rfl
  split at hb<;>first|(cases hb;done)|(simp only[bM0] at hb;subst hb)
  ·simp only[Rep,RepP] at hx;obtain⟨rfl,_⟩:=hx;exact⟨.bool true,by simp[g1,binOp,e1],by simp[Rep,RepP,isPrim]⟩
  ·simp only[Rep,RepP] at hx;obtain⟨rfl,_⟩:=hx;exact⟨.bool false,by simp[g1,binOp,e1],by simp[Rep,RepP,isPrim]⟩
  ·simp only[Rep,RepP] at hx;obtain⟨u,rfl,_⟩:=hx;exact⟨.bool false,by simp[g2,binOp,e2],by simp[Rep,RepP,isPrim]⟩
  ·simp only[Rep] at hx;obtain⟨u,rfl,_⟩:=hx;exact⟨.bool false,by simp[g2,binOp,e2],by simp[Rep,RepP,isPrim]⟩
  ·simp only[Rep,RepP] at hx;obtain⟨u,rfl,_⟩:=hx;exact⟨.bool true,by simp[g2,binOp,e2],by simp[Rep,RepP,isPrim]⟩
  ·simp only[Rep] at hx;obtain⟨u,rfl,_⟩:=hx;exact⟨.bool true,by simp[g2,binOp,e2],by simp[Rep,RepP,isPrim]⟩
 ·cases hb
theorem wI {xT asserted:TypeId} {x z:AV} {a:Value} (hx:Rep E w x a)(hb:hK P asserted x=some z):∃v,(Instr.typeAssert a xT asserted true).run P w= .ok v w/\Rep E w z v:=by
 unfold hK at hb;split at hb
 ·cases hb
 ·rename_i d hni hd;split at hb
  ·rename_i t y;split at hb
   ·rename_i e;subst e;simp only[bM0] at hb;subst hb;simp only[Rep,RepP] at hx;obtain⟨u,rfl,hu⟩:=hx;refine⟨.tuple #[u, .bool true],?_,?_⟩
    ·cases d<;>first|(exact absurd rfl (hni _))|simp[Instr.typeAssert,run_underlying hd]
    ·simp only[Rep,RepL,RepP];exact⟨[u, .bool true],rfl,u,[.bool true],rfl,hu, .bool true,[],rfl,⟨rfl,rfl⟩,rfl⟩
   ·cases hb
  ·cases hb
 ·cases hb
theorem mF {a:Act} {T:List AV} {D:List AD} (s:St E w a T h D)(parts:Array (Nat×Operand)):
  (parts.toList.map fun p=>(p.1,aev T p.2)).map (·.1)=((parts.map fun(i,x)=>(i,a.eval x)).toList).map (·.1)/\
  RepL E w ((parts.toList.map fun p=>(p.1,aev T p.2)).map (·.2)) (((parts.map fun(i,x)=>(i,a.eval x)).toList).map (·.2)):=by
 simp only[Array.toList_map,bOr];refine⟨by simp[Function.comp_def],?_⟩;have:=fW s (parts.toList.map (·.2));simpa [Function.comp_def] using this
theorem aQq (m:List (Int×Int)):aQp (m.map ikv)=some m:=by
 induction m with
 |nil=>rfl
 |cons x m ih=>simp[aQp,ih]
theorem aCc:∀ {l:List (Value×Value)} {m:List (Int×Int)},aQp l=some m->l=m.map ikv
 |[],m,e=>by simp[aQp] at e;simp[<-e]
 |x::l,m,e=>by
  unfold aQp at e;split at e
  ·rename_i h;cases h
  ·rename_i a b l' h;cases h;simp only[bMb] at e;obtain⟨m',e1,rfl⟩:=e;simp[aCc e1]
  ·cases e
theorem aQr {m:List (Int×Int)} {n:Int} (h:∀x∈m,x.1≠n):lkI m n=none:=by
 induction m with
 |nil=>rfl
 |cons x m ih=>simp only[lkI,if_neg (h x aA)];exact ih fun y hy=>h y (by simp[hy])
theorem bCp {m:List (Int×Int)} {n v:Int} :∀ {j:Nat},(m.map Prod.fst).Nodup->m[j]?=some (n,v)->lkI m n=some v:=by
 induction m with
 |nil=>intro j _ h;simp at h
 |cons x m ih=>
  intro j hn h;simp only[bMd,bNd] at hn
  cases j with
  |zero=>simp at h;subst h;simp[lkI]
  |succ j=>
   have h':m[j]?=some (n,v):=by simpa using h
   have hne:¬x.1=n:=fun e=>hn.1 (e▸bMr.2 ⟨_,bMa h',rfl⟩)
   simp only[lkI,if_neg hne];exact ih hn.2 h'
theorem aSb {m:List (Int×Int)} {n v:Int} (h:∀x∈m,x.1≠n):aP2 m n v=m++[(n,v)]:=by
 induction m with
 |nil=>rfl
 |cons x m ih=>simp only[aP2,if_neg (h x aA),bLz];rw[ih fun y hy=>h y (by simp[hy])]
theorem aXf {m:List (Int×Int)} {n u v:Int} :∀ {j:Nat},(m.map Prod.fst).Nodup->m[j]?=some (n,u)->aP2 m n v=m.set j (n,v):=by
 induction m with
 |nil=>intro j _ h;simp at h
 |cons x m ih=>
  intro j hn h;simp only[bMd,bNd] at hn
  cases j with
  |zero=>simp at h;subst h;simp[aP2]
  |succ j=>
   have h':m[j]?=some (n,u):=by simpa using h
   have hne:¬x.1=n:=fun e=>hn.1 (e▸bMr.2 ⟨_,bMa h',rfl⟩)
   simp only[aP2,if_neg hne,bOc];rw[ih hn.2 h']
theorem oD {P:Program} {t:TypeId} (h:tP P t=true):∃kt et,P.underlying t=some (.map kt et)/\P.underlying kt=some (.int .i64)/\∀w,(zeroValue et).run P w= .ok (.int .i64 0) w:=by
 unfold tP at h;split at h
 ·rename_i kt et ht;simp only[bM8] at h;obtain⟨h1,h2⟩:=h;refine⟨kt,et,ht,?_,fun w=>?_⟩
  ·split at h1
   ·assumption
   ·cases h1
  ·split at h2
   ·rename_i i hi;split at h2
    ·rename_i hz;simp[zeroValue,typeInfo,hi,hz]
    ·cases h2
   ·cases h2
 ·cases h
theorem qJ {es:Array MapEntry} {m:List (Int×Int)} {c:Nat} (he:es.toList.map (fun e=>(e.key,e.val))=m.map ikv)(hs:MapKept.Stamped es c):
  (m.map Prod.fst).Nodup/\(∀x∈es.toList,MapKept.IsKey (.int .i64) x.key)/\(∀(j:Nat) e,es.toList[j]?=some e->∃x,m[j]?=some x/\e.key= .int .i64 x.1/\e.val= .int .i64 x.2)/\∀(j:Nat) x,m[j]?=some x->∃e,es.toList[j]?=some e/\e.key= .int .i64 x.1:=by
 have h1:∀(j:Nat) e,es.toList[j]?=some e->∃x,m[j]?=some x/\e.key= .int .i64 x.1/\e.val= .int .i64 x.2:=by
  intro j e hj;have:=congrArg (fun l=>l[j]?) he;simp only[bO4,hj,bN2] at this
  cases hm:m[j]? with
  |none=>rw[hm] at this;simp at this
  |some x=>rw[hm] at this;simp at this;exact⟨x,rfl,this.1,this.2⟩
 have h2:∀(j:Nat) x,m[j]?=some x->∃e,es.toList[j]?=some e/\e.key= .int .i64 x.1:=by
  intro j x hj;have:=congrArg (fun l=>l[j]?) he;simp only[bO4,hj,bN2] at this
  cases hm:es.toList[j]? with
  |none=>rw[hm] at this;simp at this
  |some e=>rw[hm] at this;simp at this;exact⟨e,rfl,this.1⟩
 refine⟨?_,fun x hx=>?_,h1,h2⟩
 ·have hk:es.toList.map (·.key)=m.map fun x=>Value.int .i64 x.1:=by
   have:=congrArg (List.map Prod.fst) he;simpa [bOr,Function.comp_def] using this
  have h3:=hs.2.2;rw[hk,show(m.map fun x=>Value.int .i64 x.1)=(m.map Prod.fst).map (Value.int .i64) by simp[Function.comp_def]] at h3;exact(List.pairwise_map.1 h3).imp fun h e=>h (congrArg _ e)
 ·obtain⟨j,hj⟩:=bNm hx;obtain⟨y,_,hk,_⟩:=h1 j x hj;rw[hk];rfl
theorem uU {P:Program} {E:Env} {w:World} {h:Heap} {t:TypeId} {m ix y:AV} {vm vx:Value} {ok:Bool} (r:Rel E h.at w)(hm:Rep E w m vm)(hx:Rep E w ix vx)(ha:uT P t m ix ok h=some y):
  ∃v,(Instr.lookup t vm vx ok).run P w= .ok v w/\Rep E w y v:=by
 unfold uT at ha;split at ha
 ·rename_i hI;obtain⟨kt,et,ht,hd,hz⟩:=oD hI;split at ha
  ·rename_i id n;split at ha
   ·rename_i kvs hid;simp only[bMb] at ha;obtain⟨om,hk,rfl⟩:=ha;have hkv:=aCc hk;simp only[Rep] at hm;obtain⟨g,hg,rfl⟩:=hm;simp only[Rep,RepP] at hx;obtain⟨rfl,_⟩:=hx;obtain⟨g',hg',ho⟩:=r.objsO id _ hid rfl;rw[hg] at hg';cases hg';obtain⟨es,c,hh,he,hst⟩:=ho;rw[hkv] at he;obtain⟨hnd,hes,hfw,hbw⟩:=qJ he hst;have hkey:MapKept.IsKey (.int .i64) (.int .i64 n):=rfl
    have hcase:(Instr.findNow (.int .i64) (.int .i64 n) es.toList 0=some none/\lkI om n=none)\/∃j v,Instr.findNow (.int .i64) (.int .i64 n) es.toList 0=some (some (j, .int .i64 v))/\lkI om n=some v:=by
     rcases MapKept.findNow_spec hkey es.toList 0 hes with ⟨h1,h2⟩|⟨j,e,h1,h2,h3⟩
     ·refine .inl ⟨h1,aQr fun x hx hc=>?_⟩;exact y63
     ·obtain⟨x,hxj,hk1,hv1⟩:=hfw j e h2;have hxn:x.1=n:=by rw[hk1] at h3;simpa using h3
      have hxj':om[j]?=some (n,x.2):=by rw[hxj,<-hxn]
      exact .inr ⟨_,x.2,by rw[h1,hv1],bCp hnd hxj'⟩
    rcases hcase with ⟨h1,h2⟩|⟨j,v,h1,h2⟩
    ·refine⟨if ok then .tuple #[.int .i64 0, .bool false] else .int .i64 0,?_,?_⟩
     ·refine y1e ?_;simp[MapKept.run_findKey hd h1,Result.andThen,hz]
     ·rw[h2]
      cases ok<;>simp[Rep,RepL,RepP,isPrim]
    ·refine⟨if ok then .tuple #[.int .i64 v, .bool true] else .int .i64 v,?_,?_⟩
     ·refine y1e ?_;simp[MapKept.run_findKey hd h1]
     ·rw[h2]
      cases ok<;>simp[Rep,RepL,RepP,isPrim]
   ·cases ha
  ·cases ha
 ·cases ha
theorem uV {P:Program} {E:Env} {w:World} {h h':Heap} {t:TypeId} {m ix x:AV} {vm vx vv:Value} (r:Rel E h.at w)(hm:Rep E w m vm)(hx:Rep E w ix vx)(hv:Rep E w x vv)(ha:mT P t m ix x h=some h'):
  ∃w',(Instr.mapUpdate t vm vx vv).run P w= .ok () w'/\Rel E h'.at w'/\Fr E h.at w E h'.at w'/\h'.length=h.length:=by
 unfold mT at ha;split at ha
 ·rename_i hI;obtain⟨kt,et,ht,hd,hz⟩:=oD hI;split at ha
  ·rename_i id n v;split at ha
   ·rename_i kvs hid;simp only[bMb] at ha;obtain⟨om,hk,rfl⟩:=ha;have hkv:=aCc hk;simp only[Rep] at hm;obtain⟨g,hg,rfl⟩:=hm;simp only[Rep,RepP] at hx hv;obtain⟨rfl,_⟩:=hx;obtain⟨rfl,_⟩:=hv;obtain⟨g',hg',ho⟩:=r.objsO id _ hid rfl;rw[hg] at hg';cases hg';obtain⟨es,c,hh,he,hst⟩:=ho;rw[hkv] at he;obtain⟨hnd,hes,hfw,hbw⟩:=qJ he hst;have hkey:MapKept.IsKey (.int .i64) (.int .i64 n):=rfl
    have main:∃es' c',(Instr.mapUpdate t (.map (some g)) (.int .i64 n) (.int .i64 v)).run P w= .ok () {w with heap:=w.heap.setIfInBounds g (.map es' c')} /\es'.toList.map (fun e=>(e.key,e.val))=(aP2 om n v).map ikv/\MapKept.Stamped es' c':=by
     rcases MapKept.findNow_spec hkey es.toList 0 hes with ⟨h1,h2⟩|⟨j,e,h1,h2,h3⟩
     ·refine⟨es.push {key:= .int .i64 n,val:= .int .i64 v,born:=c},c+1,?_,?_,MapKept.stamped_push hst h2⟩
      ·simp only[Instr.mapUpdate,Sem.run_bind,run_underlying ht,Result.andThen,MapKept.run_getObj_map hh,MapKept.run_checkKey hd hkey,MapKept.run_findKey hd h1,MapKept.run_setObj_map _ hh]
      ·rw[aSb (fun x hx hc=>?_)]
       ·simp[he]
       ·exact y63
     ·obtain⟨x,hxj,hk1,hv1⟩:=hfw j e h2;have hxn:x.1=n:=by rw[hk1] at h3;simpa using h3
      have hxj':om[j]?=some (n,x.2):=by rw[hxj,<-hxn]
      have hj':es[0+j]?=some e:=by rw[bMw,<-bOt];exact h2
      refine⟨es.modify (0+j) fun e=> {e with key:= .int .i64 n,val:= .int .i64 v},c,?_,?_,MapKept.stamped_modify hst _ _ (fun _ _=>rfl) (fun e' _ he'=>?_)⟩
      ·simp only[Instr.mapUpdate,Sem.run_bind,run_underlying ht,Result.andThen,MapKept.run_getObj_map hh,MapKept.run_checkKey hd hkey,MapKept.run_findKey hd h1,hj',bN2,bMc,h3,MapKept.run_keyThatStays hkey,MapKept.run_setObj_map _ hh]
      ·rw[aXf hnd hxj'];apply bNj;intro i;have hei:=congrArg (fun l=>l[i]?) he;simp only[bO4] at hei;simp only[bO4,bOt,Array.getElem?_modify,List.getElem?_set];rw[bOt] at hei
       by_cases c1:j=i
       ·subst c1;have hlt:j<om.length:=(bLw.1 hxj).1;have:es[j]?=some e:=by rw[<-bOt];exact h2
        simp[this,hlt]
       ·simp only[bMw,c1,if_false];exact hei
      ·rw[hj'] at he';cases he';exact h3.symm
    obtain⟨es',c',hrun,hkv',hst'⟩:=main;obtain⟨q1,q2⟩:=MapKept.heap_set (o':= .map es' c') hh
    obtain⟨g1,g2⟩:=r.writeO (w':= {w with heap:=w.heap.setIfInBounds g (.map es' c')}) hid rfl (o':= .aux (.map ((aP2 om n v).map ikv))) rfl hg
     (fun _=>⟨_,_,q1,hkv',hst'⟩) q2 aA rfl rfl
    exact⟨_,hrun,g1,g2,by simp⟩
   ·cases ha
  ·cases ha
 ·cases ha
theorem aop_sound {a:Act} {T:List AV} {D:List AD} {o:Oper} {x:AV} (ho:aop P (aev T) h o.op=some (x,h'))(s:St E w a T h D):
  ∃E' w' n v,(execOp a.eval o).run P w= .ok n w'/\(n= .value v\/(n= .skip/\v=undef))/\Rel E' (Heap.at h') w'/\Fresh E' h'.length/\Rep E' w' x v/\Fr E (Heap.at h) w E' (Heap.at h') w':=by
 obtain⟨dst,op,type,pos,after,guard⟩:=o
 have pure:∀ {y:AV} {v:Value},(execOp a.eval ⟨dst,op,type,pos,after,guard⟩).run P w= .ok (.value v) w->Rep E w y v->x=y->h'=h->
   ∃E' w' n v,(execOp a.eval ⟨dst,op,type,pos,after,guard⟩).run P w= .ok n w'/\(n= .value v\/(n= .skip/\v=undef))/\Rel E' (Heap.at h') w'/\Fresh E' h'.length/\Rep E' w' x v/\Fr E (Heap.at h) w E' (Heap.at h') w':=by
  rintro y v h1 h2 rfl rfl;exact⟨E,w,_,v,h1, .inl rfl,s.rel,s.fresh,h2,Fr.refl _ _ _⟩
 have good:∀ {sv:Sem Value},Good P sv E h w x h'->(∀v w',sv.run P w= .ok v w'->(execOp a.eval ⟨dst,op,type,pos,after,guard⟩).run P w= .ok (.value v) w')->
   ∃E' w' n v,(execOp a.eval ⟨dst,op,type,pos,after,guard⟩).run P w= .ok n w'/\(n= .value v\/(n= .skip/\v=undef))/\Rel E' (Heap.at h') w'/\Fresh E' h'.length/\Rep E' w' x v/\Fr E (Heap.at h) w E' (Heap.at h') w':=by
  rintro sv ⟨E',w',v,g1,g2,g3,g4,g5⟩ h2;exact⟨E',w',_,v,h2 v w' g1, .inl rfl,g2,g3,g4,g5⟩
 cases op<;>simp only[aop] at ho<;>try (cases ho;done)
 case move y=>
  exact y6e
 case assign y=>
  exact y6e
 case pick c p q=>
  split at ho
  ·rename_i t hc;simp only[bM0,bMf] at ho;have hcr:=aev_rep s c;rw[hc] at hcr;simp only[Rep,RepP] at hcr;refine pure (v:=if t then a.eval p else a.eval q) (by simp[execOp,hcr.1,asBool]) ?_ ho.1.symm ho.2.symm;cases t
   ·exact aev_rep s q
   ·exact aev_rep s p
  ·cases ho
 case alloc t=>
  split at ho
  ·rename_i z hz;simp only[bM0,bMf] at ho;obtain⟨rfl,rfl⟩:=ho;obtain⟨zv,hzr,hzc⟩:=jU (w:=w) hz;obtain⟨_,_,_,_,_,_,hprim⟩:=aN hz;refine good (sv:=Instr.alloc t true (.tuple #[])) (Good.alloc s.rel s.fresh (prims_rep hprim) t ?_) (fun v w' e=>by simp[execOp,e]);simp[Instr.alloc,hzr,newVar,newRow,hzc]
  ·cases ho
 case box t y=>
  split at ho
  ·rename_i cs hc;simp only[bM0,bMf] at ho;obtain⟨rfl,rfl⟩:=ho;obtain⟨vs,e1,e2⟩:=gN hc (aev_rep s y);refine good (sv:=Instr.box t (a.eval y)) (Good.alloc s.rel s.fresh e2 t ?_) (fun v w' e=>by simp[execOp,e]);simp[Instr.box,newVar,newRow,e1]
  ·cases ho
 case build t parts=>
  simp only[bMb,bMf] at ho;obtain⟨y,hy,rfl,rfl⟩:=ho;obtain⟨p1,p2⟩:=mF s parts;obtain⟨v,e1,e2⟩:=aB2 (P:=P) p1 p2 hy;exact y3x
 case buildSlice t len parts=>
  simp only[bMb,bMf] at ho;obtain⟨y,hy,rfl,rfl⟩:=ho;obtain⟨p1,p2⟩:=mF s parts;exact good (oU (P:=P) s.rel s.fresh p1 p2 hy) (fun v w' e=>by simp[execOp,e])
 case load t p=>
  simp only[bMb,bMf] at ho;obtain⟨y,hy,rfl,rfl⟩:=ho;obtain⟨ad,u,e0,e1,e2⟩:=pM (P:=P) s.rel (aev_rep s p) hy;exact pure (v:=u) (by simp[execOp,Instr.loadAt,e0,Instr.sureAddr,e1]) e2 rfl rfl
 case store t p y=>
  simp only[bMb,bMf] at ho;obtain⟨h2,hy,rfl,rfl⟩:=ho;obtain⟨w',e1,e2,e3,e4⟩:=aCw (P:=P) s.rel (aev_rep s p) (aev_rep s y) hy;exact y5m
 case lookup t m ix ok=>
  simp only[bMb,bMf] at ho;obtain⟨y,hy,rfl,rfl⟩:=ho;obtain⟨v,e1,e2⟩:=uU (P:=P) s.rel (aev_rep s m) (aev_rep s ix) hy;exact pure (v:=v) (by simp[execOp,e1]) e2 rfl rfl
 case mapUpdate t m ix y=>
  simp only[bMb,bMf] at ho;obtain⟨h2,hy,rfl,rfl⟩:=ho;obtain⟨w',e1,e2,e3,e4⟩:=uV (P:=P) s.rel (aev_rep s m) (aev_rep s ix) (aev_rep s y) hy;exact y5m
 case nilCheck y=>
  split at ho
  ·rename_i hn;simp only[bM0,bMf] at ho;have hr:=aev_rep s y;refine pure (v:=a.eval y) ?_ hr ho.1.symm ho.2.symm
   have hp:∃ad,a.eval y= .pointer (some ad):=by
    revert hn hr
    cases aev T y with
    |ptr id off=>intro _ hr;simp only[Rep] at hr;obtain⟨b,_,e⟩:=hr;exact⟨_,e⟩
    |p q=>cases q with
     |ro cs=>intro _ hr;simp only[Rep,RepP] at hr;obtain⟨b,off,e,_⟩:=hr;exact⟨_,e⟩
     |_=>intro hn;simp[qS] at hn
    |_=>intro hn;simp[qS] at hn
   obtain⟨ad,e⟩:=hp;simp[execOp,e]
  ·cases ho
 case binOp op t p q u=>
  simp only[bMb,bMf] at ho;obtain⟨y,hy,rfl,rfl⟩:=ho;split at hy
  ·rename_i hn
   have hq:a.eval q= .nilIface:=by
    unfold gP at hn;split at hn
    ·rfl
    ·cases hn
   obtain⟨v,e1,e2⟩:=aFs (P:=P) (ox:=p) (oy:=q) hn (aev_rep s p) hy;refine pure (v:=v) ?_ e2 rfl rfl;simp only[execOp,hq];rw[Sem.run_bind,e1]
   rfl
  ·obtain⟨v,e1,e2⟩:=aFl (P:=P) (ox:=p) (oy:=q) (aev_rep s p) (aev_rep s q) hy;refine pure (v:=v) ?_ e2 rfl rfl;simp only[execOp];rw[Sem.run_bind,e1]
   rfl
 case typeAssert p xT asserted ok=>
  cases ok with
  |false=>simp at ho
  |true=>
   simp only[bMb,bMf] at ho;obtain⟨y,hy,rfl,rfl⟩:=ho;obtain⟨v,e1,e2⟩:=wI (P:=P) (xT:=xT) (aev_rep s p) hy;exact y3x
 case unOp op t p=>
  simp only[bMb,bMf] at ho;obtain⟨y,hy,rfl,rfl⟩:=ho;obtain⟨v,e1,e2⟩:=aJ2 (P:=P) (aev_rep s p) hy;exact y3x
 case convert sT dT p=>
  simp only[bMb,bMf] at ho;obtain⟨y,hy,rfl,rfl⟩:=ho;obtain⟨v,e1,e2⟩:=aAs (P:=P) (aev_rep s p) hy;exact y3x
 case makeInterface t p=>
  split at ho
  ·cases ho
  ·rename_i d hni hd;simp only[bM0,bMf] at ho;obtain⟨rfl,rfl⟩:=ho;refine pure (v:= .iface t (a.eval p)) ?_ (y:=aU5 t (aev T p)) ?_ rfl rfl
   ·cases d<;>first|(exact absurd rfl (hni _))|simp[execOp,Instr.makeInterface,run_underlying hd]
   ·have hr:=aev_rep s p;unfold aU5;split
    ·rename_i q hq;rw[hq] at hr;simp only[Rep,RepP] at hr⊢;exact⟨_,rfl,hr⟩
    ·simp only[Rep];exact⟨_,rfl,hr⟩
  ·cases ho
 case makeFunc f first cap=>
  simp only[bM0,bMf] at ho;obtain⟨rfl,rfl⟩:=ho;refine pure (v:= .func f (first.map a.eval) (cap.map a.eval)) (by simp[execOp,Instr.makeFunc]) ?_ rfl rfl;simp only[Rep];exact⟨_,_,by congr 1<;>(apply bOb;simp),fW s first.toList,fW s cap.toList⟩
 case makeSlice t p q=>exact good (aHb (P:=P) s.rel s.fresh (aev_rep s p) (aev_rep s q) ho) (fun v w' e=>by simp[execOp,e])
 case slice t p lo hi mx=>
  simp only[bMb,bMf] at ho;obtain⟨y,hy,rfl,rfl⟩:=ho
  obtain⟨v,e1,e2⟩:=aCs (P:=P) (vlo:=lo.map a.eval) (vhi:=hi.map a.eval) (vmx:=mx.map a.eval) (aev_rep s p)
   (fun x hx=>by cases lo with|none=>simp at hx|some l=>simp at hx;subst hx;exact⟨_,rfl,aev_rep s l⟩) (fun hx=>by cases lo<;>simp at hx⊢)
   (fun x hx=>by cases hi with|none=>simp at hx|some l=>simp at hx;subst hx;exact⟨_,rfl,aev_rep s l⟩) (fun hx=>by cases hi<;>simp at hx⊢)
   (fun x hx=>by cases mx with|none=>simp at hx|some l=>simp at hx;subst hx;exact⟨_,rfl,aev_rep s l⟩) (fun hx=>by cases mx<;>simp at hx⊢) hy
  exact y3x
 case fieldAddr t p f=>
  simp only[bMb,bMf] at ho;obtain⟨y,hy,rfl,rfl⟩:=ho;obtain⟨v,e1,e2⟩:=qC (P:=P) (aev_rep s p) hy;exact y3x
 case field t p f=>
  simp only[bMb,bMf] at ho;obtain⟨y,hy,rfl,rfl⟩:=ho;obtain⟨v,e1,e2⟩:=aBx (P:=P) (aev_rep s p) hy;exact y3x
 case indexAddr t p i=>
  simp only[bMb,bMf] at ho;obtain⟨y,hy,rfl,rfl⟩:=ho;obtain⟨v,e1,e2⟩:=qI (P:=P) (aev_rep s p) (aev_rep s i) hy;exact y3x
 case index t p i=>
  simp only[bMb,bMf] at ho;obtain⟨y,hy,rfl,rfl⟩:=ho;obtain⟨v,e1,e2⟩:=aC4 (P:=P) (aev_rep s p) (aev_rep s i) hy;exact y3x
 case extract t i=>
  split at ho
  ·rename_i vs ht;simp only[bMb,bMf] at ho;obtain⟨y,hy,rfl,rfl⟩:=ho;have hr:=aev_rep s t;rw[ht] at hr;simp only[Rep] at hr;obtain⟨us,e,hr⟩:=hr;have hlt:i<vs.length:=(bLw.1 hy).1;have hl:=hr.length;have hg:=hr.get i;simp only[List.getD,hy,bMc,bLv (show i<us.length by omega)] at hg;exact pure (v:=us[i]) (by simp[execOp,e,Instr.extract,bLv (show i<us.length by omega)]) hg rfl rfl
  ·cases ho
 case call c=>
  obtain⟨callee,args,types⟩:=c
  cases callee with
  |value f=>simp at ho
  |invoke r m=>simp at ho
  |builtin b=>
   simp only at ho;obtain⟨E',w',v,g1,g2⟩:=uX (P:=P) (ty:=type) (cs:=args.map fun| .const _=>true|_=>false) s.rel s.fresh (fW s args.toList) ho;refine⟨E',w',_,v,?_, .inl rfl,g2⟩;simp only[execOp,resolve,Sem.run_bind,Sem.run_pure,Result.andThen_ok,invoke];have:args.map a.eval=List.toArray (args.toList.map a.eval):=by apply bOb;simp
   rw[this];exact g1
end
end Go.AI
