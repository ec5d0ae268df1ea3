/-
  Texts of this proof, one after the other.
  Conditions: none.
-/
import Derived.Test.YtkonebkblgemkaaGreatZ2
set_option linter.unusedVariables false
set_option linter.unusedSimpArgs false
set_option maxRecDepth 100000
set_option maxHeartbeats 4000000
noncomputable section
section
namespace Go.Pv
section
variable {M:Meta} {h:Heap} {w:World}
theorem Inv.row(a:Inv M h w){id:Nat}{cs:List IV}(hg:h.get id= .cells cs): ∃b rc,M.loc id=some b/\Blk M w b rc/\cs.length<=rc.size/\eB M cs (rc.toList.take cs.length)/\At w b 0 (rc.toList.take cs.length):=by
 obtain⟨b,rc,h1,h2,h3,h4,h5⟩:=a.cells id cs hg;refine⟨b,rc,h1,h2,h3,h4,fun i hi=>?_⟩;obtain⟨el,fz,hb⟩:=h2.at_;simp at hi;simp [World.cell?,hb,show i<rc.size by omega]
theorem uF.uncons{k v:IV}{es:List (IV×IV)}{ents:List MapEntry}(h:uF M ((k,v)::es) ents): ∃e r,ents=e::r/\VR M k e.key/\VR M v e.val/\uF M es r:=by
 obtain⟨h1,h2⟩:=h
 cases ents with
 |nil=>simp [cW]at h1
 |cons e r=>
  obtain⟨_,_,e1,k1,k2⟩:=cW.uncons h1;obtain⟨_,_,e2,v1,v2⟩:=cW.uncons h2;simp at e1 e2;obtain⟨rfl,rfl⟩:=e1;obtain⟨rfl,rfl⟩:=e2;exact⟨e,r,rfl,k1,v1,k2,v2⟩
theorem uF.cons{k v:IV}{es:List (IV×IV)}{e:MapEntry}{r:List MapEntry}(hk:VR M k e.key)(hv:VR M v e.val)(h:uF M es r):uF M ((k,v)::es) (e::r):=
 ⟨cW.cons hk h.1,cW.cons hv h.2⟩
theorem uF.len{es:List (IV×IV)}{ents:List MapEntry}(h:uF M es ents):es.length=ents.length:=by simpa using h.1.1
theorem jW{d:TypeDesc}{x y:IV}{r:Bool}{a b:Value}(h:dO d x y=some r)(hx:VR M x a)(hy:VR M y b):Instr.sameNow d a b=some r/\(r=true->x=y/\a=b/\∀n,Instr.sameBits n b a=true):=by
 unfold dO at h;split at h
 ·simp at h;subst h;cases hx;cases hy;refine⟨rfl,fun e=>?_⟩;simp at e;subst e;exact⟨rfl,rfl,fun n=>by cases n<;>simp [Instr.sameBits]⟩
 ·split at h
  ·rename_i hk;simp at h;subst h;subst hk;cases hx;cases hy;refine⟨by simp [Instr.sameNow],fun e=>?_⟩;simp at e;subst e;exact⟨rfl,rfl,fun n=>by cases n<;>simp [Instr.sameBits]⟩
  ·simp at h
 ·simp at h;subst h
  cases hx with|str s1=>cases hy with|str s2=>
  refine⟨?_,fun e=>?_⟩
  ·simp only [Instr.sameNow];rw [beq_toListBytes,ByteArray.toList_eq,ByteArray.toList_eq]
  ·have e':s1.data.toList=s2.data.toList:=by simpa using e
   have e2:s1=s2:=by
    obtain⟨⟨l1⟩⟩:=s1;obtain⟨⟨l2⟩⟩:=s2;simp at e';subst e';rfl
   subst e2;have hb:(s1==s1)=true:=by rw [beq_toListBytes];simp
   exact⟨rfl,rfl,fun n=>by cases n<;>simp [Instr.sameBits,hb]⟩
 ·simp at h
def rK(kt et:TypeId)(k:Value)(ok:Bool)(ents:Array MapEntry):Sem Value:=do
 Instr.checkKey ents.isEmpty 10000 kt k
 match<-Instr.findKey kt k ents.toList with
 |some (_,v)=>pure (if ok then .tuple #[v,.bool true]else v)
 |none=>do
  let z<-zeroValue et
  pure (if ok then .tuple #[z,.bool false]else z)
theorem tD{d:TypeDesc}{k:IV}{rk:Value}(hk:VR M k rk): ∀{es:List (IV×IV)}{ents:List MapEntry}{r:Option IV}(i:Nat),uF M es ents->fU d k es=some r->
  match r with
  |some v=> ∃j rv,Instr.findNow d rk ents i=some (some (j,rv))/\VR M v rv
  |none=>Instr.findNow d rk ents i=some none
 | [],ents,r,i,hm,h=>by
  have:ents=[]:=by have:=hm.len;simpa using this.symm
  subst this;simp [fU]at h;subst h;rfl
 | (x,v)::es,ents,r,i,hm,h=>by
  obtain⟨e,q,rfl,k1,v1,h2⟩:=hm.uncons;unfold fU at h;split at h
  ·rename_i hs;simp at h;subst h;have:=(jW hs hk k1).1;exact⟨i,e.val,by simp [Instr.findNow,this],v1⟩
  ·rename_i hs;have:=(jW hs hk k1).1;have ih:=tD hk (i+1) h2 h;simpa [Instr.findNow,this]using ih
  ·simp at h
theorem pW{P:Program}{kt:TypeId}{d:TypeDesc}{k:IV}{rk:Value}{emp:Bool}(hu:P.underlying kt=some d)(hf:nM d k=true)(hk:VR M k rk)(w:World)(n:Nat):(Instr.checkKey emp (n+1) kt rk).run P w= .ok () w:=by
 unfold nM at hf;split at hf
 ·cases hk;simp [Instr.checkKey,run_underlying hu]
 ·cases hk;simp [Instr.checkKey,run_underlying hu]
 ·cases hk;simp [Instr.checkKey,run_underlying hu]
 ·simp at hf
section
variable {E:Env} {o:Oper} {ev:Operand->Option TV} {ρ:Operand->Value} {pb:Nat->Nat}
theorem e4T(a:Inv M h w)(hev: ∀x tv,ev x=some tv->TR M pb tv (ρ x)){tv:TV}(hr:dP E o ev h=some tv):
  ∃x r,tv= .v x/\(execOp ρ o).run E.P w= .ok (.value r) w/\VR M x r:=by
 unfold dP at hr
 cases hop:o.op with
 |load t ad=>
  simp only [hop]at hr;split at hr
  case h_2=>simp at hr
  rename_i id off ha;split at hr
  case h_2=>simp at hr
  rename_i cs hg;obtain⟨v,h1,h2⟩:=h0W.1 hr;subst h2;have hav:VR M (.ptr id off) (ρ ad):=hev _ _ ha;generalize hρ:ρ ad=ra at hav
  cases hav with
  | @ptr _ _ b hl=>
   obtain⟨b',rc,l1,l2,l3,l4,l5⟩:=a.row hg;rw [hl]at l1;simp at l1;subst l1;obtain⟨r,h3,h4⟩:=wD (P:=E.P) l4 l5 h1;exact⟨_,r,rfl,by simp only [execOp,hop,hρ,Instr.loadAt,Instr.sureAddr];exact cD _ _ (by simpa using h3),h4⟩
 |convert s d x=>
  simp only [hop]at hr;split at hr
  case h_2=>simp at hr
  rename_i e id off len hs hd hx;split at hr
  case h_2=>simp at hr
  rename_i cs he hg;split at hr
  case isFalse=>simp at hr
  rename_i hle;obtain⟨b,h1,h2⟩:=h0W.1 hr;subst h2;have hav:=bK hev hx;generalize hρ:ρ x=ra at hav;obtain⟨b',rc,l1,l2,l3,l4,l5⟩:=a.row hg
  cases hav with
  | @hslice _ _ _ _ cap b0 ad hl had hlen=>
   rw [hl]at l1;simp at l1;subst l1;refine⟨_,.string ⟨b.toArray⟩,rfl,?_,d3D b⟩;simp only [execOp,hop,hρ];refine cD _ _ ?_;rw [run_convert_bytes_string w s d e _ _ _ hs he hd];have hc:=(l4.drop off).take len;have hlen':((rc.toList.take cs.length|>.drop off).take len).length=len:=by simp;omega
   have:=oN (P:=E.P) w (a:=ad) (cap:=cap) hc.1 h1 ?_
   ·rw [hlen']at this;exact this
   ·rw [hlen']
    by_cases h0:len=0
    ·subst h0;simp [loadCells,loadCellsFrom]
    ·obtain⟨rfl,_⟩:=had.resolve_left (by omega);have:=wG (P:=E.P) w (b:=b0) (base:=off) (rc:=(rc.toList.take cs.length|>.drop off).take len) (fun i hi=>by
      have hi':=hi;rw [hlen']at hi';have:=l5 (off+i) (by simp;omega);simpa using this)
     rw [hlen']at this;exact this
 |slice t x lo hi mx=>
  simp only [hop]at hr;split at hr
  case h_2=>simp at hr
  rename_i n e id off hu hx;split at hr
  case h_2=>simp at hr
  rename_i cs sz hg hsz;split at hr
  case isFalse=>simp at hr
  rename_i hle;obtain⟨⟨l,k⟩,h1,h2⟩:=h0W.1 hr;subst h2;have hav:VR M (.ptr id off) (ρ x):=hev _ _ hx;generalize hρ:ρ x=ra at hav;obtain⟨b',rc,l1,l2,l3,l4,l5⟩:=a.row hg;obtain⟨i,hi1,hi2⟩:=dK hsz
  cases hav with
  | @ptr _ _ b0 hl=>
   rw [hl]at l1;simp at l1;subst l1;obtain⟨c1,c2,c3⟩:=jJ (P:=E.P) (isSlice:=false) w (h1D n) (wI hev lo) (wI hev hi) h1;have hbase:VR M (.hslice id off n (sz+1)) (.slice (some ⟨b0,off,none⟩) n n):= .hslice _ hl (.inr ⟨rfl,rc.size,l2.bsz,by omega⟩) (h1D n);have hcut:=uE hbase c1 c2;refine⟨_,_,rfl,?_,hcut⟩;simp only [execOp,hop,hρ];refine cD _ _ ?_;simp only [Instr.sliceAt,h1K,run_underlying hu,h1F,Instr.sureAddr,h1R,h8E,c3,cG hi1,hi2,h4C];split<;>rfl
 |lookup t x k ok=>
  simp only [hop]at hr;split at hr
  case h_2=>simp at hr
  rename_i kt et m key hu hm hk;split at hr
  case h_2=>simp at hr
  rename_i d es hd hes;split at hr
  case isFalse=>simp at hr
  rename_i hkf;have hmv:=bK hev hm;have hkv:=bK hev hk;have hent: ∃ents:Array MapEntry,uF M es ents.toList/\(Instr.lookup t (ρ x) (ρ k) ok).run E.P w=(rK kt et (ρ k) ok ents).run E.P w:=by
   split at hes
   ·simp at hes;subst hes;generalize ρ x=rx at hmv
    cases hmv
    exact⟨#[],⟨cW.nil _,cW.nil _⟩,by simp [Instr.lookup,rK,run_underlying hu];rfl⟩
   ·rename_i id;split at hes
    case h_2=>simp at hes
    rename_i es' hg;simp at hes;subst hes;generalize ρ x=rx at hmv
    cases hmv with
    | @map _ b hl=>
     obtain⟨b',ents,clock,g1,g2,g3,_⟩:=a.maps id es' hg;rw [hl]at g1;simp at g1;subst g1;refine⟨ents,g3,?_⟩;have hgo:(getObj b).run E.P w= .ok (.map ents clock) w:=by simp [getObj,Sem.run,g2]
     simp [Instr.lookup,rK,run_underlying hu,hgo];rfl
   ·simp at hes
  obtain⟨ents,hmr,hrun⟩:=hent;have hck:=fun emp=>pW (M:=M) (emp:=emp) hd hkf hkv w 9999
  have hfin: ∀{q:Option IV}{res:TV},fU d key es=some q->(match q with
    |some v=>some (TV.v (if ok then .tuple [v,.bool true]else v))
    |none=>(cV E.P et).map fun z=>TV.v (if ok then .tuple [z,.bool false]else z))=some res-> ∃v r,res= .v v/\(execOp ρ o).run E.P w= .ok (.value r) w/\VR M v r:=by
   intro q res hf hres;have hfo:=tD hkv 0 hmr hf
   cases q with
   |some v=>
    obtain⟨j,rv,f1,f2⟩:=hfo;simp at hres;subst hres;refine⟨_,if ok then .tuple #[rv,.bool true]else rv,rfl,?_,?_⟩
    ·simp only [execOp,hop];refine cD _ _ ?_;rw [hrun];simp only [rK,h1K,h1F,hck,Instr.findKey,run_underlying hd,f1,h1R]
    ·cases ok
     ·simpa using f2
     ·simpa using dT (cW.cons f2 (cW.cons (.bool true) (cW.nil M)))
   |none=>
    obtain⟨z,hz,hzz⟩:=h0W.1 hres;subst hzz;obtain⟨i,r,z1,z2,z3,z4⟩:=eG (M:=M) hz;refine⟨_,if ok then .tuple #[r,.bool false]else r,rfl,?_,?_⟩
    ·simp only [execOp,hop];refine cD _ _ ?_;rw [hrun];have hfo':Instr.findNow d (ρ k) ents.toList 0=some none:=hfo;simp only [rK,h1K,h1F,hck,Instr.findKey,run_underlying hd,hfo',h1R,cJ w z1 z2]
    ·cases ok
     ·simpa using z3
     ·simpa using dT (cW.cons z3 (cW.cons (.bool false) (cW.nil M)))
  split at hr
  ·rename_i v hf;exact hfin hf hr
  ·rename_i hf;exact hfin hf hr
  ·simp at hr
 |call c=>
  obtain⟨callee,args,argTypes⟩:=c;simp only [hop]at hr
  cases callee with
  |value x=>simp at hr
  |invoke x n=>simp at hr
  |builtin b=>
   cases b
   case len=>
    simp only at hr;split at hr
    case h_2=>simp at hr
    rename_i t id ht hx;obtain⟨y,hy,hyx⟩:=h2W.1 hx;have hav:=bK hev hyx;split at hr
    case h_2=>simp at hr
    rename_i kt et es hu hg;simp at hr;subst hr;generalize hρ:ρ y=ra at hav
    cases hav with
    | @map _ b hl=>
     obtain⟨b',ents,clock,g1,g2,g3,_⟩:=a.maps id es hg;rw [hl]at g1;simp at g1;subst g1;refine⟨_,goInt ents.size,rfl,?_,?_⟩
     ·simp only [execOp,hop,resolve,invoke,h1K,h1R,h1F,builtin];have:(Builtin.len_ argTypes o.type (args.map ρ)).run E.P w= .ok (goInt ents.size) w:=by
       simp [Builtin.len_,ht,hy,hρ,run_underlying hu,getObj,Sem.run,g2]
      simp [this]
     ·have:=g3.len;simp at this;rw [this];exact .int _ _
   all_goals simp at hr
 |_=>simp [hop]at hr
end
end
section
variable {M:Meta} {h:Heap} {w w':World}
theorem gE(n:Nat)(z:List IV):(fF n z).length=n*z.length:=by
 induction n with
 |zero=>simp [fF]
 |succ n ih=>simp only [fF,h1E,ih,h3B];omega
theorem a2J(z:List IV)(h0:0<z.length): ∀(n i:Nat),i<n*z.length->(fF n z)[i]?=z[i%z.length]?
 |0,i,hi=>by omega
 |n+1,i,hi=>by
  rw [h3B]at hi;simp only [fF]
  by_cases hlt:i<z.length
  ·rw [h1Z hlt,Nat.mod_eq_of_lt hlt]
  ·rw [h1V (by omega),a2J z h0 n (i-z.length) (by omega)];rw [Nat.mod_eq_sub_mod (by omega:i>=z.length)]
theorem wK{z:List IV}{rz:Array Value}(hz:eB M z rz.toList)(h0:0<z.length)(n:Nat):
  eB M (fF n z) ((Array.range (n*z.length)).map (rz[· %rz.size]!)).toList:=by
 have hsz:rz.size=z.length:=by have:=hz.len;simpa using this.symm
 refine⟨⟨by simp [gE],fun i h1 h2=>?_⟩,fun i h1=>?_⟩
 ·rw [gE]at h1;have hm:=h7O i h0;have e1:(fF n z)[i]?=z[i%z.length]?:=a2J z h0 n i h1;rw [h0U (by rw [gE];exact h1),h0U hm]at e1;simp only [h0V]at e1;rw [e1];have:=hz.1.2 (i%z.length) hm (by simp [hsz];exact hm);simpa [hsz,getElem!_pos,hm]using this
 ·have h1':=h1;rw [gE]at h1';have hm:=h7O i h0;have e1:(fF n z)[i]?=z[i%z.length]?:=a2J z h0 n i h1';rw [h0U h1,h0U hm]at e1;simp only [h0V]at e1;rw [e1];exact hz.2 _ hm
theorem mN{t:TypeId}{z:IV}{i:TypeInfo}{P:Program}(hz:cV P t=some z)(hi:P.info? t=some i): ∃r,i.zero=some r/\eB M (cellsOf z) r.cells.toList:=by
 obtain⟨i',r,h1,h2,h3,h4⟩:=eG (M:=M) hz;rw [hi]at h1;simp at h1;subst h1;exact⟨r,h2,jI h3 h4⟩
theorem uR(f g:Nat->Value):(Array.range 0).map f=(Array.range 0).map g:=by simp
theorem rL{P:Program}(w:World){t e:TypeId}{n sz:Nat}{z:IV}{ps:List (Nat×IV)}{parts:Array (Nat×Value)}{cs:List IV}(hu:P.underlying t=some (.slice e))(hsz:gB P e=some (sz+1))
  (hz:cV P e=some z) (hn:n*(sz+1)<=16777216) (hzl:(cellsOf z).length=sz+1) (hp:PR M ps parts.toList) (h1:nJ (fun i=>some (i*(sz+1),sz+1)) (fF n (cellsOf z)) ps=some cs):
  ∃ro:Array Value,(Instr.buildSlice t n parts).run P w= .ok (.slice (some ⟨w.heap.size,0,none⟩) n n) (w.alloc (.cells ro e))/\eB M cs ro.toList/\cs.length=n*(sz+1):=by
 obtain⟨i,hi1,hi2⟩:=dK hsz;obtain⟨rz,hz1,hz2⟩:=mN (M:=M) hz hi1;have hrep:=wK hz2 (by omega) n;rw [hzl]at hrep;obtain⟨ro,h5,h6⟩:=wE hp hrep h1;have hcl:cs.length=n*(sz+1):=by
  have: ∀{place:Nat->Option (Nat×Nat)}{ps:List (Nat×IV)}{c out:List IV},nJ place c ps=some out->out.length=c.length:=by
   intro place ps
   induction ps with
   |nil=>intro c out hh;simp [nJ]at hh;rw [hh]
   |cons p ps ih=>
    intro c out hh;obtain⟨pi,pv⟩:=p;unfold nJ at hh;split at hh
    ·simp at hh
    ·split at hh
     ·rename_i hc2;rw [ih hh];simp [spl];omega
     ·simp at hh
  rw [this h1,gE,hzl]
 refine⟨ro,?_,h6,hcl⟩;have hi2':i.size=sz+1:=hi2;simp only [Instr.buildSlice,h1K,run_underlying hu,h1F,cG hi1,hi2'];rw [if_neg (by omega)]
 by_cases hn0:n*(sz+1)=0
 ·rw [hn0]at h5;rw [if_pos hn0];have h5':Instr.fill (fun i=>some (i*(sz+1),sz+1)) ((Array.range (n*(sz+1))).map fun x=>(#[]:Array Value)[x% (#[]:Array Value).size]!) parts.toList=some ro:=by
   rw [hn0,uR _ (fun x=>rz.cells[x%rz.cells.size]!)];exact h5
  simp only [h1K,h1R,h1F];rw [h5'];simp only [Go.newRow,h1K,run_newObj,h1F,h1R];rfl
 ·rw [if_neg hn0];simp only [h1K,h1R,h1F,cJ w hi1 hz1];rw [h5];simp only [Go.newRow,h1K,run_newObj,h1F,h1R];rfl
theorem oO(a:Inv M h w)(way:Nat){len sz cap:Nat}{cs:List IV}{rc:Array Value}{el:TypeId}{fz:Nat×Nat}(nb:NewBlk w w' (.cells rc el fz))(hf:fz.2<=fz.1\/rc.size<=fz.1)(hn:cs.length=len*sz)(hlen:len<=cap)
  (hcap:cap*sz<=rc.size) (hc:eB M cs (rc.toList.take cs.length)):
  ∃M',Inv M' (newRow h way len sz cs).2 w'/\Pres w.heap.size M h w M' (newRow h way len sz cs).2 w'/\VR M' (newRow h way len sz cs).1 (.slice (some ⟨w.heap.size,0,none⟩) len cap):=by
 unfold newRow
 split
 ·exact e4N a nb hf hn hlen hcap hc
 ·obtain⟨M',h1,h2,h3,h4⟩:=yR a nb hf (by rw [hn];exact h2F (h2Q _ hlen) hcap) hc;exact⟨M',h1,h2,.hslice _ h3 (.inr ⟨rfl,rc.size,h4,by omega⟩) hlen⟩
theorem rM(w:World)(x:Obj):NewBlk w (w.drew.alloc x) x where
 new:=by show(w.heap.push x)[w.heap.size]?=_;simp
 old:=fun b hb=>by show(w.heap.push x)[b]?=_;rw [h5V,if_neg (by omega)]
 size:=by simp
 os:=rfl
 tape:=rfl
 output:=rfl
theorem b0G{P:Program}(a:Inv M h w){sz n:Nat}{x:IV}{xs:List IV}{r:Value}(hx:VR M x r)(hs:fO h sz x=some (n,xs)):
  xs.length=n*sz/\(∀w':World,(Builtin.lenOf r).run P w'= .ok n w')/\(∀i (hi:i<xs.length),isCell xs[i]=true)/\
  ∀m,m<=n-> ∃news:List Value,eB M (xs.take (m*sz)) news/\news.length=m*sz/\(Builtin.firstCells sz m r).run P w= .ok news.toArray w/\(Builtin.firstCells sz m r).run P w.drew= .ok news.toArray w.drew:=by
 unfold fO at hs;split at hs
 ·simp at hs;obtain⟨rfl,rfl⟩:=hs
  cases hx
  refine⟨by simp,fun _=>rfl,fun i hi=>by simp at hi,fun m hm=>?_⟩;have:m=0:=by omega
  subst this;exact⟨[],by simpa using eB.nil M,by simp,run_firstCells_none w _ _ _ _,run_firstCells_none w.drew _ _ _ _⟩
 ·split at hs
  case isFalse=>simp at hs
  rename_i hz;subst hz;simp at hs;obtain⟨rfl,rfl⟩:=hs
  cases hx with
  |vnil=>
   refine⟨by simp,fun _=>rfl,fun i hi=>by simp at hi,fun m hm=>?_⟩;have:m=0:=by omega
   subst this;exact⟨[],by simpa using eB.nil M,by simp,run_firstCells_none w _ _ _ _,run_firstCells_none w.drew _ _ _ _⟩
  | @vslice _ _ _ _ cap _ ad rv hn hlen ha him hv hc ht hf=>
   refine⟨hn,fun _=>rfl,hc,fun m hm=>?_⟩;rename_i id e len z cs;have hmz:m*z<=len*z:=h2Q _ hm;have hcr:eB M cs ((List.range cs.length).map rv):=⟨⟨by simp,fun i p q=>by simpa using hv i p⟩,hc⟩;have hcells: ∀j v,(((List.range cs.length).map rv).take (m*z))[j]?=some v->w.cell? (ad.add j)=some v:=by
    intro j v hj;rw [h4H]at hj;split at hj
    ·rename_i hjm;obtain⟨h1,h2⟩:=h2B.1 hj;simp at h1 h2;have hm0:cap≠0:=by
      intro e;have:len=0:=by omega
      subst this;simp at hn;omega
     obtain⟨hsp,_⟩:=ha.resolve_left hm0;obtain⟨ab,ao,asp⟩:=ad;simp only at hsp;subst hsp;rw [dA,<-h2];exact a.im _ _ _ (him j h1)
    ·simp at hj
   have hl:(((List.range cs.length).map rv).take (m*z)).length=m*z:=by simp;omega
   exact⟨_,hcr.take _,hl,run_firstCells_some w z m ad len cap _ hl hcells,run_firstCells_some w.drew z m ad len cap _ hl (by simpa using hcells)⟩
 ·split at hs
  case isFalse=>simp at hs
  rename_i hz;subst hz;split at hs
  case h_2=>simp at hs
  rename_i cs hg;split at hs
  case isFalse=>simp at hs
  rename_i hle;simp at hs;obtain⟨rfl,rfl⟩:=hs;rename_i id off len z _;obtain⟨b',rc,l1,l2,l3,l4,l5⟩:=a.row hg
  cases hx with
  | @hslice _ _ _ _ cap b ad hl had hlen=>
   rw [hl]at l1;simp at l1;subst l1;have hl2:((cs.drop off).take (len*z)).length=len*z:=by simp;omega
   refine⟨hl2,fun _=>rfl,((l4.drop off).take _).2,fun m hm=>?_⟩;have hmz:m*z<=len*z:=h2Q _ hm;have hcells: ∀j v,((((rc.toList.take cs.length).drop off).take (len*z)).take (m*z))[j]?=some v->w.cell? (ad.add j)=some v:=by
    intro j v hj;rw [h4H]at hj;split at hj
    ·rename_i hjm;obtain⟨hk1,hk2⟩:=mM _ _ _ _ _ hj;have hm0:cap≠0:=by
      intro e;have:len=0:=by omega
      subst this;simp at hk1
     obtain⟨rfl,_⟩:=had.resolve_left hm0;rw [dA];obtain⟨q1,q2⟩:=h2B.1 hk2;have:=l5 (off+j) q1;rw [q2]at this;simpa using this
    ·simp at hj
   have hlr:((((rc.toList.take cs.length).drop off).take (len*z)).take (m*z)).length=m*z:=by simp;omega
   exact⟨_,((l4.drop off).take _).take _,hlr,run_firstCells_some w z m ad len cap _ hlr hcells,run_firstCells_some w.drew z m ad len cap _ hlr (by simpa using hcells)⟩
 ·split at hs
  case isFalse=>simp at hs
  rename_i hz;subst hz;simp at hs;obtain⟨rfl,rfl⟩:=hs
  cases hx with
  |str s=>
   refine⟨by simp,fun _=>by simp [Builtin.lenOf],fun i hi=>by simp [isCell],fun m hm=>?_⟩;simp only [h4Z]at hm;have hcr:eB M (s.data.toList.map fun b=>IV.int .u8 b.toNat) (s.data.toList.map fun b=>Value.int .u8 b.toNat):=
    ⟨⟨by simp,fun i p q=>by simpa using VR.int _ _⟩,fun i p=>by simp [isCell]⟩
   have hrun: ∀w':World,(Builtin.firstCells 1 m (.string s)).run P w'= .ok ((s.data.toList.map fun b=>Value.int .u8 b.toNat).take (m*1)).toArray w':=by
    intro w';simp only [Builtin.firstCells,h1R]
    congr 1
    apply h4V;simp [ByteArray.data_extract,h5Y]
   exact⟨_,hcr.take _,by have e:s.size=s.data.size:=rfl;simp;omega,hrun w,hrun w.drew⟩
 ·simp at hs
theorem c5E{P:Program}(a:Inv M h w){sz n:Nat}{x:IV}{xs:List IV}{r:Value}{tx:TypeId}{du:TypeDesc}(hu:P.underlying tx=some du)(hk:lX du=true)(hx:VR M x r)(hs:fO h sz x=some (n,xs)):
  ∃news:List Value,eB M xs news/\Src P sz tx r n news w:=by
 obtain⟨h1,h2,h3,h4⟩:=b0G (P:=P) a hx hs;obtain⟨news,n1,n2,n3,n4⟩:=h4 n (h1D _);rw [h1H (by omega)]at n1;refine⟨news,n1,⟨?_,h2,n3,n4,n2,n1.one⟩⟩;unfold lX at hk;split at hk
 ·exact .inl ⟨_,hu⟩
 ·exact .inr hu
 ·simp at hk
end
end Go.Pv
end
section
namespace Go.Pv
open Go
def mO(h:Heap)(n way len sz:Nat)(cs:List IV):IV×Heap:=(uM n way len sz cs,h.set n (pR way len sz cs))
theorem a0K{M:Meta}{h:Heap}{w w':World}(a:Inv M h w){n:Nat}(hn0:h.get n= .free)(way:Nat){len sz cap:Nat}{cs:List IV}(h0:way=0->0<cs.length){rc:Array Value}{el:TypeId}{fz:Nat×Nat}(nb:NewBlk w w' (.cells rc el fz))(hf:fz.2<=fz.1\/rc.size<=fz.1)(hn:cs.length=len*sz)(hlen:len<=cap)
  (hcap:cap*sz<=rc.size) (hc:eB M cs (rc.toList.take cs.length)):
  ∃M',Inv M' (mO h n way len sz cs).2 w'/\Pres w.heap.size M h w M' (mO h n way len sz cs).2 w'/\VR M' (mO h n way len sz cs).1 (.slice (some ⟨w.heap.size,0,none⟩) len cap):=by
 unfold mO uM pR
 by_cases hw:way=0
 ·simp only [if_pos hw];exact e4S a hn0 nb hf hn (h0 hw) hlen hcap hc
 ·simp only [if_neg hw];obtain⟨M',h1,h2,h3,h4⟩:=a7N a hn0 nb hf (by rw [hn];exact h2F (h2Q _ hlen) hcap) hc;exact⟨M',h1,h2,.hslice _ h3 (.inr ⟨rfl,rc.size,h4,by omega⟩) hlen⟩
theorem Inv.free1{M:Meta}{h:Heap}{w:World}(a:Inv M h w): ∃M',Inv M' (h.push .free) w/\Pres w.heap.size M h w M' (h.push .free) w:=by
 let M':Meta:= {M with nid:=M.nid+1,tip:=fun i=>if i=h.next then 0 else M.tip i }
 have hE:Ext M M':=⟨by simp [M'],fun _ _ x=>x,fun _ _ _ x=>x,fun _ _ x=>x,fun i hi=>by
  simp only [M'];rw [if_neg (by have:=a.nid;omega)];exact h1D _,fun i hi _=>rfl⟩
 have hg: ∀j,(h.push .free).get j=if j=h.next then .free else h.get j:=fun j=>Heap.get_push h j .free
 have hblk: ∀{b rc},Blk M w b rc->Blk M' w b rc:=fun l=>⟨l.at_,l.free,l.bsz⟩
 have hwb: ∀j,Wb M' (h.push .free) j=Wb M h j:=fun j=>by
  by_cases e:j=h.next
  ·subst e;simp [Wb,hg,a.fresh h.next (h1D _)]
  ·simp only [Wb,hg,if_neg e,M']
 refine⟨M',?_,⟨hE,h1D _,rfl,rfl,rfl,fun b hb hn=>⟨rfl,?_,fun _=>rfl⟩⟩⟩
 ·exact {
   nid:=by show M.nid+1=_;rw [a.nid,Heap.next_push]
   fresh:=fun id hid=>by
    rw [Heap.next_push]at hid;rw [hg,if_neg (by omega)];exact a.fresh id (by omega)
   freshl:=fun id hid=>by
    rw [Heap.next_push]at hid;exact a.freshl id (by omega)
   cells:=fun id cs e=>by
    rw [hg]at e;split at e
    ·simp at e
    ·obtain⟨b,rc,h1,h2,h3,h4,h5⟩:=a.cells id cs e;exact⟨b,rc,h1,hblk h2,h3,h4.mono hE,h5⟩
   tips:=fun id k e=>by
    rw [hg]at e;split at e
    ·simp at e
    ·rename_i hi;obtain⟨h0,b,e',rc,h1,h2,h3⟩:=a.tips id k e;exact⟨by simp only [M'];rw [if_neg hi];exact h0,b,e',rc,h1,hblk h2,h3⟩
   maps:=fun id es e=>by
    rw [hg]at e;split at e
    ·simp at e
    ·obtain⟨b,ents,cl,h1,h2,h3⟩:=a.maps id es e;exact⟨b,ents,cl,h1,h2,h3.1.mono hE,h3.2⟩
   im:=a.im
   bsz:=a.bsz
   one:=fun id id' b e e'=>by
    rw [hwb]at e e';exact a.one id id' b e e'
   resv:=fun id e=>by
    rw [hg]at e;split at e
    ·rename_i hi;subst hi;exact⟨a.freshl _ (h1D _),by simp [M']⟩
    ·rename_i hi;simp only [M'];rw [if_neg hi];exact a.resv id e }
 ·rintro⟨id,e⟩;rw [hwb]at e;exact hn ⟨id,e⟩
theorem Inv.reserve{M:Meta}{h:Heap}{w:World}(a:Inv M h w): ∀k,∃M',Inv M' (h.reserve k) w/\Pres w.heap.size M h w M' (h.reserve k) w
 |0=>⟨M,a,Pres.refl _ _ _ _⟩
 |k+1=>by
  obtain⟨M1,b1,b2⟩:=a.reserve k;obtain⟨M2,c1,c2⟩:=b1.free1;exact⟨M2,c1,b2.trans c2⟩
end Go.Pv
end
end
