/-
  Texts of this proof, one after the other.
  Conditions: none.
-/
import Derived.Test.YtkonebkblgemkaaGreatZ4
set_option linter.unusedVariables false
set_option linter.unusedSimpArgs false
set_option maxRecDepth 100000
set_option maxHeartbeats 4000000
noncomputable section
section
namespace Go.Pv
open Go
def rN(h:Heap)(m way sz bytes:Nat)(s x:IV):Option (IV×Heap):=match s,x with
 | .nilslice,.hslice _ _ _ _=>none
 | .nilslice,x=>match fO h sz x with
  |some (n,xs)=>if 0<n/\n*bytes<=140737488355328 then some (mO h m way n sz xs)else none
  |none=>none
 |_,_=>none
section
variable {P:Program} {M:Meta} {h:Heap} {w:World}
theorem b4A(a:Inv M h w){m:Nat}(hn0:h.get m= .free){way sz bytes:Nat}{t tx ty e:TypeId}{i:TypeInfo}{z:Value}{du:TypeDesc}{s x v:IV}{rs rx:Value}{h':Heap}(ht:P.underlying t=some (.slice e))(hi:P.info? e=some i)(hsz:i.size=sz+1)(hby:i.bytes=bytes+1)
  (hz:i.zero=some z) (hzl:z.cells.size=sz+1) (hu:P.underlying tx=some du) (hk:lX du=true) (hs:VR M s rs) (hx:VR M x rx) (happ:rN h m way (sz+1) (bytes+1) s x=some (v,h')):
  ∃r w' M',(Builtin.append_ #[t,tx] ty #[rs,rx]).run P w= .ok r w'/\VR M' v r/\Inv M' h' w'/\Pres w.heap.size M h w M' h' w':=by
 unfold rN at happ;split at happ
 ·simp at happ
 ·split at happ
  case h_2=>simp at happ
  rename_i n xs hsrc;split at happ
  case isFalse=>simp at happ
  rename_i hb0;obtain⟨hn,hb⟩:=hb0;simp only [h0V]at happ
  cases hs
  obtain⟨news,hc,hS⟩:=c5E (P:=P) a hu hk hx hsrc;have hxl:xs.length=n*(sz+1):=(b0G (P:=P) a hx hsrc).1;have hnl:news.length=n*(sz+1):=by rw [<-hc.len,hxl]
  rw [<-hsz]at hS;have hzero: ∀m,(Builtin.zeroCells z.cells m).size=m*(sz+1):=fun m=>by rw [size_zeroCells,hzl]
  have hfit:Builtin.nextslicecap (0+n) 0*i.bytes<=281474976710656:=growslice_fits (by omega) (by rw [hby];simpa using hb);have h63:((0+n:Nat):Int)<=9223372036854775807:=by
   have:n*1<=n*(bytes+1):=h5A _ (by omega);omega
  have hrun:=run_append_grow_src (P:=P) w t tx ty e i z ht hi hz none 0 0 [] (run_firstCells_none w.drew i.size 0 0 0) rx n news hS (by omega) h63 hfit;simp only [h3U,h1Q]at hrun;have hge:=grownCap_ge w n 0 e;have hcap:grownCap w n 0 e*(sz+1)<=(news.toArray++Builtin.zeroCells z.cells (grownCap w n 0 e-n)).size:=by
   simp only [h5H,h4B,hnl,hzero];rw [<-Nat.add_mul];exact h2Q _ (by omega)
  obtain⟨M',r1,r2,r3⟩:=a0K a hn0 way (fun _=>by rw [hxl];exact h9A hn (h5J _)) (fz:=(0,0)) (rM w _) (.inl (h1D _)) hxl hge hcap (by
   rw [hxl,<-hnl];simpa using hc)
  rw [happ]at r1 r2 r3;exact⟨_,_,M',hrun,r3,r1,r2⟩
 ·simp at happ
end
section
variable (E:Env) (f:FuncId) (o:Oper) (ev:Operand->Option TV) (h:Heap) (n:Nat)
def e4V:Option (Option TV×Heap):=
 match o.op with
 | .alloc t=>match o.dst with
  |some d=>if E.bx f d=0 then none else(cV E.P t).map fun z=>(some (.v (.ptr n 0)),h.set n (.cells (cellsOf z)))
  |none=>none
 | .makeSlice t l c=>match E.P.underlying t,o.dst,asI (ev l),asI (ev c)with
  |some (.slice e),some d,some l,some c=>match gB E.P e,iH E.P e,cV E.P e with
   |some (sz+1),some bytes,some z=>
    if 0<=l/\l<=c/\c<=9223372036854775807/\bytes*c<=140737488355328/\(cellsOf z).length=sz+1/\(1-E.A f d=0->0<l.toNat)then
     let r:=mO h n (1-E.A f d) l.toNat (sz+1) (fF l.toNat (cellsOf z));some (some (.v r.1),r.2)
    else none
   |_,_,_=>none
  |_,_,_,_=>none
 | .makeMap _ r=>match r with
  |none=>some (some (.v (.map n)),h.set n (.map []))
  |some _=>none
 | .call {callee:= .builtin .append,args,argTypes } =>
  match argTypes.toList,args.toList with
  | [t,u],[sx,xx]=>match bM (ev sx),bM (ev xx),E.P.underlying t,E.P.underlying u,o.dst with
   |some s,some x,some (.slice e),some du,some d=>match gB E.P e,iH E.P e,cV E.P e with
    |some (sz+1),some (bytes+1),some z=>if(cellsOf z).length=sz+1/\lX du=true then(rN h n (E.A f d) (sz+1) (bytes+1) s x).map fun r=>(some (.v r.1),r.2)else none
    |_,_,_=>none
   |_,_,_,_,_=>none
  |_,_=>none
 |_=>none
end
section
variable {M:Meta} {h:Heap} {w:World} {E:Env} {f:FuncId} {o:Oper} {ev:Operand->Option TV} {ρ:Operand->Value} {pb:Nat->Nat}
theorem e4W(a:Inv M h w){n:Nat}(hn:h.get n= .free)(hev: ∀x tv,ev x=some tv->TR M pb tv (ρ x)){v:Option TV}{h':Heap}(he:e4V E f o ev h n=some (v,h')):b9Y E M h w o ρ v h':=by
 unfold e4V at he
 cases hop:o.op with
 |alloc t=>
  simp only [hop]at he;split at he
  case h_2=>simp at he
  split at he
  ·simp at he
  obtain⟨z,h1,h2⟩:=h0W.1 he;simp at h2;obtain⟨rfl,rfl⟩:=h2;obtain⟨i,r,h3,h4,h5,h6⟩:=eG (M:=M) h1;have hc:=jI h5 h6;have hl:(cellsOf z).length=r.cells.size:=by simpa using hc.len
  obtain⟨M',q1,q2,q3,q4⟩:=a7N a hn (fz:=(0,0)) (cs:=cellsOf z) (NewBlk.alloc w (.cells r.cells t)) (.inl (h1D _)) (by omega) (by rw [h1H (by simp;omega)];exact hc);refine⟨_,M',q1,q2,.inl ⟨_,_,rfl,?_,.ptr q3⟩⟩;simp only [execOp,hop];refine cD _ _ ?_;simp only [Instr.alloc,h1K,cJ w h3 h4,h1F,newVar,Go.newRow,run_newObj,h1R];rfl
 |makeSlice t lo co=>
  simp only [hop]at he;split at he
  case h_2=>simp at he
  rename_i e d l c hu hd hl hc;split at he
  case h_2=>simp at he
  rename_i sz bytes z hsz hby hz;split at he
  case isFalse=>simp at he
  rename_i hcond;obtain⟨b1,b2,b3,b4,hzl,b5⟩:=hcond;simp only [h0V,h2M]at he;obtain⟨rfl,rfl⟩:=he;obtain⟨kl,hkl⟩:=pT hl;obtain⟨kc,hkc⟩:=pT hc;have vl:VR M (.int kl l) (ρ lo):=hev _ _ hkl;have vc:VR M (.int kc c) (ρ co):=hev _ _ hkc;generalize hρl:ρ lo=rl at vl;generalize hρc:ρ co=rc at vc
  cases vl
  cases vc
  obtain⟨i,hi1,hi2⟩:=dK hsz;obtain⟨i',hi3,hi4⟩:=mA hby;rw [hi1]at hi3;simp at hi3;subst hi3;obtain⟨rz,hz1,hz2⟩:=mN (M:=M) hz hi1;have hrep:=wK hz2 (by omega) l.toNat;have hrepc:=wK hz2 (by omega) c.toNat;rw [hzl]at hrep hrepc;have hlc:l.toNat<=c.toNat:=by omega
  have hmul:l.toNat*(sz+1)<=c.toNat*(sz+1):=h2Q _ hlc;have hrl:(fF l.toNat (cellsOf z)).length=l.toNat*(sz+1):=by rw [gE,hzl]
  obtain⟨M',q1,q2,q3⟩:=a0K a hn (1-E.A f d) (by intro hw;rw [hrl];have:=b5 hw;exact h9A this (h5J _)) (rc:=(Array.range (c.toNat*(sz+1))).map (rz.cells[· %rz.cells.size]!)) (fz:=(0,0)) (NewBlk.alloc w (.cells _ e)) (.inl (h1D _)) hrl hlc (by simp) (by
   rw [hrl];have:((Array.range (c.toNat*(sz+1))).map (rz.cells[· %rz.cells.size]!)).toList.take (l.toNat*(sz+1))=((Array.range (l.toNat*(sz+1))).map (rz.cells[· %rz.cells.size]!)).toList:=by
    apply h3T;intro j
    by_cases hj:j<l.toNat*(sz+1)
    ·simp [hj,show j<c.toNat*(sz+1) by omega]
    ·have hmn:min l.toNat c.toNat=l.toNat:=h8F hlc;simp [hj,hmn]
   rw [this];exact hrep)
  refine⟨_,M',q1,q2,.inl ⟨_,_,rfl,?_,q3⟩⟩;simp only [execOp,hop,hρl,hρc];refine cD _ _ ?_;have wl:IntKind.i64.wrap l=l:=h0X _ (by omega);have wc:IntKind.i64.wrap c=c:=h0X _ (by omega);have t1: ∀n:Int,0<=n->n<=c->(decide (n<0)||decide ((bytes:Int)*n>2^48))=false:=by
   intro n h0 hn;have:(bytes:Int)*n<=bytes*c:=h5G hn (by omega);have e1:decide (n<0)=false:=by simp;omega
   have e2:decide ((bytes:Int)*n>2^48)=false:=by simp;omega
   rw [e1,e2];rfl
  have hty:(typeInfo e).run E.P w= .ok i w:=by simp [typeInfo,hi1]
  simp only [Instr.makeSlice,h1K,run_underlying hu,h1F,asInt,asIntOf,h1R,hty,wl,wc,hi4];have e3:(decide (c<0)||decide ((bytes:Int)*c>2^48)||decide (l<0)||decide (l>c))=false:=by
   rw [t1 c (by omega) (by omega)];have e1:decide (l<0)=false:=by simp;omega
   have e2:decide (l>c)=false:=by simp;omega
   rw [e1,e2];rfl
  have hi2':i.size=sz+1:=hi2;simp only [e3,h1X,if_false,h1R,h1F,run_askRoom,cG hi1,hi2',h1K]
  by_cases hn0:c.toNat*(sz+1)=0
  ·rw [if_pos hn0];simp only [h1K,h1R,h1F,Go.newRow,run_newObj,hn0];rw [uR _ (fun x=>rz.cells[x%rz.cells.size]!)];rfl
  ·rw [if_neg hn0];simp only [h1K,h1R,h1F,cJ w hi1 hz1,Go.newRow,run_newObj];rfl
 |makeMap t r=>
  simp only [hop]at he;split at he
  case h_2=>simp at he
  simp at he;obtain⟨rfl,rfl⟩:=he;obtain⟨M',q1,q2,q3⟩:=e4R a hn (NewBlk.alloc w (.map #[] 0));refine⟨_,M',q1,q2,.inl ⟨_,_,rfl,?_,.map q3⟩⟩;simp only [execOp,hop];refine cD _ _ ?_;simp only [Instr.makeMap,h8E,h1K,h1R,h1F,run_newObj];rfl
 |call c=>
  obtain⟨callee,args,argTypes⟩:=c;simp only [hop]at he
  cases callee with
  |value x=>simp at he
  |invoke x n=>simp at he
  |builtin b=>
   cases b
   case append=>
    simp only at he;split at he
    case h_2=>simp at he
    rename_i t u sx xx hat har;have hat':argTypes= #[t,u]:=by apply h4V;simpa using hat
    have har':args= #[sx,xx]:=by apply h4V;simpa using har
    split at he
    case h_2=>simp at he
    rename_i s x e du d hs hx ht hu hd;split at he
    case h_2=>simp at he
    rename_i sz bytes z hsz hby hz;split at he
    case isFalse=>simp at he
    rename_i hcond;obtain⟨hzl,hk⟩:=hcond;obtain⟨⟨r,h''⟩,h1,h2⟩:=h0W.1 he;simp at h2;obtain⟨rfl,rfl⟩:=h2;obtain⟨i,hi1,hi2⟩:=dK hsz;obtain⟨i',hi3,hi4⟩:=mA hby;rw [hi1]at hi3;simp at hi3;subst hi3;obtain⟨rz,hz1,hz2⟩:=mN (M:=M) hz hi1;have hzs:rz.cells.size=sz+1:=by have:=hz2.len;simp at this;omega
    obtain⟨rr,w',M',a1,a2,a3,a4⟩:=b4A (P:=E.P) a hn (ty:=o.type) ht hi1 hi2 hi4 hz1 hzs hu hk (bK hev hs) (bK hev hx) h1;refine⟨w',M',a3,a4,.inl ⟨_,rr,rfl,?_,a2⟩⟩;subst hat';subst har';simp only [execOp,hop,resolve,invoke,h1K,h1R,h1F,builtin];simp only [h7U,h2H,h4D,a1,h1F]
   all_goals simp at he
 |_=>simp [hop]at he
theorem c5H{sz:Nat}{x:IV}{r:Nat×List IV}(hs:e4H sz x=some r)(h:Heap):fO h sz x=some r/\∀id off len z,x≠ .hslice id off len z:=by
 unfold e4H at hs;unfold fO
 cases x<;>simp_all
theorem e4X{n:Nat}{v:Option TV}{x:IObj}(ha:aSh E f o ev n=some (v,some x)):e4V E f o ev h n=some (v,h.set n x):=by
 unfold aSh at ha;unfold e4V
 cases hop:o.op<;>simp only [hop]at ha⊢
 all_goals try (cases ha;done)
 case alloc t=>
  split at ha
  ·rename_i d hd;split at ha
   ·cases ha
   ·rename_i hb;obtain⟨z,h1,h2⟩:=h0W.1 ha;simp only [h2M,h0V]at h2;obtain⟨rfl,rfl⟩:=h2;simp [hd,hb,h1]
  ·cases ha
 case makeSlice t l c=>
  split at ha
  case h_2=>cases ha
  rename_i e d l c hu hd hl hc;split at ha
  case h_2=>cases ha
  rename_i sz bytes z hsz hby hz;simp only [hu,hd,hl,hc,hsz,hby,hz];split at ha
  ·rename_i hc;simp only [h0V,h2M]at ha;obtain⟨rfl,rfl⟩:=ha;rw [if_pos hc];rfl
  ·cases ha
 case makeMap t r=>
  split at ha
  ·simp only [h0V,h2M]at ha;obtain⟨rfl,rfl⟩:=ha;rfl
  ·cases ha
 case call c=>
  obtain⟨callee,args,argTypes⟩:=c
  cases callee with
  |value x=>simp at ha
  |invoke x n=>simp at ha
  |builtin b=>
   cases b<;>simp only at ha⊢
   all_goals try (cases ha;done)
   split at ha
   case h_2=>cases ha
   rename_i t u sx xx hat har;split at ha
   case h_2=>cases ha
   rename_i x1 e du d hs hx ht hu hd;split at ha
   case h_2=>cases ha
   rename_i sz bytes z hsz hby hz;simp only [hat,har,hs,hx,ht,hu,hd,hsz,hby,hz];split at ha
   case isFalse=>cases ha
   rename_i hc;rw [if_pos hc];split at ha
   case h_2=>cases ha
   rename_i k xs hsrc;split at ha
   ·simp at ha
   rename_i hk;split at ha
   case isFalse=>cases ha
   rename_i hb;simp only [h0V,h2M]at ha;obtain⟨rfl,rfl⟩:=ha;obtain⟨e1,e2⟩:=c5H hsrc h;have: ∀{x:IV}(_: ∀id off len z,x≠ .hslice id off len z){m way sz bytes:Nat},rN h m way sz bytes .nilslice x=match fO h sz x with
     |some (n,xs)=>if 0<n/\n*bytes<=140737488355328 then some (mO h m way n sz xs)else none
     |none=>none:=by
    intro x hx m way sz bytes;unfold rN
    cases x
    case hslice id off len z=>exact absurd rfl (hx id off len z)
    all_goals rfl
   rw [this e2,e1];simp only;rw [if_pos ⟨by omega,hb⟩];rfl
theorem d3J{n:Nat}{v:Option TV}(ha:aSh E f o ev n=some (v,none)):gV E f o ev h=some (v,h):=by
 unfold aSh at ha;unfold gV
 cases hop:o.op<;>simp only [hop]at ha⊢
 all_goals try (cases ha;done)
 case alloc t=>
  split at ha
  ·split at ha
   ·cases ha
   ·obtain⟨z,h1,h2⟩:=h0W.1 ha;simp at h2
  ·cases ha
 case makeSlice t l c=>
  split at ha
  case h_2=>cases ha
  split at ha
  case h_2=>cases ha
  split at ha
  ·simp at ha
  ·cases ha
 case makeMap t r=>
  split at ha
  ·simp at ha
  ·cases ha
 case call c=>
  obtain⟨callee,args,argTypes⟩:=c
  cases callee with
  |value x=>simp at ha
  |invoke x n=>simp at ha
  |builtin b=>
   cases b<;>simp only at ha⊢
   all_goals try (cases ha;done)
   split at ha
   case h_2=>cases ha
   rename_i t u sx xx hat har;split at ha
   case h_2=>cases ha
   rename_i x1 e du d hs hx ht hu hd;split at ha
   case h_2=>cases ha
   rename_i sz bytes z hsz hby hz;simp only [hat,har,hs,hx,ht,hu,hd,hsz,hby,hz];split at ha
   case isFalse=>cases ha
   rename_i hc;rw [if_pos hc];split at ha
   case h_2=>cases ha
   rename_i k xs hsrc;obtain⟨e1,e2⟩:=c5H hsrc h;split at ha
   ·rename_i hk;simp only [h0V,h2M,and_true]at ha;subst ha;unfold kP
    rw [e1];simp [hk]
   ·split at ha
    ·simp at ha
    ·cases ha
theorem f1P(a:Inv M h w){n:Nat}(hev: ∀x tv,ev x=some tv->TR M pb tv (ρ x)){v:Option TV}{x:IObj}(hn:h.get n= .free)(ha:aSh E f o ev n=some (v,some x)):b9Y E M h w o ρ v (h.set n x):=e4W a hn hev (e4X ha)
theorem e4Y(a:Inv M h w){n:Nat}(hev: ∀x tv,ev x=some tv->TR M pb tv (ρ x)){v:Option TV}(ha:aSh E f o ev n=some (v,none)):b9Y E M h w o ρ v h:=c5G a hev (d3J ha)
end
end Go.Pv
end
end
