/-
  Texts of this proof, one after the other.
  Conditions: none.
-/
import Derived.Test.YtkonebkblgemkaaGreatZ6
set_option linter.unusedVariables false
set_option linter.unusedSimpArgs false
set_option maxRecDepth 100000
set_option maxHeartbeats 4000000
noncomputable section
section
namespace Go.Pv
theorem PT.get_mapv{α:Type}(g:α->α): ∀(t:PT α)(k:Nat),(t.mapv g).get k=(t.get k).map g
 | .nil,k=>rfl
 | .node l v r,k=>by
  unfold PT.mapv PT.get
  split
  ·cases v<;>rfl
  ·split
   ·exact PT.get_mapv g l _
   ·exact PT.get_mapv g r _
theorem a2S(F:GF)(d:Option Tmp)(v:Option TV):(F.put d v).ff=F.ff.put d v:=by
 cases d with
 |none=>rfl
 |some t=>
  simp only [GF.put,GF.ff,FF.put]
  congr 1
  funext k;simp only [GF.tmg,PT.get_set]
  by_cases h:k=t<;>simp [h]
theorem d4B(F:GF)(s:Nat):(F.clr s).ff=F.ff.clr s:=by
 simp only [GF.clr,GF.ff,FF.clr]
 congr 1
 funext k;simp only [GF.tmg,PT.get_mapv]
 cases h:F.tm.get k with
 |none=>simp
 |some x=>cases x<;>simp [c5P]
theorem c5T(F:GF)(s:Nat)(cs:List IV):(F.lset s (some cs)).ff=F.ff.lset s cs:=by
 simp only [GF.lset,GF.ff,FF.lset]
 congr 1
 funext k;simp only [GF.lvg,PT.get_set]
 by_cases h:k=s<;>simp [h]
theorem d4C(F:GF)(d:Option Tmp)(e:Ef):(F.app d e).ff=F.ff.app d e:=by
 unfold GF.app FF.app
 cases e.loc with
 |none=>exact a2S _ _ _
 |some q=>
  obtain⟨s,cs⟩:=q
  cases hb:e.box<;>simp only [hb]
  ·simp [c5T,a2S]
  ·simp [c5T,a2S,d4B]
theorem a8A: ∀(l:List Nat)(F:GF),(F.forget l).ff=F.ff.forget l
 | [],_=>rfl
 |s::r,F=>by
  unfold GF.forget FF.forget
  rw [a8A r]
  congr 1
  have h1:=d4B F s;have e1:((F.clr s).lset s none).ff.tm=(F.ff.clr s).tm:=by rw [<-h1];rfl
  have e2:((F.clr s).lset s none).ff.lv=fun k=>if k=s then none else F.ff.lv k:=by
   funext k;simp only [GF.lset,GF.ff,GF.lvg,PT.get_set,GF.clr]
   by_cases h:k=s<;>simp [h,FF.clr]
  exact FF.ext' (fun k=>congrFun e1 k) (fun k=>congrFun e2 k)
theorem b4T{E:Env}{f:FuncId}{ops:List Oper}{draw:Bool}(F:GF):(F.start E f ops draw).ff=F.ff.start E f ops draw:=by
 unfold GF.start FF.start
 cases draw with
 |true=>simpa using a8A _ _
 |false=>simp
section
variable {E:Env} {f:FuncId} {C:FuncId->List IV->Heap->(IV->Heap->Prop)->Prop}
theorem cB{b:Bool}{A:Prop} :(aV C).need b A ↔ b=true/\A:=by cases b<;>simp [aV,aC]
theorem tJ{ck:CK}{cs:List IV}{off:Nat}{K:IV->Prop}(h:ldC (aV C) ck cs off K): ∃v,cs[off]?=some v/\K v:=by
 cases ck with
 |int k=>
  simp only [ldC,aV,aK]at h;split at h
  ·rename_i k' n e;split at h
   ·rename_i hk;subst hk;exact⟨_,e,h⟩
   ·exact h.elim
  ·exact h.elim
 |bool=>
  simp only [ldC,aV,iS]at h;split at h
  ·rename_i e;exact⟨_,e,h⟩
  ·exact h.elim
 |str=>
  simp only [ldC,aV,bZ]at h;split at h
  ·rename_i e;exact⟨_,e,h⟩
  ·exact h.elim
 |slc sz=>
  simp only [ldC,aV,bH]at h;split at h
  ·rename_i e;split at h
   ·rename_i hk;subst hk;exact⟨_,e,h⟩
   ·exact h.elim
  ·exact h.elim
 |any=>
  simp only [ldC,aV,f1S]at h;split at h
  ·rename_i e;exact⟨_,e,h⟩
  ·exact h.elim
theorem uW: ∀{l:List CK}{cs:List IV}{off:Nat}{K:List IV->Prop},c0J (aV C) l cs off K-> ∃vs,vs.length=l.length/\(∀i,i<l.length->cs[off+i]?=vs[i]?)/\K vs
 | [],cs,off,K,h=>⟨[],rfl,fun i hi=>by simp at hi,h⟩
 |ck::r,cs,off,K,h=>by
  unfold c0J at h;obtain⟨v,h1,h2⟩:=tJ h;obtain⟨vs,h3,h4,h5⟩:=uW h2;refine⟨v::vs,by simp [h3],fun i hi=>?_,h5⟩
  cases i with
  |zero=>simpa using h1
  |succ i=>
   have:=h4 i (by simpa using hi);rw [show off+(i+1)=off+1+i by omega,this];simp
theorem b4U{l:List CK}{n:Nat}{t:TypeId}{cs:List IV}{off:Nat}{K:IV->Prop}(hs:gA E.P t=some (true,n+1))(hn:l.length=n+1)(h:c0J (aV C) l cs off fun vs=>K (.agg vs)):
  ∃v,fA E.P t cs off=some v/\K v:=by
 obtain⟨vs,h1,h2,h3⟩:=uW h;rw [hn]at h1 h2;have hlast:=h2 n (by omega);rw [h0U (show n<vs.length by omega)]at hlast;have hlt:=(h2B.1 hlast).1;refine⟨.agg vs,?_,h3⟩;unfold fA
 simp only [hs];rw [if_pos (by omega)]
 congr 2
 apply h3T;intro i
 by_cases hi:i<n+1
 ·rw [h3L hi,h4N,h2 i hi]
 ·rw [h2E (by simp;omega),h2E (by omega)]
theorem yZ{t:TypeId}{cs:List IV}{off:Nat}{K:IV->Prop}(h:ldK (aV C) E t cs off K): ∃v,fA E.P t cs off=some v/\K v:=by
 unfold ldK at h;split at h
 ·rename_i n hs;obtain⟨v,h1,h2⟩:=tJ h;exact⟨v,by unfold fA;simp only [hs];exact h1,h2⟩
 ·rename_i n hs;split at h
  ·rename_i hn;exact b4U hs (h1I hn) h
  ·exact h.elim
 ·exact h.elim
theorem d0M{t:TypeId}{r:List IV}{K:IV->Prop}(h:ldE (aV C) E t r K): ∃v,r[0]?=some v/\K v:=by
 unfold ldE at h;split at h
 ·rename_i n hs;split at h
  ·rename_i hn;have hn:=h1I hn;simp only [aV,a1B]at h;split at h
   ·rename_i xs e;split at h
    ·rename_i hl;have hl:=h1I hl;obtain⟨vs,h1,h2,h3⟩:=uW h;rw [hn]at h1 h2;have:vs=xs:=by
      apply h3T;intro i
      by_cases hi:i<n+1
      ·have:=h2 i hi;rw [h1Q]at this;exact this.symm
      ·rw [h2E (by omega),h2E (by omega)]
     subst this;exact⟨_,e,h3⟩
    ·exact h.elim
   ·exact h.elim
  ·exact tJ h
 ·exact tJ h
theorem b4V: ∀n,(e5H n).length=n
 |0=>rfl
 |n+1=>by simp [e5H,b4V n]
theorem oR{f:FuncId}{d:Option Tmp}{t:TypeId}{cs:List IV}{off:Nat}{K:IV->Prop}(h:ldW (aV C) E f d t cs off K): ∃v,fA E.P t cs off=some v/\K v:=by
 unfold ldW at h;split at h
 ·split at h
  ·split at h
   ·rename_i hs;simp only [aV,f1S]at h;split at h
    ·rename_i v e;exact⟨v,by simp only [fA,hs];exact e,h⟩
    ·exact h.elim
   ·rename_i n hs;exact b4U hs (b4V _) h
   ·exact h.elim
  ·split at h
   ·exact yZ h
   ·split at h
    ·rename_i sz hs hc;simp only [aV,cK]at h;split at h
     ·rename_i e;exact⟨_,by simp only [fA,hs];exact e,h⟩
     ·rename_i e;split at h
      ·rename_i hk;subst hk;exact⟨_,by simp only [fA,hs];exact e,h⟩
      ·exact h.elim
     ·exact h.elim
    ·exact h.elim
   ·split at h
    ·rename_i hs;simp only [aV,qY]at h;split at h
     ·rename_i e;exact⟨_,by simp only [fA,hs];exact e,h⟩
     ·exact h.elim
    ·exact h.elim
   ·split at h
    ·rename_i hs;simp only [aV,g0I]at h;split at h
     ·rename_i e;exact⟨_,by simp only [fA,hs];exact e,h⟩
     ·exact h.elim
    ·exact h.elim
   ·split at h
    ·rename_i sz hs hc;simp only [aV,cT]at h;split at h
     ·exact h.elim
     ·rename_i e;split at h
      ·rename_i hk;subst hk;exact⟨_,by simp only [fA,hs];exact e,h⟩
      ·exact h.elim
     ·exact h.elim
    ·exact h.elim
   ·split at h
    ·rename_i hs;simp only [aV,a2N]at h;split at h
     ·rename_i e;exact⟨_,by simp only [fA,hs];exact e,h⟩
     ·rename_i e;exact⟨_,by simp only [fA,hs];exact e,h⟩
     ·exact h.elim
    ·exact h.elim
   ·split at h
    ·rename_i sz hs hc;simp only [aV,cT]at h;split at h
     ·rename_i e;exact⟨_,by simp only [fA,hs];exact e,h⟩
     ·rename_i e;split at h
      ·rename_i hk;subst hk;exact⟨_,by simp only [fA,hs];exact e,h⟩
      ·exact h.elim
     ·exact h.elim
    ·exact h.elim
 ·exact yZ h
theorem a8B{t:TypeId}{cs:List IV}{off:Nat}{v:IV}{K:List IV->Prop}(h:stK (aV C) E t cs off v K): ∃cs',a7H E.P t cs off v=some cs'/\K cs':=by
 unfold stK at h;split at h
 ·rename_i n hs hv;split at h
  ·rename_i hn;have hn:=h1I hn;obtain⟨h1,h2⟩:=cB.1 h;refine⟨_,?_,h2⟩;unfold a7H
   simp only [hv,hs,if_true];rw [if_pos ⟨hn,h2T h1⟩]
  ·exact h.elim
 ·exact h.elim
theorem qU{P:Program} : ∀{fs:List Field}{xs ys:List IV}{b:Bool},tH P fs xs ys=some b->mI P fs xs ys=some b
 | [],_,_,_,h=>h
 |f::fs,xs,ys,b,h=>by
  unfold tH at h;unfold mI
  split at h
  ·cases h
  ·rename_i hn;rw [if_neg hn];split at h
   ·rename_i d x y h1 h2 h3;simp only [h1,h2,h3];split at h
    ·rename_i p q hp hq;simp only [hp];simp only [h0V]at h
     cases p with
     |true=>simp only [h2G]at h;subst h;exact qU hq
     |false=>simp only [h3Z]at h;subst h;rfl
    ·cases h
   ·cases h
theorem a0N{c:Bool}{t:TypeId}{xs ys:List IV}{b:Bool}(h:c5Q E t xs ys=some b):c9N E.P c t (.agg xs) (.agg ys)=some b:=by
 unfold c5Q at h;unfold c9N
 split at h
 ·rename_i fs hf;simp only [hf];split at h
  ·cases h
  ·rename_i hg;rw [if_neg (by simp [hg])];exact qU h
 ·cases h
theorem c0M{op:BinOp}{c:Bool}{t:TypeId}{a b:IV}{K:IV->Prop}(h:f1T (aV C) E op c t a b K): ∃v,nL E.P op c t a b=some v/\K v:=by
 unfold f1T at h;split at h
 ·rename_i k x k' y;split at h
  ·split at h
   ·rename_i hk;obtain⟨h1,h2⟩:=cB.1 h;exact⟨_,by simp [nL,hk,rE,show¬y=0 by simpa using h1],h2⟩
   ·exact h.elim
  ·split at h
   ·rename_i hk;obtain⟨h1,h2⟩:=cB.1 h;exact⟨_,by simp [nL,hk,rE,show¬y=0 by simpa using h1],h2⟩
   ·exact h.elim
  ·obtain⟨h1,h2⟩:=cB.1 h;simp only [decide_eq_true_eq]at h1;exact⟨_,by simp [nL,oJ,show¬y<0 by omega],h2⟩
  ·obtain⟨h1,h2⟩:=cB.1 h;simp only [decide_eq_true_eq]at h1;exact⟨_,by simp [nL,oJ,show¬y<0 by omega],h2⟩
  ·rename_i h1 h2 h3 h4;split at h
   ·rename_i v hv;refine⟨v,?_,h⟩;unfold nL
    cases op<;>first|exact hv|exact absurd rfl h1|exact absurd rfl h2|exact absurd rfl h3|exact absurd rfl h4
   ·exact h.elim
 ·rename_i x y;split at h
  ·obtain⟨h1,h2⟩:=cB.1 h;simp only [h1S]at h1;refine⟨_,?_,h2⟩;simp only [nL,a2C];rw [if_neg (by omega)]
  ·split at h
   ·rename_i v hv;exact⟨v,by simpa [nL]using hv,h⟩
   ·exact h.elim
 ·rename_i xs ys;split at h
  ·split at h
   ·rename_i b hb;exact⟨_,by simp [nL,a0N hb],h⟩
   ·exact h.elim
  ·split at h
   ·rename_i b hb;exact⟨_,by simp [nL,a0N hb],h⟩
   ·exact h.elim
  ·exact h.elim
 ·split at h
  ·rename_i v hv;exact⟨v,hv,h⟩
  ·exact h.elim
theorem pZ{len:Nat}{lo hi:Option (Option TV)}{K:Int->Int->Prop}(h:d0K (aV C) len lo hi K): ∃(l h':Int),gT len lo hi=some (l.toNat,h'.toNat)/\0<=l/\l<=h'/\h'<=len/\K l h':=by
 unfold d0K at h;unfold gT
 split at h
 ·rename_i l h' h1 h2;obtain⟨h3,h4⟩:=cB.1 h;simp only [h0Y,decide_eq_true_eq]at h3;refine⟨l,h',?_,h3.1,h3.2.1,h3.2.2,h4⟩
  cases lo<;>cases hi<;>simp only at h1 h2<;>simp [h1,h2]<;>simp_all<;>omega
 ·exact h.elim
theorem e5J(cf:FuncId->List IV->Heap->Option (IV×Heap)):b4M g0L cf:=fun g xs h r e=>by cases e
theorem b4W{draw:Bool}{o:Oper}{F:GF}{h:Heap}{K:GF->Ef->Prop}(n:Nat)(hk:a2O E f draw o F h K): ∃e,dX E f (jH E n) draw o (bC E F.tmg) F.lvg h=some e/\K F e:=by
 unfold a2O at hk;split at hk
 ·rename_i e he;exact⟨e,a7W (e5J _) he,hk⟩
 ·exact hk.elim
theorem wS{F:GF}{c:Operand}{b:Bool}(h:bC E F.tmg c=some (.v (.bool b))):(b4Q c F b).ff=F.ff:=by
 unfold b4Q
 split
 ·rename_i t;rw [a2S];refine FF.ext' (fun k=>?_) (fun k=>rfl);simp only [FF.put]
  by_cases hk:k=t
  ·subst hk;simpa [GF.ff,bC]using h.symm
  ·simp [hk]
 ·rfl
theorem a8C(ck:CK)(v:IV):a2B ck (a2B ck v)=a2B ck v:=by
 cases ck<;>cases v<;>rfl
theorem a8D: ∀(l:List CK)(vs:List IV),nY l (nY l vs)=nY l vs
 | [],vs=>rfl
 |ck::r,[]=>rfl
 |ck::r,v::vs=>by simp only [nY,a8C,a8D r vs]
theorem d0N(P:Program)(t:TypeId)(v:IV):nZ P t (nZ P t v)=nZ P t v:=by
 have h: ∀v,(∀cs,v≠ .agg cs)->nZ P t v=a2B (a9Z P t) v:=by
  intro v hv;unfold nZ
  split
  ·rename_i cs;exact absurd rfl (hv cs)
  ·rfl
 by_cases hv: ∃cs,v= .agg cs
 ·obtain⟨cs,rfl⟩:=hv;simp only [nZ,a8D]
 ·have hn: ∀cs,v≠ .agg cs:=fun cs e=>hv ⟨cs,e⟩
  rw [h v hn,h _ (fun cs e=>?_),a8C];unfold a2B at e;split at e
  ·cases e
  ·cases e
  ·exact hn cs e
theorem uX(P:Program): ∀(ts:List TypeId)(vs:List IV),hY P ts (hY P ts vs)=hY P ts vs
 | [],vs=>rfl
 |t::ts,[]=>rfl
 |t::ts,v::vs=>by simp only [hY,d0N,uX P ts vs]
theorem a2T{g:FuncId}{xs:List IV}{h:Heap}{Q:IV->Heap->Prop}(hc:aU E g (a2P E g xs) h Q):aU E g xs h Q:=by
 unfold a2P at hc;split at hc
 ·rename_i hi;split at hc
  ·rename_i fn hf;obtain⟨n,v,h',h1,h2⟩:=hc;refine⟨n,v,h',?_,h2⟩
   cases n with
   |zero=>simp [jH]at h1
   |succ n=>
    rw [iY]at h1⊢;simp only [hf,hi,uX]at h1⊢;exact h1
  ·exact hc
 ·rename_i hi;split at hc
  ·rename_i hr;split at hc
   ·rename_i fn hf;obtain⟨n,v,h',h1,h2⟩:=hc;refine⟨n,v,h',?_,h2⟩
    cases n with
    |zero=>simp [jH]at h1
    |succ n=>
     rw [iY]at h1⊢;simp only [hf,hi,yN,hr,uX]at h1⊢;exact h1
   ·exact hc
  ·exact hc
theorem uY{h:Heap}{sz:Nat}{x:IV}{K:Nat->List IV->Prop}(hk:d3X (aV C) h sz x K): ∃n xs,fO h sz x=some (n,xs)/\K n xs:=by
 unfold d3X at hk;unfold fO
 split at hk
 ·exact⟨_,_,rfl,hk⟩
 ·split at hk
  ·rename_i hb;exact⟨_,_,by simp only [h1I hb,if_true],hk⟩
  ·exact hk.elim
 ·split at hk
  ·rename_i hb;simp only [aV,aF]at hk;split at hk
   ·rename_i cs hg;have hk':(aV C).need _ _:=hk;obtain⟨h1,h2⟩:=cB.1 hk';have h1:=h2T h1;exact⟨_,_,by simp only [h1I hb,if_true,hg,h1],h2⟩
   ·exact hk.elim
  ·exact hk.elim
 ·split at hk
  ·rename_i hb;exact⟨_,_,by simp only [h1I hb,if_true],hk⟩
  ·exact hk.elim
 ·exact hk.elim
theorem b4X{h:Heap}{way sz bytes:Nat}{s x:IV}{K:IV->Heap->Prop}(hk:d3Y (aV C) h way sz bytes s x K): ∃v h',kP h way sz bytes s x=some (v,h')/\K v h':=by
 unfold d3Y at hk;split at hk
 ·rename_i hw;have hw:=h1I hw;subst hw;obtain⟨n,xs,h1,hk⟩:=uY hk;unfold kP
  simp only [h1]
  cases n with
  |zero=>exact hk.elim
  |succ n=>
   rw [if_neg (Nat.succ_ne_zero n)];simp only [aV,qT]at hk;split at hk
   ·exact⟨_,_,by simp only [hk.1,if_true,newRow],hk.2⟩
   ·exact⟨_,_,by simp only [hk.1,and_self,if_true,newRow],hk.2⟩
   ·exact⟨_,_,by simp only [hk.1.2.2,hk.1.1,hk.1.2.1,and_self,if_true],hk.1.1▸hk.2⟩
   ·exact hk.elim
 ·exact hk.elim
theorem c0N{h:Heap}{way sz bytes:Nat}{s x:IV}{K:IV->Heap->Prop}(hk:f1U (aV C) h way sz bytes s x K): ∃v h',kP h way sz bytes s x=some (v,h')/\K v h':=by
 unfold f1U at hk;obtain⟨n,xs,h1,hk⟩:=uY hk;unfold kP
 simp only [h1]
 by_cases hn:n=0
 ·subst hn;simp only [if_true];have h00:Nat.beq 0 0=true:=rfl;simp only [h00,aV,aM]at hk;split at hk
  ·exact⟨_,_,rfl,hk⟩
  ·split at hk
   ·rename_i hb;exact⟨_,_,by simp only [h1I hb,if_true],h1I hb▸hk⟩
   ·exact hk.elim
  ·split at hk
   ·rename_i hb;exact⟨_,_,by simp only [h1I hb,if_true],h1I hb▸hk⟩
   ·exact hk.elim
  ·exact hk.elim
 ·simp only [hn,if_false];have hnb:Nat.beq n 0=false:=by
   cases hq:Nat.beq n 0 with
   |false=>rfl
   |true=>exact absurd (h1I hq) hn
  simp only [hnb,aV,aM]at hk;split at hk
  ·have hk':(aV C).need _ _:=hk;obtain⟨h2,h3⟩:=cB.1 hk';exact⟨_,_,by simp only [h2T h2,if_true],h3⟩
  ·split at hk
   ·rename_i hb;have hk':(aV C).need _ _:=hk;obtain⟨h2,h3⟩:=cB.1 hk';exact⟨_,_,by simp only [h1I hb,h2T h2,and_self,if_true],h3⟩
   ·exact hk.elim
  ·split at hk
   ·rename_i hb;simp only [dG]at hk;split at hk
    ·rename_i m hg;have hk':(aV C).need _ _:=hk;obtain⟨h2,h3⟩:=cB.1 hk';simp only [h0Y]at h2;exact⟨_,_,by simp only [hg,h1I h2.1,h1I hb,h2T h2.2,and_self,if_true],h3⟩
    ·exact hk.elim
   ·exact hk.elim
  ·split at hk
   ·rename_i hb;simp only [aF]at hk;split at hk
    ·rename_i cs hg;have hk':(aV C).need _ _:=hk;obtain⟨h2,h3⟩:=cB.1 hk';simp only [h0Y]at h2;exact⟨_,_,by simp only [hg,h1I h2.1,h1I hb,h2T h2.2.1,h2T h2.2.2,and_self,if_true],h3⟩
    ·exact hk.elim
   ·exact hk.elim
  ·exact hk.elim
theorem d0O(hC: ∀g xs h Q,C g xs h Q->aU E g xs h Q){draw:Bool}{o:Oper}{F:GF}{h:Heap}{K:GF->Ef->Prop}(hk:opW (aV C) E f draw o F h K):
  ∃n G e,G.ff=F.ff/\dX E f (jH E n) draw o (bC E F.tmg) F.lvg h=some e/\K G e:=by
 have els:a2O E f draw o F h K-> ∃n G e,G.ff=F.ff/\dX E f (jH E n) draw o (bC E F.tmg) F.lvg h=some e/\K G e:=fun q=>by
  obtain⟨e,h1,h2⟩:=b4W 0 q;exact⟨0,F,e,rfl,h1,h2⟩
 unfold opW at hk;split at hk
 ·rename_i c a b hop;split at hk
  ·rename_i x hx
   cases x with
   |true=>
    simp only [aV,aM]at hk;split at hk
    ·rename_i v hv;exact⟨0,_,_,wS hx,by simp [dX,eN,hop,hx,hv],hk⟩
    ·exact hk.elim
   |false=>
    simp only [aV,aM]at hk;split at hk
    ·rename_i v hv;exact⟨0,_,_,wS hx,by simp [dX,eN,hop,hx,hv],hk⟩
    ·exact hk.elim
  ·exact hk.elim
 ·rename_i op t x y u hop;split at hk
  ·rename_i a b ha hb;obtain⟨v,h1,h2⟩:=c0M hk;exact⟨0,F,_,rfl,by simp [dX,eN,hop,ha,hb,h1],h2⟩
  ·exact hk.elim
 ·rename_i t a hop;split at hk
  ·rename_i s off ha;split at hk
   ·rename_i cs hl;obtain⟨v,h1,h2⟩:=oR hk;exact⟨0,F,_,rfl,by simp [dX,eN,gD,hop,ha,hl,h1],h2⟩
   ·exact hk.elim
  ·rename_i cs off ha;obtain⟨v,h1,h2⟩:=oR hk;exact⟨0,F,_,rfl,by simp [dX,eN,hop,ha,h1],h2⟩
  ·rename_i id off ha;simp only [aV,aF]at hk;split at hk
   ·rename_i cs hg;obtain⟨v,h1,h2⟩:=oR (C:=C) hk;exact⟨0,F,_,rfl,by simp [dX,eN,gD,gZ,dP,hop,ha,hg,h1],h2⟩
   ·exact hk.elim
  ·exact hk.elim
 ·rename_i t a x hop;split at hk
  ·rename_i s off v ha hx;split at hk
   ·rename_i cs hl;obtain⟨cs',h1,h2⟩:=a8B hk;exact⟨0,F,_,rfl,by simp [dX,eN,gD,gZ,hop,ha,hx,hl,h1],h2⟩
   ·exact hk.elim
  ·rename_i id off v ha hx;simp only [aV,aF]at hk;split at hk
   ·rename_i cs hg;obtain⟨cs',h1,h2⟩:=a8B (C:=C) hk;exact⟨0,F,_,rfl,by simp [dX,eN,gD,gZ,dP,gV,hop,ha,hx,hg,h1],h2⟩
   ·exact hk.elim
  ·exact hk.elim
 ·rename_i t x ix hop;split at hk
  ·rename_i i n e hi hu;split at hk
   ·rename_i sz a hz ha;obtain⟨h1,h2⟩:=cB.1 hk;simp only [h0Y,decide_eq_true_eq]at h1;split at h2
    ·rename_i v hv;exact⟨0,F,_,rfl,by simp [dX,eN,hop,hi,hu,hz,ha,h1,hv],h2⟩
    ·exact h2.elim
   ·exact hk.elim
  ·rename_i i e hi hu;split at hk
   ·rename_i sz id en len z cs hz ha;split at hk
    ·rename_i hb;have hb:=h1I hb;obtain⟨h1,h2⟩:=cB.1 hk;simp only [h0Y,decide_eq_true_eq]at h1;exact⟨0,F,_,rfl,by simp [dX,eN,hop,hi,hu,hz,ha,h1,hb],h2⟩
    ·exact hk.elim
   ·rename_i sz id off len z hz ha;split at hk
    ·rename_i hb;have hb:=h1I hb;obtain⟨h1,h2⟩:=cB.1 hk;simp only [h0Y,decide_eq_true_eq]at h1;exact⟨0,F,_,rfl,by simp [dX,eN,hop,hi,hu,hz,ha,h1,hb],h2⟩
    ·exact hk.elim
   ·exact hk.elim
  ·exact hk.elim
 ·rename_i t x ix hop;split at hk
  ·rename_i i n e cs hi hu ha;split at hk
   ·rename_i sz hz;obtain⟨h1,h2⟩:=cB.1 hk;simp only [h0Y,decide_eq_true_eq]at h1;obtain⟨v,h3,h4⟩:=yZ h2;exact⟨0,F,_,rfl,by simp [dX,eN,hop,hi,hu,hz,ha,h1,h3],h4⟩
   ·exact hk.elim
  ·rename_i i s hi hu ha;obtain⟨h1,h2⟩:=cB.1 hk;simp only [h0Y,decide_eq_true_eq]at h1;simp only [aV,a1A]at h2;split at h2
   ·rename_i b hb;exact⟨0,F,_,rfl,by simp [dX,eN,hop,hi,hu,ha,h1,hb],h2⟩
   ·exact h2.elim
  ·exact hk.elim
 ·rename_i t x lo hi mx hop;split at hk
  ·rename_i s hu ha;obtain⟨l,h',h1,h2,h3,h4,h5⟩:=pZ hk;exact⟨0,F,_,rfl,by simp [dX,eN,hop,pQ,hu,ha,h1],h5⟩
  ·rename_i e id en len z cs hu ha;split at hk
   ·rename_i sz hz;split at hk
    ·rename_i hb;have hb:=h1I hb;obtain⟨l,h',h1,h2,h3,h4,h5⟩:=pZ hk;exact⟨0,F,_,rfl,by simp [dX,eN,hop,pQ,hu,ha,h1,hz,hb],h5⟩
    ·exact hk.elim
   ·exact hk.elim
  ·rename_i e id off len z hu ha;split at hk
   ·rename_i sz hz;split at hk
    ·rename_i hb;have hb:=h1I hb;obtain⟨l,h',h1,h2,h3,h4,h5⟩:=pZ hk;exact⟨0,F,_,rfl,by simp [dX,eN,hop,pQ,hu,ha,h1,hz,hb],h5⟩
    ·exact hk.elim
   ·exact hk.elim
  ·rename_i n e id off hu ha;split at hk
   ·rename_i sz hz;simp only [aV,aF]at hk;split at hk
    ·rename_i cs hg;have hk':(aV C).need _ _:=hk;obtain⟨h6,hk'⟩:=cB.1 hk';obtain⟨l,h',h1,h2,h3,h4,h5⟩:=pZ hk';have h6:=h2T h6;have ha':bC E F.tmg x=some (.v (.ptr id off)):=by
      unfold bM at ha;split at ha
      ·rename_i q;rw [q];cases ha;rfl
      ·cases ha
     exact⟨0,F,_,rfl,by simp [dX,eN,gD,gZ,dP,hop,pQ,hu,ha',bM,hg,h1,hz,h6],h5⟩
    ·exact hk.elim
   ·exact hk.elim
  ·exact els hk
 ·rename_i t l c hop;split at hk
  ·rename_i e d li ci hu hd hl hc;split at hk
   ·rename_i sz bytes z hsz hbs hz;split at hk
    ·rename_i hb;have hb:=h1I hb;obtain⟨h1,h2⟩:=cB.1 hk;simp only [h0Y,decide_eq_true_eq]at h1;exact⟨0,F,_,rfl,by simp [dX,eN,gD,gZ,dP,gV,hop,hu,hd,hl,hc,hsz,hbs,hz,hb,h1],h2⟩
    ·exact hk.elim
   ·exact hk.elim
  ·exact hk.elim
 ·rename_i args argTypes hop;split at hk
  ·rename_i t u sx xx hat har;split at hk
   ·rename_i s x e du d hs hx hu hdu hd;split at hk
    ·rename_i sz bytes z hsz hbs hz;split at hk
     ·rename_i hb;simp only [h0Y]at hb;have hb1:=h1I hb.1;split at hk
      ·obtain⟨v,h',h1,h2⟩:=b4X hk;exact⟨0,F,_,rfl,by simp [dX,eN,gD,gZ,dP,gV,hop,hat,har,hs,hx,hu,hdu,hd,hsz,hbs,hz,hb1,hb.2,h1],h2⟩
      ·obtain⟨v,h',h1,h2⟩:=c0N hk;exact⟨0,F,_,rfl,by simp [dX,eN,gD,gZ,dP,gV,hop,hat,har,hs,hx,hu,hdu,hd,hsz,hbs,hz,hb1,hb.2,h1],h2⟩
     ·exact hk.elim
    ·exact hk.elim
   ·exact hk.elim
  ·exact hk.elim
 ·rename_i args argTypes hop;split at hk
  ·rename_i t ts sx xx hat har;split at hk
   ·rename_i id off len z x e hs hx hu;split at hk
    ·rename_i sz hz;split at hk
     ·rename_i hb;have hb:=h1I hb;subst hb;obtain⟨n,xs,h1,hk⟩:=uY hk;simp only [aV,aF]at hk;split at hk
      ·rename_i cs hg;have hk':(aV C).need _ _:=hk;obtain⟨h6,hk'⟩:=cB.1 hk';have h6:=h2T h6;exact⟨0,F,_,rfl,by simp [dX,eN,gD,gZ,dP,gV,hop,hat,har,hs,hx,hu,hz,hg,h1,h6],hk'⟩
      ·exact hk.elim
     ·exact hk.elim
    ·exact hk.elim
   ·exact hk.elim
  ·exact hk.elim
 ·rename_i x args argTypes hop;split at hk
  ·rename_i g a b xs hx hxs;obtain⟨n,v,h',h1,h2⟩:=a2T (hC _ _ _ _ hk);exact⟨n,F,_,rfl,by simp [dX,eN,gD,gZ,dP,gV,dJ,hop,hx,hxs,<-List.append_assoc,h1],h2⟩
  ·exact hk.elim
 ·rename_i t x k ok hop;split at hk
  ·rename_i kt et id key hu hx hkey;split at hk
   ·rename_i d z hd hz;split at hk
    ·rename_i hf;simp only [aV,fV]at hk;split at hk
     ·rename_i es hg;split at hk
      ·rename_i v hv;obtain⟨v',h1,h2⟩:=d0M (C:=C) hk;have h1:v=v':=by simpa using h1
       subst h1;refine⟨0,F,_,rfl,?_,h2⟩
       cases ok<;>simp [dX,eN,gD,gZ,dP,hop,hu,hx,hkey,hd,hz,hf,hg,hv]
      ·rename_i hv;refine⟨0,F,_,rfl,?_,hk⟩
       cases ok<;>simp [dX,eN,gD,gZ,dP,hop,hu,hx,hkey,hd,hz,hf,hg,hv]
      ·exact hk.elim
     ·exact hk.elim
    ·exact hk.elim
   ·exact hk.elim
  ·exact els hk
 ·rename_i t m k x hop;split at hk
  ·rename_i kt et id key v hu hm hkey hx;split at hk
   ·rename_i d hd;split at hk
    ·rename_i hf;simp only [aV,kS]at hk;split at hk
     ·rename_i es hg;split at hk
      ·rename_i es' hv;exact⟨0,F,_,rfl,by simp [dX,eN,gD,gZ,dP,gV,hop,hu,hm,hx,hkey,hd,hf,hg,hv],hk⟩
      ·exact hk.elim
     ·exact hk.elim
    ·exact hk.elim
   ·exact hk.elim
  ·exact hk.elim
 ·rename_i t m k hop;split at hk
  ·rename_i kt et id key hu hm hkey;split at hk
   ·rename_i d z hd hz;split at hk
    ·rename_i hf;simp only [aV,b4N]at hk;split at hk
     ·rename_i es hg;split at hk
      ·rename_i r hv;exact⟨0,F,_,rfl,by simp [dX,eN,gD,gZ,dP,gV,hop,hu,hm,hkey,hd,hz,hf,hg,hv],hk⟩
      ·exact hk.elim
     ·exact hk.elim
    ·exact hk.elim
   ·exact hk.elim
  ·exact hk.elim
 ·rename_i t m s x hop;split at hk
  ·rename_i id kd n v hm hs hx;simp only [aV,a0M]at hk;split at hk
   ·rename_i es hg;exact⟨0,F,_,rfl,by simp [dX,eN,gD,gZ,dP,gV,hop,hm,hs,hx,hg,hk.1],hk.2⟩
   ·exact hk.elim
  ·exact hk.elim
 ·rename_i s d x hop;split at hk
  ·rename_i e id en len cs hu hd hx;split at hk
   ·rename_i he;simp only [aV,g0H]at hk;split at hk
    ·rename_i b hb;exact⟨0,F,_,rfl,by simp [dX,eN,b0A,hop,hu,hd,hx,he,hb],hk⟩
    ·exact hk.elim
   ·exact hk.elim
  ·exact els hk
 ·exact els hk
theorem b0P{E:Env}{ops:List Oper}{o:Oper}{F:GF}{run skip:GF->Prop}(hk:c0K (aV C) ops o F run skip):
  ∃G,G.ff=F.ff/\((dD ops F.tmg o=some true/\run G) \/ (dD ops F.tmg o=some false/\skip G)):=by
 unfold c0K at hk;unfold dD
 split at hk
 ·rename_i hg;exact⟨F,rfl,.inl ⟨by simp [hg],hk⟩⟩
 ·rename_i j b hg;split at hk
  ·rename_i d hd;split at hk
   ·rename_i x hx;have hff:=fun y (hy:x=y)=>wS (E:=E) (F:=F) (c:= .tmp d) (b:=y) (by rw [<-hy];exact hx)
    cases x with
    |true=>
     refine⟨_,hff true rfl,?_⟩
     cases b with
     |true=>exact .inl ⟨by simp [hg,hd,hx],hk⟩
     |false=>exact .inr ⟨by simp [hg,hd,hx],hk⟩
    |false=>
     refine⟨_,hff false rfl,?_⟩
     cases b with
     |true=>exact .inr ⟨by simp [hg,hd,hx],hk⟩
     |false=>exact .inl ⟨by simp [hg,hd,hx],hk⟩
   ·rename_i hx;exact⟨F,rfl,.inr ⟨by simp [hg,hd,hx],hk⟩⟩
   ·exact hk.elim
  ·exact hk.elim
theorem zA{b:Nat}{h:Heap}{A:Prop} : ∀{ps:Ps},b4R b h A ps->c5O ps b h/\A
 | [],hk=>⟨(fun q hq=>nomatch hq),hk⟩
 |q::r,hk=>by
  unfold b4R at hk;split at hk
  ·rename_i hb;obtain⟨h1,h2⟩:=zA hk;refine⟨fun x hx=>?_,h2⟩;rcases h2O.1 hx with rfl|hx
   ·exact .inl hb
   ·exact h1 x hx
  ·obtain⟨h1,h2⟩:=zA hk.2;refine⟨fun x hx=>?_,h2⟩;rcases h2O.1 hx with rfl|hx
   ·exact .inr hk.1
   ·exact h1 x hx
theorem a1W{C:FuncId->List IV->Heap->(IV->Heap->Prop)->Prop}{h:Heap}{n:Nat}{A:Prop}(hk:(aV C).fre h n A):h.get n= .free/\A:=by
 have hk':yY h n A:=hk;unfold yY at hk';split at hk'
 ·rename_i hf;exact⟨hf,hk'⟩
 ·exact hk'.elim
theorem d0P{n:Nat}{o:Oper}{F:GF}{h:Heap}{K:GF->Ef->Prop}(hk:opA (aV C) E f n o F h K):
  ∃e,(match aSh E f o (bC E F.tmg) n with
   |some (v,none)=>some ⟨.p,v,none,false,h⟩
   |some (v,some x)=>match h.get n with
    | .free=>some ⟨.a,v,none,false,h.set n x⟩
    |_=>none
   |none=>none)=some e/\K F e:=by
 unfold opA at hk;split at hk
 ·rename_i t l c hop;split at hk
  ·rename_i e d li ci hu hd hl hc;split at hk
   ·rename_i sz bytes z hsz hbs hz;split at hk
    ·rename_i hb;have hb:=h1I hb;obtain⟨h1,h2⟩:=cB.1 hk;simp only [h0Y,decide_eq_true_eq]at h1;split at h2
     ·rename_i hw;have hw:=h1I hw;obtain⟨h3,h4⟩:=cB.1 h2;have h3:=h2T h3;obtain⟨h5,h6⟩:=a1W h4;refine⟨_,?_,h6⟩;simp only [aSh,hop,hu,hd,hl,hc,hsz,hbs,hz];rw [if_pos ⟨h1.1,h1.2.1,h1.2.2.1,h1.2.2.2,hb,fun _=>h3⟩];simp only [h5]
     ·rename_i hw;obtain⟨h5,h6⟩:=a1W h2;refine⟨_,?_,h6⟩;simp only [aSh,hop,hu,hd,hl,hc,hsz,hbs,hz];rw [if_pos ⟨h1.1,h1.2.1,h1.2.2.1,h1.2.2.2,hb,fun e=>by rw [e]at hw;simp at hw⟩];simp only [h5]
    ·exact hk.elim
   ·exact hk.elim
  ·exact hk.elim
 ·rename_i args argTypes hop;split at hk
  ·rename_i t u sx xx hat har;split at hk
   ·rename_i x e du d hs hx hu hdu hd;split at hk
    ·rename_i sz bytes z hsz hbs hz;split at hk
     ·rename_i hb;simp only [h0Y]at hb;have hb1:=h1I hb.1;split at hk
      ·rename_i k xs hsrc;have hk':aM (Nat.beq k 0) _ _:=hk
       cases hk0:Nat.beq k 0 with
       |true=>
        rw [hk0]at hk';have hk0:=h1I hk0;refine⟨_,?_,hk'⟩;simp only [aSh,hop,hat,har,hs,hx,hu,hdu,hd,hsz,hbs,hz];rw [if_pos ⟨hb1,hb.2⟩];simp only [hsrc,hk0,if_true]
       |false=>
        rw [hk0]at hk';obtain⟨h3,h4⟩:=cB.1 hk';have h3:=h2T h3;obtain⟨h5,h6⟩:=a1W h4;refine⟨_,?_,h6⟩;simp only [aSh,hop,hat,har,hs,hx,hu,hdu,hd,hsz,hbs,hz];rw [if_pos ⟨hb1,hb.2⟩];simp only [hsrc];rw [if_neg (fun e=>by rw [e]at hk0;simp at hk0),if_pos h3];simp only [h5]
      ·exact hk.elim
     ·exact hk.elim
    ·exact hk.elim
   ·exact hk.elim
  ·exact hk.elim
 ·split at hk
  ·rename_i v ha;exact⟨_,by simp only [ha],hk⟩
  ·rename_i v x ha;obtain⟨h5,h6⟩:=a1W hk;exact⟨_,by simp only [ha,h5],h6⟩
  ·exact hk.elim
theorem wT{C:FuncId->List IV->Heap->(IV->Heap->Prop)->Prop}{rs:Nat->Option Nat}{m:Met}{b:Nat}{id:Option Nat}{A:Prop} : ∀{al:List Nat},rdK (aV C) rs m b id A al->(al.all fun j=>b.testBit j|| (!(m.a.testBit j)|| (match rs j,id with
  |some n,some k=>!(Nat.beq n k)
  |_,_=>true)))=true/\A
 | [],hk=>⟨rfl,hk⟩
 |j::r,hk=>by
  unfold rdK at hk;rw [h5T,h0Y];split at hk
  ·rename_i hb;obtain⟨h1,h2⟩:=wT hk;refine⟨⟨?_,h1⟩,h2⟩;rw [<-Bool.or_assoc,hb];rfl
  ·have triv: ∀{z:Bool},z=true->(b.testBit j|| (!(m.a.testBit j)||z))=true:=fun e=>by rw [e];simp
   cases hrs:rs j with
   |none=>
    rw [hrs]at hk;obtain⟨h1,h2⟩:=wT (id:=id) hk;exact⟨⟨triv rfl,h1⟩,h2⟩
   |some n=>
    cases id with
    |none=>
     rw [hrs]at hk;obtain⟨h1,h2⟩:=wT (id:=none) hk;exact⟨⟨triv rfl,h1⟩,h2⟩
    |some k=>
     rw [hrs]at hk;obtain⟨h3,h4⟩:=cB.1 hk;obtain⟨h1,h2⟩:=wT h4;exact⟨⟨triv h3,h1⟩,h2⟩
theorem b4Y{C:FuncId->List IV->Heap->(IV->Heap->Prop)->Prop}{al:List Nat}{rs:Nat->Option Nat}{draw:Bool}{m:Met}{ps:Ps}{b:Nat}{id:Option Nat}{e:Ef}{A:Prop}(hk:f1V (aV C) al rs draw m ps b id e A):(draw=false\/ ((jE (m.chk e.c) b=true\/e.c= .e/\jE (m.e|||m.a) b=true/\c5O ps b e.h)/\b0B al rs m b id e.c=true))/\A:=by
 unfold f1V at hk;split at hk
 ·exact⟨.inl rfl,hk⟩
 ·split at hk
  ·rename_i h1;unfold g0M at hk;split at hk
   ·rename_i hc;obtain⟨h3,h4⟩:=wT hk;exact⟨.inr ⟨.inl h1,by unfold b0B;rw [hc];exact h3⟩,h4⟩
   ·rename_i hc;refine⟨.inr ⟨.inl h1,?_⟩,hk⟩;unfold b0B
    split
    ·rename_i h2;exact absurd h2 hc
    ·rfl
  ·split at hk
   ·rename_i hc;split at hk
    ·rename_i hw;obtain⟨h1,h2⟩:=zA hk;exact⟨.inr ⟨.inr ⟨hc,hw,h1⟩,by rw [hc];rfl⟩,h2⟩
    ·exact hk.elim
   ·exact hk.elim
theorem mR(hC: ∀g xs h Q,C g xs h Q->aU E g xs h Q){ops:List Oper}{draw:Bool}{bef:Nat->Nat}{al:List Nat}{rs:Nat->Option Nat} : ∀{l:List (Oper×Nat)}{m:Met}{ps:Ps}{F:GF}{h:Heap}{K:GF->Heap->Prop},
  d0L (aV C) E f ops draw bef al rs l m ps F h K->a2M E f ops draw bef al rs l m ps F.ff h fun F' h'=> ∃G,G.ff=F'/\K G h'
 | [],m,ps,F,h,K,hk=>a2M.nil ⟨F,rfl,hk⟩
 | (o,i)::r,m,ps,F,h,K,hk=>by
  unfold d0L at hk;obtain⟨G,hG,hk⟩:=b0P (E:=E) hk;have hw: ∀{o},dD ops F.ff.tm o=dD ops F.tmg o:=rfl
  have e1:G.tmg=F.tmg:=congrArg FF.tm hG;have e2:G.lvg=F.lvg:=congrArg FF.lv hG;rcases hk with⟨hk1,hk2⟩| ⟨hk1,hk2⟩
  ·cases hrs:rs i with
   |none=>
    rw [hrs]at hk2;obtain⟨n,G2,e,h1,h2,h3⟩:=d0O hC hk2;obtain⟨hwi,h3⟩:=b4Y h3;have h4:=mR hC h3;rw [e1]at hwi;refine a2M.cons ⟨n,e,?_,hwi,?_⟩
    ·rw [e1,e2]at h2;rw [hrs];simp only [dE,uN];rw [show dD ops F.ff.tm o=some true from hk1];exact h2
    ·rw [d4C,h1,hG]at h4;exact h4
   |some k=>
    rw [hrs]at hk2;obtain⟨e,h2,h3⟩:=d0P hk2;obtain⟨hwi,h3⟩:=b4Y h3;have h4:=mR hC h3;rw [e1]at hwi;refine a2M.cons ⟨0,e,?_,hwi,?_⟩
    ·rw [e1]at h2;rw [hrs];simp only [dE];rw [show dD ops F.ff.tm o=some true from hk1];exact h2
    ·rw [d4C,hG]at h4;exact h4
  ·have h4:=mR hC hk2;refine a2M.cons ⟨0,⟨.p,some .u,none,false,h⟩,?_,.inr ⟨.inl (by simp [Met.chk,jE]),rfl⟩,?_⟩
   ·cases rs i<;>simp only [dE,uN]<;>rw [show dD ops F.ff.tm o=some false from hk1]
   ·rw [a2S,hG]at h4;exact h4
theorem a8E{c:Code}{body:GF->Heap->(Ex->GF->Heap->Prop)->Prop}(hb: ∀F h K,body F h K->bU E f c F.ff h fun x F' h'=> ∃G,G.ff=F'/\K x G h'):
  ∀{n:Nat}{F:GF}{h:Heap}{K:Ex->GF->Heap->Prop},dUn body n F h K->bU E f (.loop c) F.ff h fun x F' h'=> ∃G,G.ff=F'/\K x G h'
 |0,F,h,K,hk=>hk.elim
 |n+1,F,h,K,hk=>by
  unfold dUn at hk;refine bU.loop ((hb _ _ _ hk).mono ?_);rintro x F' h' ⟨G,rfl,hk'⟩
  cases x with
  |normal=>exact a8E hb hk'
  |exit id=>exact⟨G,rfl,hk'⟩
  |ret=>exact⟨G,rfl,hk'⟩
theorem b4Z: ∀{l:List (Nat×TV)}{F:GF}{A:Prop},uU F l A->A/\∀k x,(b4O l).get k=some x->x=F.tmg k
 | [],F,A,h=>⟨h,fun k x e=>by simp [b4O,PT.get]at e⟩
 | (s,v)::r,F,A,h=>by
  obtain⟨h1,h2⟩:=b4Z h.2;refine⟨h1,fun k x e=>?_⟩;unfold b4O at e;rw [PT.get_set]at e;split at e
  ·rename_i hk;subst hk;simp only [h0V]at e;subst e;exact h.1.symm
  ·exact h2 k x e
theorem b5A: ∀{l:List (Nat×List IV)}{F:GF}{A:Prop},uV F l A->A/\∀k x,(b4P l).get k=some x->x=F.lvg k
 | [],F,A,h=>⟨h,fun k x e=>by simp [b4P,PT.get]at e⟩
 | (s,v)::r,F,A,h=>by
  obtain⟨h1,h2⟩:=b5A h.2;refine⟨h1,fun k x e=>?_⟩;unfold b4P at e;rw [PT.get_set]at e;split at e
  ·rename_i hk;subst hk;simp only [h0V]at e;subst e;exact h.1.symm
  ·exact h2 k x e
theorem kT{F:GF}{A B:Prop}(hab:A->B): ∀{l:List (Nat×TV)},uU F l A->uU F l B
 | [],h=>hab h
 | (s,v)::r,h=>⟨h.1,kT hab h.2⟩
theorem kV{F:GF}{A B:Prop}(hab:A->B): ∀{l:List (Nat×List IV)},uV F l A->uV F l B
 | [],h=>hab h
 | (s,v)::r,h=>⟨h.1,kV hab h.2⟩
theorem c5U{v:Inv1}{x:v.X}{F:GF}{h:Heap}{P:Nat->Prop}(hj:uU F (v.slots x) (uV F (v.locs x) (h=v.hp x/\v.cond x/\P (v.meas x)))):
  ∃G m,G.ff=F.ff/\P m/\∀K:GF->Heap->Nat->Prop,(∀(x:v.X)(b:FF),v.cond x->K ⟨b4O (v.slots x),b4P (v.locs x),b⟩ (v.hp x) (v.meas x))->K G h m:=by
 obtain⟨h1,h2⟩:=b4Z hj;obtain⟨⟨h3,h4,h5⟩,h6⟩:=b5A h1;refine⟨⟨b4O (v.slots x),b4P (v.locs x),F.ff⟩,v.meas x,FF.ext' (fun k=>?_) (fun k=>?_),h5,fun K hI=>by rw [h3];exact hI x F.ff h4⟩
 ·simp only [GF.ff,GF.tmg];split
  ·rename_i y hy;exact h2 k y hy
  ·rfl
 ·simp only [GF.ff,GF.lvg];split
  ·rename_i y hy;exact h6 k y hy
  ·rfl
theorem qA: ∀{v:Inv'}{F:GF}{h:Heap}{P:Nat->Prop},v.J F h P-> ∃G m,G.ff=F.ff/\P m/\∀K,v.I K->K G h m
 | .one v,F,h,P,hj=>by
  unfold Inv'.J at hj;split at hj
  ·exact c5U hj
  ·exact hj.elim
 | .ex v,F,h,P,hj=>by
  obtain⟨x,hx⟩:=hj;exact c5U hx
 | .or a b,F,h,P,hj=>by
  rcases hj with hj|hj
  ·obtain⟨G,m,h1,h2,h3⟩:=qA hj;exact⟨G,m,h1,h2,fun K hI=>h3 K hI.1⟩
  ·obtain⟨G,m,h1,h2,h3⟩:=qA hj;exact⟨G,m,h1,h2,fun K hI=>h3 K hI.2⟩
theorem a2U{P P':Nat->Prop}(hp: ∀m,P m->P' m): ∀{v:Inv'}{F:GF}{h:Heap},v.J F h P->v.J F h P'
 | .one v,F,h,hj=>by
  unfold Inv'.J at hj⊢;split at hj
  ·exact kT (fun q=>kV (fun q=>⟨q.1,q.2.1,hp _ q.2.2⟩) q) hj
  ·exact hj
 | .ex v,F,h,hj=>by
  obtain⟨x,hx⟩:=hj;exact⟨x,kT (fun q=>kV (fun q=>⟨q.1,q.2.1,hp _ q.2.2⟩) q) hx⟩
 | .or a b,F,h,hj=>hj.imp (a2U hp) (a2U hp)
theorem b0Q: ∀{v:Inv'}{F:GF}{h:Heap},(v.J F h fun _=>True)-> ∃m,v.J F h fun k=>k<m
 | .one v,F,h,hj=>by
  unfold Inv'.J at hj⊢;split at hj
  ·rename_i x hx;exact⟨v.meas x+1,kT (fun q=>kV (fun q=>⟨q.1,q.2.1,h1G _⟩) q) hj⟩
  ·exact hj.elim
 | .ex v,F,h,hj=>by
  obtain⟨x,hx⟩:=hj;exact⟨v.meas x+1,x,kT (fun q=>kV (fun q=>⟨q.1,q.2.1,h1G _⟩) q) hx⟩
 | .or a b,F,h,hj=>by
  rcases hj with hj|hj
  ·obtain⟨m,hm⟩:=b0Q hj;exact⟨m,.inl hm⟩
  ·obtain⟨m,hm⟩:=b0Q hj;exact⟨m,.inr hm⟩
theorem wU(hC: ∀g xs h Q,C g xs h Q->aU E g xs h Q){U:Nat->Nat}{IL IC:Nat->Option Inv'} : ∀{c:Code}{F:GF}{h:Heap}{K:Ex->GF->Heap->Prop},dC (aV C) E f U IL IC c F h K->bU E f c F.ff h fun x F' h'=> ∃G,G.ff=F'/\K x G h':=by
 intro c
 induction c with
 |skip=>intro F h K hk;exact bU.skip ⟨F,rfl,hk⟩
 |exit id=>intro F h K hk;exact bU.exit ⟨F,rfl,hk⟩
 |ret=>intro F h K hk;exact bU.ret ⟨F,rfl,hk⟩
 |region id ops draw=>
  intro F h K hk;unfold dC at hk;split at hk
  ·rename_i he;have:=mR hC hk;rw [b4T]at this;refine bU.region ?_;rw [he];exact this
  ·rename_i j r he;have:=mR hC hk;rw [b4T]at this;refine bU.region ?_;rw [he];exact this
 |seq a b iha ihb=>
  intro F h K hk;unfold dC at hk;split at hk
  ·split at hk
   ·refine bU.seq ((iha hk).mono ?_);rintro x F' h' ⟨G,rfl,hk'⟩
    cases x with
    |normal=>exact ihb hk'
    |exit id=>exact⟨G,rfl,hk'⟩
    |ret=>exact⟨G,rfl,hk'⟩
   ·rename_i v hv;obtain⟨M,hk⟩:=hk;refine bU.seq ((iha hk.1).mono ?_);rintro x F' h' ⟨G,rfl,hk'⟩
    cases x with
    |normal=>
     obtain⟨G',m,h1,hm,h3⟩:=qA hk';have:=ihb (h3 _ hk.2 hm);rw [h1]at this;exact this
    |exit id=>exact⟨G,rfl,hk'⟩
    |ret=>exact⟨G,rfl,hk'⟩
  ·rename_i v hv;refine bU.seq ((iha hk.1).mono ?_);rintro x F' h' ⟨G,rfl,hk'⟩
   cases x with
   |normal=>
    obtain⟨G',m,h1,_,h3⟩:=qA hk';have:=ihb (h3 _ hk.2);rw [h1]at this;exact this
   |exit id=>exact⟨G,rfl,hk'⟩
   |ret=>exact⟨G,rfl,hk'⟩
 |cond c a b iha ihb=>
  intro F h K hk;unfold dC at hk;split at hk
  ·rename_i x hx
   cases x with
   |true=>
    refine bU.cond (b:=true) hx (fun _=>?_) (fun e=>by cases e);have:=iha (F:=b4Q c F true) hk;rw [wS hx]at this;exact this
   |false=>
    refine bU.cond (b:=false) hx (fun e=>by cases e) (fun _=>?_);have:=ihb (F:=b4Q c F false) hk;rw [wS hx]at this;exact this
  ·exact hk.elim
 |block id c ih=>
  intro F h K hk;refine bU.block ((ih hk).mono ?_);rintro x F' h' ⟨G,rfl,hk'⟩
  cases x with
  |normal=>exact⟨G,rfl,hk'⟩
  |ret=>exact⟨G,rfl,hk'⟩
  |exit id'=>
   simp only at hk'⊢;split at hk'
   ·rename_i hb;rw [if_pos (h1I hb)];exact⟨G,rfl,hk'⟩
   ·rename_i hb;rw [if_neg (h5F hb)];exact⟨G,rfl,hk'⟩
 |loop c ih=>
  intro F h K hk;unfold dC at hk;split at hk
  ·rename_i n hu;exact a8E (fun F h K=>ih) hk
  ·split at hk
   ·rename_i v hv;obtain⟨hj,hi⟩:=hk;have key: ∀(n:Nat)(F:GF)(h:Heap),(v.J F h fun m=>m<n)->bU E f (.loop c) F.ff h fun x F' h'=> ∃G,G.ff=F'/\K x G h':=by
     intro n
     induction n with
     |zero=>intro F h hj;obtain⟨G,m,_,hm,_⟩:=qA hj;omega
     |succ n ihn=>
      intro F h hj;obtain⟨G,m,h1,hm,h3⟩:=qA hj;have:=ih (h3 _ hi);rw [<-h1];refine bU.loop (this.mono ?_);rintro x F' h' ⟨G',rfl,hk'⟩
      cases x with
      |normal=>
       refine ihn G' h' ?_;have hk'':v.J G' h' fun m'=>m'<m:=hk'
       exact a2U (fun k hk=>by omega) hk''
      |exit id=>exact⟨G',rfl,hk'⟩
      |ret=>exact⟨G',rfl,hk'⟩
    obtain⟨m,hm⟩:=b0Q hj;exact key m F h hm
   ·split at hk
    ·rename_i v hv;obtain⟨M,hj,hi⟩:=hk;have key: ∀(n:Nat)(F:GF)(h:Heap),n<=M+1->(v.J F h fun m=>m<n)->bU E f (.loop c) F.ff h fun x F' h'=> ∃G,G.ff=F'/\K x G h':=by
      intro n
      induction n with
      |zero=>intro F h _ hj;obtain⟨G,m,_,hm,_⟩:=qA hj;omega
      |succ n ihn=>
       intro F h hn hj;obtain⟨G,m,h1,hm,h3⟩:=qA hj;have:=ih (h3 _ hi (by omega));rw [<-h1];refine bU.loop (this.mono ?_);rintro x F' h' ⟨G',rfl,hk'⟩
       cases x with
       |normal=>
        refine ihn G' h' (by omega) ?_;have hk'':v.J G' h' fun m'=>m'<m:=hk'
        exact a2U (fun k hk=>by omega) hk''
       |exit id=>exact⟨G',rfl,hk'⟩
       |ret=>exact⟨G',rfl,hk'⟩
     exact key (M+1) F h (h1D _) (a2U (fun k hk=>by omega) hj)
    ·exact hk.elim
 |scope c ih=>intro F h K hk;exact bU.scope (ih hk)
 |_=>intros;rename_i hk;exact hk.elim
theorem c0O(hC: ∀g xs h Q,C g xs h Q->aU E g xs h Q){U:Nat->Nat}{IL IC:Nat->Option Inv'} : ∀{c:Code}{F:GF}{h:Heap}{K:Ex->GF->Heap->Prop},
  c0L (aV C) E f U IL IC c F h K->a2Q (aV C) E f U IL IC c K->bU E f c F.ff h fun x F' h'=> ∃G,G.ff=F'/\K x G h':=by
 intro c
 induction c with
 |seq a b iha ihb=>
  intro F h K hk hc;unfold c0L at hk;unfold a2Q at hc;split at hk
  ·rename_i hn;simp only [hn]at hc;refine bU.seq ((wU hC hk).mono ?_);rintro x F' h' ⟨G,rfl,hk'⟩
   cases x with
   |normal=>exact ihb hk' hc
   |exit id=>exact⟨G,rfl,hk'⟩
   |ret=>exact⟨G,rfl,hk'⟩
  ·rename_i v hv;simp only [hv]at hc;refine bU.seq ((wU hC hk).mono ?_);rintro x F' h' ⟨G,rfl,hk'⟩
   cases x with
   |normal=>
    obtain⟨G',m,h1,_,h3⟩:=qA hk';have:=ihb (h3 _ hc.1) hc.2;rw [h1]at this;exact this
   |exit id=>exact⟨G,rfl,hk'⟩
   |ret=>exact⟨G,rfl,hk'⟩
 |block id c ih=>
  intro F h K hk hc;refine bU.block ((ih (K:=e5I id K) hk hc).mono ?_);rintro x F' h' ⟨G,rfl,hk'⟩;unfold e5I at hk'
  cases x with
  |normal=>exact⟨G,rfl,hk'⟩
  |ret=>exact⟨G,rfl,hk'⟩
  |exit id'=>
   simp only at hk'⊢;split at hk'
   ·rename_i hb;rw [if_pos (h1I hb)];exact⟨G,rfl,hk'⟩
   ·rename_i hb;rw [if_neg (h5F hb)];exact⟨G,rfl,hk'⟩
 |scope c ih=>intro F h K hk hc;exact bU.scope (ih hk hc)
 |_=>intro F h K hk _;exact wU hC hk
theorem c0P{F:GF}{h:Heap}{K:IV->Prop}{r:ResultVar}(hk:f1W (aV C) E f F h K r){fr:Fr}(hf:fr.ff=F.ff): ∃v,wB E.P fr h r=some v/\K v:=by
 have e1:fr.tm.get=F.tmg:=congrArg FF.tm hf;have e2:fr.lv.get=F.lvg:=congrArg FF.lv hf;unfold f1W at hk;unfold wB
 simp only [e1,e2];split at hk
 ·rename_i t;split at hk
  ·rename_i v hv;exact⟨v,hv,hk⟩
  ·exact hk.elim
 ·rename_i a t;split at hk
  ·rename_i s off ha;split at hk
   ·rename_i cs hl;obtain⟨v,h1,h2⟩:=oR hk;exact⟨v,by simp only [ha,hl];exact h1,h2⟩
   ·exact hk.elim
  ·rename_i id off ha;simp only [aV,aF]at hk;split at hk
   ·rename_i cs hg;obtain⟨v,h1,h2⟩:=oR (C:=C) hk;exact⟨v,by simp only [ha,hg];exact h1,h2⟩
   ·exact hk.elim
  ·exact hk.elim
theorem rU{F:GF}{h:Heap}{fr:Fr}(hf:fr.ff=F.ff): ∀{l:List ResultVar}{K:List IV->Prop},a2R (aV C) E f F h l K-> ∃vs,iA E.P fr h l=some vs/\K vs
 | [],K,hk=>⟨[],rfl,hk⟩
 |r::rs,K,hk=>by
  unfold a2R at hk;obtain⟨v,h1,h2⟩:=c0P hk hf;obtain⟨vs,h3,h4⟩:=rU hf h2;exact⟨v::vs,by simp only [iA,h1,h3],h4⟩
theorem a2V: ∀(args:List IV)(i:Nat)(t:PT TV)(u:PT (Option TV)),(∀k,(match u.get k with|some x=>x|none=>none)=t.get k)->
  ∀k,(match(b0M args i u).get k with|some x=>x|none=>none)=(kM args i t).get k
 | [],i,t,u,h,k=>h k
 |v::r,i,t,u,h,k=>by
  unfold b0M kM
  refine a2V r (i+1) _ _ (fun k=>?_) k;simp only [PT.get_set]
  by_cases hk:k=i
  ·simp [hk]
  ·simp only [hk,if_false];exact h k
theorem d0Q(args:List IV):(b0N args).ff=Fr.ff ⟨kM args 0 .nil,.nil⟩:=
 FF.ext' (fun k=>a2V args 0 .nil .nil (fun k=>rfl) k) (fun k=>rfl)
theorem a0O(hC: ∀g xs h Q,C g xs h Q->aU E g xs h Q){U:Nat->Nat}{IL IC:Nat->Option Inv'}{rs:List ResultVar}{c:Code}{args:List IV}{h:Heap}{K:List IV->Heap->Prop}
  (hk:c5S (aV C) E f U IL IC rs c args h K): ∃n vs h',iJ E f (jH E n) n rs c args h=some (vs,h')/\K vs h':=by
 unfold c5S at hk;have hs:bU E f c (b0N args).ff h fun x F' h'=> ∃G,G.ff=F'/\(fun(x:Ex)(F:GF)(h':Heap)=>match x with
   | .exit _=>False
   |_=>a2R (aV C) E f F h' rs fun vs=>K vs h') x G h':=by
  split at hk
  ·exact wU hC hk
  ·exact c0O hC hk.1 hk.2
 have h1:=hs ⟨kM args 0 .nil,.nil⟩ (d0Q args).symm;obtain⟨n,x,fr,h',hr,G,hG,h2⟩:=h1
 cases x with
 |exit id=>exact h2.elim
 |normal=>
  obtain⟨vs,h3,h4⟩:=rU hG.symm h2;exact⟨n,vs,h',by simp [iJ,hr,h3],h4⟩
 |ret=>
  obtain⟨vs,h3,h4⟩:=rU hG.symm h2;exact⟨n,vs,h',by simp [iJ,hr,h3],h4⟩
theorem a0P{h:Heap}{v:IV}{K:IV->Heap->Prop}(hk:c5R (aV C) h v K):K (rH h v).1 (rH h v).2:=by
 unfold c5R at hk;split at hk
 ·simp only [aV,aF]at hk;split at hk
  ·rename_i cs hg;have hk':(aV C).need _ _:=hk;obtain⟨h1,h2⟩:=cB.1 hk';simp only [h0Y]at h1;have e1:=h2T h1.1;have e2:=h2T h1.2;simp only [rH,hg];rw [if_pos ⟨e1,e2⟩];exact h2
  ·exact hk.elim
 ·rename_i hn;have:rH h v=(v,h):=by
   unfold rH
   split
   ·exact absurd rfl (hn _ _ _ _)
   ·rfl
  rw [this];exact hk
theorem rV{g:Heap->IV->(IV->Heap->Prop)->Prop}{g':Heap->IV->IV×Heap}(hg: ∀h v K,g h v K->K (g' h v).1 (g' h v).2): ∀{vs:List IV}{h:Heap}{K:List IV->Heap->Prop},b4S g vs h K->K (uO g' h vs).1 (uO g' h vs).2
 | [],h,K,hk=>hk
 |v::r,h,K,hk=>by
  unfold b4S at hk;have:=hg _ _ _ hk;exact rV (vs:=r) hg this
theorem b5B{h:Heap}{v:IV}{K:IV->Heap->Prop}(hk:d4A (aV C) h v K):K (b3O h v).1 (b3O h v).2:=by
 unfold d4A at hk;split at hk
 ·exact rV (fun _ _ _ q=>a0P q) hk
 ·rename_i hn;have:b3O h v=rH h v:=by
   unfold b3O
   split
   ·exact absurd rfl (hn _)
   ·rfl
  rw [this];exact a0P hk
theorem a6S{vs:List IV}{h:Heap}{K:List IV->Prop}(hk:b0O (aV C) E f vs h K):K (a2F E f vs h):=by
 unfold b0O at hk;unfold a2F
 split at hk
 ·rename_i hz;rw [if_pos hz];exact rV (fun _ _ _ q=>b5B q) hk
 ·rename_i hz;rw [if_neg (by simp [hz])];exact hk
theorem d4D(hC: ∀g xs h Q,C g xs h Q->aU E g xs h Q){U:Nat->Nat}{IL IC:Nat->Option Inv'}{args:List IV}{h:Heap}{Q:IV->Heap->Prop}
  (hk:dF (aV C) E f U IL IC args h Q):aU E f args h Q:=by
 unfold dF at hk;split at hk
 case h_2=>exact hk.elim
 rename_i fn hf;split at hk
 case h_2=>exact hk.elim
 rename_i c hb;split at hk
 ·rename_i hi;obtain⟨n,vs,h',h1,h2⟩:=a0O hC hk;refine⟨n+1,(jG E f (eZ (yN E f fn.resultTypes.toList vs)) h').1,(jG E f (eZ (yN E f fn.resultTypes.toList vs)) h').2,?_,?_⟩
  ·rw [iY];simp only [hf,hb,hi,h1]
  ·split at h2
   ·exact h2
   ·rename_i hz;simpa [jG,hz]using h2
 ·rename_i hi;obtain⟨hp,hk⟩:=cB.1 hk;obtain⟨n,vs,h',h1,h2⟩:=a0O hC hk;obtain⟨h3,h4⟩:=cB.1 (a6S h2);refine⟨n+1,_,h,?_,h4⟩;rw [iY];simp only [hf,hb,hi,hp,h1,if_true,b0C,h3,h4C]
end
end Go.Pv
namespace Go.Pv
def aT(E:Env)(C:FuncId->List IV->Heap->(IV->Heap->Prop)->Prop):Prop:= ∀g xs h Q,C g xs h Q->aU E g xs h Q
def noC:FuncId->List IV->Heap->(IV->Heap->Prop)->Prop:=fun _ _ _ _=>False
def bB(g:FuncId)(k:List IV->Heap->(IV->Heap->Prop)->Prop)(C:FuncId->List IV->Heap->(IV->Heap->Prop)->Prop):FuncId->List IV->Heap->(IV->Heap->Prop)->Prop:=
 fun g' xs h K=>match Nat.beq g' g with
  |true=>k xs h K
  |false=>C g' xs h K
def dV:Nat->Nat:=fun _=>0
def bT:Nat->Option Inv':=fun _=>none
theorem rW(E:Env):aT E noC:=fun _ _ _ _ h=>h.elim
theorem aI{E:Env}{g:FuncId}{k:List IV->Heap->(IV->Heap->Prop)->Prop}{C:FuncId->List IV->Heap->(IV->Heap->Prop)->Prop}(hk: ∀xs h Q,k xs h Q->aU E g xs h Q)(hC:aT E C):aT E (bB g k C):=by
 intro g' xs h Q hq;unfold bB at hq;split at hq
 ·rename_i e;obtain rfl:=h1I e;exact hk xs h Q hq
 ·exact hC g' xs h Q hq
theorem aD{b:Bool}{A B:Prop}(ha:b=true->A)(hb:b=false->B):aM b A B:=by
 cases b with
 |true=>exact ha rfl
 |false=>exact hb rfl
theorem aA{b:Bool}{A:Prop}(hb:b=true)(ha:A):aC b A:=by subst hb;exact ha
theorem cO{Q:IV->Heap->Prop}{v v':IV}{h:Heap}(hk:Q v h)(e:v=v'):Q v' h:=e▸hk
theorem g0N{A B:Prop}(e:A=B)(hb:B):A:=e▸hb
theorem aS{E:Env}{C:FuncId->List IV->Heap->(IV->Heap->Prop)->Prop}(hC:aT E C){f:FuncId}{U:Nat->Nat}{IL IC:Nat->Option Inv'}{args:List IV}{h:Heap}{Q:IV->Heap->Prop}{text:Prop}
 (e:dF (aV C) E f U IL IC args h Q=text) (hk:text):aU E f args h Q:=d4D hC (g0N e hk)
end Go.Pv
namespace Go.Pv
def atC(slots:List (Nat×TV))(locs:List (Nat×List IV))(h:Heap):Inv':= .one ⟨Unit,fun _=>slots,fun _=>locs,fun _=>h,fun _=>True,fun _=>0,fun _ _=>some ()⟩
def tK(n:Nat)(v:Inv'):Nat->Option Inv':=fun k=>match Nat.beq k n with
 |true=>some v
 |false=>none
def icA(n:Nat)(v:Inv')(r:Nat->Option Inv'):Nat->Option Inv':=fun k=>match Nat.beq k n with
 |true=>some v
 |false=>r k
def hJ(X:Type)(slots:X->List (Nat×TV))(locs:X->List (Nat×List IV))(hp:X->Heap)(cond:X->Prop)(meas:X->Nat):Inv':= .ex ⟨X,slots,locs,hp,cond,meas,fun _ _=>none⟩
theorem gH{k:IntKind}{l:List Int}{i:Nat}{K:Int->Prop}(h:i<l.length)(hk:K l[i]):aK k (l.map (IV.int k)) i K:=by
 unfold aK
 rw [h2A,h0U h];simpa using hk
def icS(r:Nat->Option Inv'):Nat->Option Inv':=icA d3Z (atC [] [] Heap.empty) r
theorem bY{a b:Nat} :Nat.beq a b=true ↔ a=b:=⟨h1I,fun h=>by subst h;exact h8Z a⟩
theorem zB{a b:Nat} :Nat.beq a b=false ↔ a≠b:=by rw [<-Bool.not_eq_true,bY]
theorem cH{k:IntKind} : ∀{l:List Int},aN (l.map (IV.int k))=true
 | []=>rfl
 |_::r=>by simp only [h2H,aN,bL,h2G];exact cH
theorem bG: ∀{l m:List IV},aN (l++m)=(aN l&&aN m)
 | [],m=>by simp [aN]
 |x::r,m=>by simp only [h3E,aN,bG,Bool.and_assoc]
end Go.Pv
end
section
namespace Go.Pv
open Go.ChangeShapes Go.RowKit
def M0(W:World):Meta where
 nid:=0
 loc:=fun _=>none
 tip:=fun _=>0
 cur:=fun _=>(0,0)
 im:=fun b o=>W.cell? ⟨b,o,none⟩
 bsz:=fun b=>match W.heap[b]? with|some (.cells c _ _)=>some c.size|_=>none
theorem g5H(W:World):Inv (M0 W) Heap.empty W where
 nid:=rfl
 fresh:=fun id _=>by simp [Heap.empty,Heap.get,PT.get]
 freshl:=fun _ _=>rfl
 cells:=fun id cs e=>by simp [Heap.empty,Heap.get,PT.get]at e
 tips:=fun id n e=>by simp [Heap.empty,Heap.get,PT.get]at e
 maps:=fun id es e=>by simp [Heap.empty,Heap.get,PT.get]at e
 im:=fun b o v e=>e
 bsz:=fun b n e=>by
  simp only [M0]at e;split at e
  ·rename_i h;exact cL h
  ·simp at e
 one:=fun id id' b e _=>by simp [Wb,Heap.empty,Heap.get,PT.get]at e
 resv:=fun id e=>by simp [Heap.empty,Heap.get,PT.get]at e
theorem d0R{E:Env}(hm:E.P.follows .mixedOrders=true)(hP:yX E.P=true){N:Nat}{f:FuncId}{xs:List IV}{v:IV}{h':Heap}(hr:jH E N f xs Heap.empty=some (v,h'))
  (W:World) {rs:List Value} (hG:GOK E (M0 W)) (hv:cW (M0 W) xs rs):
  Calls E.P f rs.toArray W fun e W'=> ∃r M',e= .returned r/\VR M' v r/\Below W.heap.size W W':=by
 refine((b4L hm hP N f xs Heap.empty v h' hr).2 (M0 W) W rs (g5H W) hG hv).mono ?_;rintro e W' ⟨r,M',h1,h2,h3,h4⟩;exact⟨r,M',h1,h2,h4.os,h4.tape,h4.output,h4.size,fun k hk=>(h4.keep k hk (by rintro⟨id,e⟩;simp [Wb,Heap.empty,Heap.get,PT.get]at e)).1⟩
theorem d4E{E:Env}(hm:E.P.follows .mixedOrders=true)(hP:yX E.P=true){N:Nat}{f:FuncId}{xs:List IV}{h':Heap}(hr:jH E N f xs Heap.empty=some (.bool true,h'))
  (W:World) {rs:List Value} (hG:GOK E (M0 W)) (hv:cW (M0 W) xs rs):
  Calls E.P f rs.toArray W fun e W'=>e= .returned (.bool true)/\Below W.heap.size W W':=by
 refine(d0R hm hP hr W hG hv).mono ?_;rintro e W' ⟨r,M',h1,h2,h3⟩
 cases h2
 exact⟨h1,h3⟩
section
variable {H:Type} {enc:TypeId×Value->H} {P:Program}
theorem uH(hl:laidOutB P=true){W W':World}(hb:Below W.heap.size W W')(sp:Nat->Bool):
  ∀{ts:List TypeId}{vs:List Value}{ds:List (DataW H)}{ps:List MemPlace},ts.all (fun t=>P.readableRec t&&decide (t<P.types.size))=true->DataW.TrodAll enc P W 0 (fun _=>true) true ts vs ds ps->
   (∀p∈ps,p.block<W.heap.size)->(∀p∈ps,sp p.block=true)->DataW.TrodAll enc P W' 0 sp true ts vs ds ps
 | [],vs,ds,ps,_,h,_,_=>by
  obtain⟨rfl,rfl,rfl⟩:=trodAll_nil h;exact trodAll_mk0
 |t::ts,vs,ds,ps,ht,h,hlt,hsp=>by
  obtain⟨v,vs',d,ds',p,q,rfl,rfl,rfl,h1,h2⟩:=trodAll_cons h;simp only [h5T,h0Y,decide_eq_true_eq]at ht;exact⟨p,q,WideElems.Trod_stays hl ht.1.1 ht.1.2 h1 (fun x hx=>hb.same (hlt x (by simp [hx]))) (fun x hx=>hsp x (by simp [hx])),
   uH hl hb sp (by simpa using ht.2) h2 (fun x hx=>hlt x (by simp [hx])) (fun x hx=>hsp x (by simp [hx])),rfl⟩
theorem a6T{f:Func}{s:ChangeSpec}{apart fresh handsOn again:Bool}{W W':World}{args:Array Value}{ds gs:List (DataW H)}{before:List MemPlace}{tb:TypeId}
  (hl:laidOutB P=true) (hrd:f.params.toList.all (fun t=>P.readableRec t&&decide (t<P.types.size))=true) (hrt:f.resultTypes= #[tb]) (hub:P.underlying tb=some .bool)
  (hW:DataW.Whole enc P f.params.toList s.vars apart W args.toList ds gs before) (hvars:s.vars=[]) (hb:Below W.heap.size W W')
  (hres:(s.fn H (ds++gs)).results=[.lit (.bool true)]) (hargs:(s.fn H (ds++gs)).args=ds) (hvs:(s.fn H (ds++gs)).vars=[]):
  s.post enc P f apart fresh handsOn again W args (.bool true) W':=by
 have hold: ∀p∈before,p.block<W.heap.size:=fun p hp=>hW.lt p hp
 have hW0:=hW;obtain⟨p,q,hA,hV,hpq,hz,hn⟩:=hW0;rw [hvars]at hV;obtain⟨rfl,rfl⟩:=trodVars_none hV;rw [h3V]at hpq;subst hpq;have r1: ∀(b:Nat)(sp:Nat->Bool)(hd:Bool),DataW.TrodAll enc P W' b sp hd f.resultTypes.toList ((Value.bool true).resultList f.resultTypes.size) (s.fn H (ds++ [])).results []:=by
  intro b sp hd;rw [hres,hrt];exact trodAll_mk1 (shut_bool hub true)
 have a1: ∀sp:Nat->Bool,(∀p∈before,sp p.block=true)->DataW.TrodAll enc P W' 0 sp true f.params.toList args.toList (s.fn H (ds++ [])).args before:=by
  intro sp hsp;rw [hargs];exact uH hl hb sp hrd hA hold hsp
 have v1: ∀sp:Nat->Bool,DataW.TrodVars enc P W' sp s.vars (s.fn H (ds++ [])).vars []:=by
  intro sp;rw [hvs,hvars];rfl
 refine⟨ds,[],before,[],before,[],hW,r1 _ _ _,a1 _ (fun p hp=>by simpa using hold p hp),v1 _,World.keptBut_mono (fun p hp=>⟨hp,by simp [hp]⟩) (hb.frame (· ∈before)),fun _=>⟨ok_one hrt rfl (okWide_bool_mk hub true),_,_,([]++before)++ [],
  ⟨[]++before,[],trodAll_append (a1 _ (fun _ _=>rfl)) (r1 _ _ _),v1 _,rfl,?_,?_⟩,?_⟩⟩
 ·intro b off hp;have hp':MemPlace.cell b off∈before:=by simpa using hp
  rw [hb.frozen (p:=⟨b,off,none⟩) (hold _ hp')];exact hz b off hp'
 ·intro ha;simpa using hn ha
 ·intro p hp _;simpa using hp
end
end Go.Pv
end
end
