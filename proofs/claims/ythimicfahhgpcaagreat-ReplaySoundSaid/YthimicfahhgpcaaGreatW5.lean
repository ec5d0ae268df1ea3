/-
  Texts of this proof, one after the other.
  Conditions: none.
-/
import Derived.Test.YthimicfahhgpcaaGreatW4
set_option linter.unusedVariables false
set_option linter.unusedSimpArgs false
set_option maxRecDepth 100000
set_option maxHeartbeats 4000000
noncomputable section
variable{i j k m n b q:Nat}{x y z u w:Int}{h g:Go.Pv.Heap}{d l:List Go.Pv.IV}{K L:Y12}{p s t:Go.Pv.IV}{D:Go.Pv.Meta}{V W:List Go.Value}{U:Go.TypeId}{o:Bool}{X Y:Go.Value}{r e:Y11}{O:Go.Oper}{N:Y10}{H:Array Go.Value}
section
namespace Go.Pv
theorem PT.get_mapv{α:Type}(g:α->α): ∀(t:PT α)(k:Nat),(t.mapv g).get k=(t.get k).map g
 | .nil,k=>rfl
 | .node l v r,k=>by
  unfold PT.mapv PT.get
  split
  ·cases v<;>rfl
  ·split
   ·exact PT.get_mapv g l _
   ·exact PT.get_mapv g r _
theorem N2(F:GF)(d:Option Tmp)(v:Option TV):(F.put d v).ff=F.ff.put d v:=by
 cases d with
 |none=>rfl
 |some t=>
  simp only [GF.put,GF.ff,FF.put]
  congr 1
  funext k;simp only [GF.tmg,PT.get_set]
  by_cases h:k=t<;>simp [h]
theorem a6H(F:GF)(s:Nat):(F.clr s).ff=F.ff.clr s:=by
 simp only [GF.clr,GF.ff,FF.clr]
 congr 1
 funext k;simp only [GF.tmg,PT.get_mapv]
 cases h:F.tm.get k with
 |none=>simp
 |some x=>cases x<;>simp [Vk]
theorem Va(F:GF)(s:Nat)(cs:Y14):(F.lset s (some cs)).ff=F.ff.lset s cs:=by
 simp only [GF.lset,GF.ff,FF.lset]
 congr 1
 funext k;simp only [GF.lvg,PT.get_set]
 by_cases h:k=s<;>simp [h]
theorem a6G(F:GF)(d:Option Tmp)(e:Ef):(F.app d e).ff=F.ff.app d e:=by
 unfold GF.app FF.app
 cases e.loc with
 |none=>exact N2 _ _ _
 |some q=>
  obtain⟨s,cs⟩:=q
  cases hb:e.box<;>simp only [hb]
  ·simp [Va,N2]
  ·simp [Va,N2,a6H]
theorem Z2: ∀(l:List Nat)(F:GF),(F.forget l).ff=F.ff.forget l
 | [],_=>rfl
 |s::r,F=>by
  unfold GF.forget FF.forget
  rw [Z2 r]
  congr 1
  have h1:=a6H F s;have g:((F.clr s).lset s none).ff.tm=(F.ff.clr s).tm:=by rw [<-h1];rfl
  have j:((F.clr s).lset s none).ff.lv=fun k=>if k=s then none else F.ff.lv k:=by
   funext k;simp only [GF.lset,GF.ff,GF.lvg,PT.get_set,GF.clr]
   by_cases h:k=s<;>simp [h,FF.clr]
  exact FF.ext' (fun k=>congrFun g k) (fun k=>congrFun j k)
theorem Ia{E:Env}{f:FuncId}{ops:List Oper}(F:GF):(F.start E f ops o).ff=F.ff.start E f ops o:=by
 unfold GF.start FF.start
 cases o with
 |true=>simpa using Z2 _ _
 |false=>simp
section
variable {E:Env} {f:FuncId} {C:FuncId->Y14->Heap->(IV->Heap->Prop)->Prop}
theorem bU{b:Bool}{A:Prop} :(aR C).need b A ↔ b=true/\A:=by cases b<;>simp [aR,aC]
theorem uH{j:CK}{cs:Y14}{K:IV->Prop}(h:ldC (aR C) j cs i K): ∃v,cs[i]?=some v/\K v:=by
 cases j with
 |int k=>
  simp only [ldC,aR,aG]at h;split at h
  ·rename_i l n e;split at h
   ·rename_i g;subst g;exact⟨_,e,h⟩
   ·exact h.elim
  ·exact h.elim
 |bool=>
  simp only [ldC,aR,rE]at h;split at h
  ·rename_i e;exact⟨_,e,h⟩
  ·exact h.elim
 |str=>
  simp only [ldC,aR,W7]at h;split at h
  ·rename_i e;exact⟨_,e,h⟩
  ·exact h.elim
 |slc sz=>
  simp only [ldC,aR,aZ]at h;split at h
  ·rename_i e;split at h
   ·rename_i g;subst g;exact⟨_,e,h⟩
   ·exact h.elim
  ·exact h.elim
 |any=>
  simp only [ldC,aR,c9I]at h;split at h
  ·rename_i e;exact⟨_,e,h⟩
  ·exact h.elim
theorem wA: ∀{l:List CK}{cs:Y14}{g:Nat}{K:Y14->Prop},Rc (aR C) l cs g K-> ∃vs,vs.length=l.length/\(∀i,i<l.length->cs[g+i]?=vs[i]?)/\K vs
 | [],cs,g,K,h=>⟨[],rfl,fun i j=>by simp at j,h⟩
 |ck::r,cs,g,K,h=>by
  unfold Rc at h;obtain⟨v,h1,h2⟩:=uH h;obtain⟨vs,h3,h4,m⟩:=wA h2;refine⟨v::vs,by simp [h3],fun i j=>?_,m⟩
  cases i with
  |zero=>simpa using h1
  |succ i=>
   have:=h4 i (by simpa using j);rw [show g+(i+1)=g+1+i by omega,this];simp
theorem Il{l:List CK}{n:Nat}{t:TypeId}{cs:Y14}{K:IV->Prop}(q:gJ E.P t=some (true,n+1))(p:l.length=n+1)(h:Rc (aR C) l cs j fun vs=>K (.agg vs)):
  ∃v,fJ E.P t cs j=some v/\K v:=by
 obtain⟨vs,h1,h2,h3⟩:=wA h;rw [p]at h1 h2;have g:=h2 n JF;rw [AA (show n<vs.length by omega)]at g;have m:=(AP.1 g).1;refine⟨.agg vs,?_,h3⟩;unfold fJ
 simp only [q];rw [if_pos JF]
 congr 2
 apply CY;intro i
 by_cases hi:i<n+1
 ·rw [DD hi,EF,h2 i hi]
 ·rw [BH (by simp;omega),BH JF]
theorem A8{t:TypeId}{cs:Y14}{K:IV->Prop}(h:ldK (aR C) E t cs i K): ∃v,fJ E.P t cs i=some v/\K v:=by
 unfold ldK at h;split at h
 ·rename_i n g;obtain⟨v,h1,h2⟩:=uH h;exact⟨v,by unfold fJ;simp only [g];exact h1,h2⟩
 ·rename_i n g;split at h
  ·rename_i j;exact Il g (AN j) h
  ·exact h.elim
 ·exact h.elim
theorem a0L{t:TypeId}{r:Y14}{K:IV->Prop}(h:ldE (aR C) E t r K): ∃v,r[0]?=some v/\K v:=by
 unfold ldE at h;split at h
 ·rename_i n l;split at h
  ·rename_i g;have g:=AN g;simp only [aR,Im]at h;split at h
   ·rename_i xs e;split at h
    ·rename_i j;have j:=AN j;obtain⟨vs,h1,h2,h3⟩:=wA h;rw [g]at h1 h2;have:vs=xs:=by
      apply CY;intro i
      by_cases hi:i<n+1
      ·have:=h2 i hi;rw [AX]at this;exact this.symm
      ·rw [BH JF,BH JF]
     subst this;exact⟨_,e,h3⟩
    ·exact h.elim
   ·exact h.elim
  ·exact uH h
 ·exact uH h
theorem Gx: ∀n,(b7Z n).length=n
 |0=>rfl
 |n+1=>by simp [b7Z,Gx n]
theorem pL{f:FuncId}{d:Option Tmp}{t:TypeId}{cs:Y14}{K:IV->Prop}(h:ldW (aR C) E f d t cs i K): ∃v,fJ E.P t cs i=some v/\K v:=by
 unfold ldW at h;split at h
 ·split at h
  ·split at h
   ·rename_i g;simp only [aR,c9I]at h;split at h
    ·rename_i v e;exact⟨v,by simp only [fJ,g];exact e,h⟩
    ·exact h.elim
   ·rename_i n g;exact Il g (Gx _) h
   ·exact h.elim
  ·split at h
   ·exact A8 h
   ·split at h
    ·rename_i sz g l;simp only [aR,vE]at h;split at h
     ·rename_i e;exact⟨_,by simp only [fJ,g];exact e,h⟩
     ·rename_i e;split at h
      ·rename_i j;subst j;exact⟨_,by simp only [fJ,g];exact e,h⟩
      ·exact h.elim
     ·exact h.elim
    ·exact h.elim
   ·split at h
    ·rename_i g;simp only [aR,oZ]at h;split at h
     ·rename_i e;exact⟨_,by simp only [fJ,g];exact e,h⟩
     ·exact h.elim
    ·exact h.elim
   ·split at h
    ·rename_i g;simp only [aR,d6G]at h;split at h
     ·rename_i e;exact⟨_,by simp only [fJ,g];exact e,h⟩
     ·exact h.elim
    ·exact h.elim
   ·split at h
    ·rename_i sz g l;simp only [aR,vD]at h;split at h
     ·exact h.elim
     ·rename_i e;split at h
      ·rename_i j;subst j;exact⟨_,by simp only [fJ,g];exact e,h⟩
      ·exact h.elim
     ·exact h.elim
    ·exact h.elim
   ·split at h
    ·rename_i g;simp only [aR,P7]at h;split at h
     ·rename_i e;exact⟨_,by simp only [fJ,g];exact e,h⟩
     ·rename_i e;exact⟨_,by simp only [fJ,g];exact e,h⟩
     ·exact h.elim
    ·exact h.elim
   ·split at h
    ·rename_i sz g l;simp only [aR,vD]at h;split at h
     ·rename_i e;exact⟨_,by simp only [fJ,g];exact e,h⟩
     ·rename_i e;split at h
      ·rename_i j;subst j;exact⟨_,by simp only [fJ,g];exact e,h⟩
      ·exact h.elim
     ·exact h.elim
    ·exact h.elim
 ·exact A8 h
theorem Bj{t:TypeId}{cs:Y14}{v:IV}{K:Y14->Prop}(h:stK (aR C) E t cs i v K): ∃cs',Bo E.P t cs i v=some cs'/\K cs':=by
 unfold stK at h;split at h
 ·rename_i n j l;split at h
  ·rename_i g;have g:=AN g;obtain⟨h1,h2⟩:=bU.1 h;refine⟨_,?_,h2⟩;unfold Bo
   simp only [l,j,if_true];rw [if_pos ⟨g,BV h1⟩]
  ·exact h.elim
 ·exact h.elim
theorem rX{P:Program} : ∀{g:List Field}{xs j:Y14}{b:Bool},uA P g xs j=some b->nE P g xs j=some b
 | [],_,_,_,h=>h
 |f::g,xs,j,b,h=>by
  unfold uA at h;unfold nE
  split at h
  ·cases h
  ·rename_i l;rw [if_neg l];split at h
   ·rename_i d x y h1 h2 h3;simp only [h1,h2,h3];split at h
    ·rename_i p q m r;simp only [m];simp only [AB]at h
     cases p with
     |true=>simp only [BC]at h;subst h;exact rX r
     |false=>simp only [BM]at h;subst h;rfl
    ·cases h
   ·cases h
theorem D9{c:Bool}{t:TypeId}{xs g:Y14}{b:Bool}(h:Uq E t xs g=some b):Zv E.P c t (.agg xs) (.agg g)=some b:=by
 unfold Uq at h;unfold Zv
 split at h
 ·rename_i l hf;simp only [hf];split at h
  ·cases h
  ·rename_i j;rw [if_neg (by simp [j])];exact rX h
 ·cases h
theorem No{op:BinOp}{c:Bool}{t:TypeId}{a b:IV}{K:IV->Prop}(h:c6S (aR C) E op c t a b K): ∃v,oI E.P op c t a b=some v/\K v:=by
 unfold c6S at h;split at h
 ·rename_i k x m y;split at h
  ·split at h
   ·rename_i l;obtain⟨h1,h2⟩:=bU.1 h;exact⟨_,by simp [oI,l,sX,show¬y=0 by simpa using h1],h2⟩
   ·exact h.elim
  ·split at h
   ·rename_i l;obtain⟨h1,h2⟩:=bU.1 h;exact⟨_,by simp [oI,l,sX,show¬y=0 by simpa using h1],h2⟩
   ·exact h.elim
  ·obtain⟨h1,h2⟩:=bU.1 h;simp only [decide_eq_true_eq]at h1;exact⟨_,by simp [oI,pV,show¬y<0 by omega],h2⟩
  ·obtain⟨h1,h2⟩:=bU.1 h;simp only [decide_eq_true_eq]at h1;exact⟨_,by simp [oI,pV,show¬y<0 by omega],h2⟩
  ·rename_i h1 h2 h3 h4;split at h
   ·rename_i v g;refine⟨v,?_,h⟩;unfold oI
    cases op<;>first|exact g|exact absurd rfl h1|exact absurd rfl h2|exact absurd rfl h3|exact absurd rfl h4
   ·exact h.elim
 ·rename_i x y;split at h
  ·obtain⟨h1,h2⟩:=bU.1 h;simp only [AS]at h1;refine⟨_,?_,h2⟩;simp only [oI,T2];rw [if_neg JF]
  ·split at h
   ·rename_i v g;exact⟨v,by simpa [oI]using g,h⟩
   ·exact h.elim
 ·rename_i xs p;split at h
  ·split at h
   ·rename_i b j;exact⟨_,by simp [oI,D9 j],h⟩
   ·exact h.elim
  ·split at h
   ·rename_i b j;exact⟨_,by simp [oI,D9 j],h⟩
   ·exact h.elim
  ·exact h.elim
 ·split at h
  ·rename_i v g;exact⟨v,g,h⟩
  ·exact h.elim
theorem qR{len:Nat}{j g:Option (Option TV)}{K:Int->Int->Prop}(h:Zo (aR C) len j g K): ∃(l h':Int),iC len j g=some (l.toNat,h'.toNat)/\0<=l/\l<=h'/\h'<=len/\K l h':=by
 unfold Zo at h;unfold iC
 split at h
 ·rename_i l h' h1 h2;obtain⟨h3,h4⟩:=bU.1 h;simp only [AD,decide_eq_true_eq]at h3;refine⟨l,h',?_,h3.1,h3.2.1,h3.2.2,h4⟩
  cases j<;>cases g<;>simp only at h1 h2<;>simp [h1,h2]<;>simp_all<;>omega
 ·exact h.elim
theorem b9Q(cf:FuncId->Y14->Heap->Option (IV×Heap)):Gt d6M cf:=fun g xs h r e=>by cases e
theorem Ht{draw:Bool}{o:Oper}{F:GF}{h:Heap}{K:GF->Ef->Prop}(n:Nat)(g:M5 E f draw o F h K): ∃e,eB E f (eJ E n) draw o (aX E F.tmg) F.lvg h=some e/\K F e:=by
 unfold M5 at g;split at g
 ·rename_i e j;exact⟨e,Y2 (b9Q _) j,g⟩
 ·exact g.elim
theorem xC{F:GF}{c:Operand}{b:Bool}(h:aX E F.tmg c=some (.v (.bool b))):(Hb c F b).ff=F.ff:=by
 unfold Hb
 split
 ·rename_i t;rw [N2];refine FF.ext' (fun k=>?_) (fun k=>rfl);simp only [FF.put]
  by_cases hk:k=t
  ·subst hk;simpa [GF.ff,aX]using h.symm
  ·simp [hk]
 ·rfl
theorem Af(g:CK)(v:IV):B3 g (B3 g v)=B3 g v:=by
 cases g<;>cases v<;>rfl
theorem Ah: ∀(l:List CK)(vs:Y14),pA l (pA l vs)=pA l vs
 | [],vs=>rfl
 |ck::r,[]=>rfl
 |ck::r,v::vs=>by simp only [pA,Af,Ah r vs]
theorem a0R(P:Program)(t:TypeId)(v:IV):Fj P t (Fj P t v)=Fj P t v:=by
 have h: ∀v,(∀cs,v≠ .agg cs)->Fj P t v=B3 (G5 P t) v:=by
  intro v g;unfold Fj
  split
  ·rename_i cs;exact absurd rfl (g cs)
  ·rfl
 by_cases g: ∃cs,v= .agg cs
 ·obtain⟨cs,rfl⟩:=g;simp only [Fj,Ah]
 ·have j: ∀cs,v≠ .agg cs:=fun cs e=>g ⟨cs,e⟩
  rw [h v j,h _ (fun cs e=>?_),Af];unfold B3 at e;split at e
  ·cases e
  ·cases e
  ·exact j cs e
theorem wD(P:Program): ∀(ts:List TypeId)(vs:Y14),iX P ts (iX P ts vs)=iX P ts vs
 | [],vs=>rfl
 |t::ts,[]=>rfl
 |t::ts,v::vs=>by simp only [iX,a0R,wD P ts vs]
theorem L6{g:FuncId}{xs:Y14}{h:Heap}{Q:IV->Heap->Prop}(j:aL E g (L5 E g xs) h Q):aL E g xs h Q:=by
 unfold L5 at j;split at j
 ·rename_i l;split at j
  ·rename_i fn hf;obtain⟨n,v,h',h1,h2⟩:=j;refine⟨n,v,h',?_,h2⟩
   cases n with
   |zero=>simp [eJ]at h1
   |succ n=>
    rw [jU]at h1⊢;simp only [hf,l,wD]at h1⊢;exact h1
  ·exact j
 ·rename_i l;split at j
  ·rename_i m;split at j
   ·rename_i fn hf;obtain⟨n,v,h',h1,h2⟩:=j;refine⟨n,v,h',?_,h2⟩
    cases n with
    |zero=>simp [eJ]at h1
    |succ n=>
     rw [jU]at h1⊢;simp only [hf,l,B4,m,wD]at h1⊢;exact h1
   ·exact j
  ·exact j
theorem wK{h:Heap}{sz:Nat}{x:IV}{K:Nat->Y14->Prop}(g:b1N (aR C) h sz x K): ∃n xs,fX h sz x=some (n,xs)/\K n xs:=by
 unfold b1N at g;unfold fX
 split at g
 ·exact⟨_,_,rfl,g⟩
 ·split at g
  ·rename_i j;exact⟨_,_,by simp only [AN j,if_true],g⟩
  ·exact g.elim
 ·split at g
  ·rename_i j;simp only [aR,aJ]at g;split at g
   ·rename_i cs m;have l:(aR C).need _ _:=g;obtain⟨h1,h2⟩:=bU.1 l;have h1:=BV h1;exact⟨_,_,by simp only [AN j,if_true,m,h1],h2⟩
   ·exact g.elim
  ·exact g.elim
 ·split at g
  ·rename_i j;exact⟨_,_,by simp only [AN j,if_true],g⟩
  ·exact g.elim
 ·exact g.elim
theorem Gy{h:Heap}{l sz j:Nat}{s x:IV}{K:IV->Heap->Prop}(g:a3J (aR C) h l sz j s x K): ∃v h',lS h l sz j s x=some (v,h')/\K v h':=by
 unfold a3J at g;split at g
 ·rename_i m;have m:=AN m;subst m;obtain⟨n,xs,h1,g⟩:=wK g;unfold lS
  simp only [h1]
  cases n with
  |zero=>exact g.elim
  |succ n=>
   rw [if_neg (Nat.succ_ne_zero n)];simp only [aR,gH]at g;split at g
   ·exact⟨_,_,by simp only [g.1,if_true,newRow],g.2⟩
   ·exact⟨_,_,by simp only [g.1,and_self,if_true,newRow],g.2⟩
   ·exact⟨_,_,by simp only [g.1.2.2,g.1.1,g.1.2.1,and_self,if_true],g.1.1▸g.2⟩
   ·exact g.elim
 ·exact g.elim
theorem Nm{h:Heap}{q sz l:Nat}{s x:IV}{K:IV->Heap->Prop}(g:c6P (aR C) h q sz l s x K): ∃v h',lS h q sz l s x=some (v,h')/\K v h':=by
 unfold c6P at g;obtain⟨n,xs,h1,g⟩:=wK g;unfold lS
 simp only [h1]
 by_cases hn:n=0
 ·subst hn;simp only [if_true];have r:Nat.beq 0 0=true:=rfl;simp only [r,aR,aI]at g;split at g
  ·exact⟨_,_,rfl,g⟩
  ·split at g
   ·rename_i p;exact⟨_,_,by simp only [AN p,if_true],AN p▸g⟩
   ·exact g.elim
  ·split at g
   ·rename_i p;exact⟨_,_,by simp only [AN p,if_true],AN p▸g⟩
   ·exact g.elim
  ·exact g.elim
 ·simp only [hn,if_false];have z:Nat.beq n 0=false:=by
   cases hq:Nat.beq n 0 with
   |false=>rfl
   |true=>exact absurd (AN hq) hn
  simp only [z,aR,aI]at g;split at g
  ·have j:(aR C).need _ _:=g;obtain⟨h2,h3⟩:=bU.1 j;exact⟨_,_,by simp only [BV h2,if_true],h3⟩
  ·split at g
   ·rename_i p;have j:(aR C).need _ _:=g;obtain⟨h2,h3⟩:=bU.1 j;exact⟨_,_,by simp only [AN p,BV h2,and_self,if_true],h3⟩
   ·exact g.elim
  ·split at g
   ·rename_i p;simp only [cF]at g;split at g
    ·rename_i m y;have j:(aR C).need _ _:=g;obtain⟨h2,h3⟩:=bU.1 j;simp only [AD]at h2;exact⟨_,_,by simp only [y,AN h2.1,AN p,BV h2.2,and_self,if_true],h3⟩
    ·exact g.elim
   ·exact g.elim
  ·split at g
   ·rename_i p;simp only [aJ]at g;split at g
    ·rename_i cs y;have j:(aR C).need _ _:=g;obtain⟨h2,h3⟩:=bU.1 j;simp only [AD]at h2;exact⟨_,_,by simp only [y,AN h2.1,AN p,BV h2.2.1,BV h2.2.2,and_self,if_true],h3⟩
    ·exact g.elim
   ·exact g.elim
  ·exact g.elim
theorem a1B(hC: ∀g xs h Q,C g xs h Q->aL E g xs h Q){draw:Bool}{o:Oper}{F:GF}{h:Heap}{K:GF->Ef->Prop}(j:opW (aR C) E f draw o F h K):
  ∃n G e,G.ff=F.ff/\eB E f (eJ E n) draw o (aX E F.tmg) F.lvg h=some e/\K G e:=by
 have a0:M5 E f draw o F h K-> ∃n G e,G.ff=F.ff/\eB E f (eJ E n) draw o (aX E F.tmg) F.lvg h=some e/\K G e:=fun q=>by
  obtain⟨e,h1,h2⟩:=Ht 0 q;exact⟨0,F,e,rfl,h1,h2⟩
 unfold opW at j;split at j
 ·rename_i x p;split at j
  ·rename_i hm;split at j
   ·rename_i id V len sz O;simp only [aR,aJ]at j;split at j
    ·rename_i cs hg;have Z:(aR C).need _ _:=j;obtain⟨h1,h2⟩:=bU.1 Z;simp only [AD]at h1;have hc:0<sz/\V+len*sz<=cs.length:=⟨BV h1.1,BV h1.2⟩;exact⟨0,F,_,rfl,by simp [eB,eH,gB,iG,dR,gS,p,hm,O,hg,hc],h2⟩
    ·exact j.elim
   ·exact j.elim
  ·rename_i hm;split at j
   ·rename_i v O;exact⟨0,F,_,rfl,by simp [eB,eH,p,hm,O],j⟩
   ·exact j.elim
 ·rename_i c a b p;split at j
  ·rename_i x O
   cases x with
   |true=>
    simp only [aR,aI]at j;split at j
    ·rename_i v hv;exact⟨0,_,_,xC O,by simp [eB,eH,p,O,hv],j⟩
    ·exact j.elim
   |false=>
    simp only [aR,aI]at j;split at j
    ·rename_i v hv;exact⟨0,_,_,xC O,by simp [eB,eH,p,O,hv],j⟩
    ·exact j.elim
  ·exact j.elim
 ·rename_i op t x y u p;split at j
  ·rename_i a b D A;obtain⟨v,h1,h2⟩:=No j;exact⟨0,F,_,rfl,by simp [eB,eH,p,D,A,h1],h2⟩
  ·exact j.elim
 ·rename_i t a p;split at j
  ·rename_i s V D;split at j
   ·rename_i cs hl;obtain⟨v,h1,h2⟩:=pL j;exact⟨0,F,_,rfl,by simp [eB,eH,gB,p,D,hl,h1],h2⟩
   ·exact j.elim
  ·rename_i cs V D;obtain⟨v,h1,h2⟩:=pL j;exact⟨0,F,_,rfl,by simp [eB,eH,p,D,h1],h2⟩
  ·rename_i id V D;simp only [aR,aJ]at j;split at j
   ·rename_i cs hg;obtain⟨v,h1,h2⟩:=pL (C:=C) j;exact⟨0,F,_,rfl,by simp [eB,eH,gB,iG,dR,p,D,hg,h1],h2⟩
   ·exact j.elim
  ·exact j.elim
 ·rename_i t a x p;split at j
  ·rename_i s V v D O;split at j
   ·rename_i cs hl;obtain⟨cs',h1,h2⟩:=Bj j;exact⟨0,F,_,rfl,by simp [eB,eH,gB,iG,p,D,O,hl,h1],h2⟩
   ·exact j.elim
  ·rename_i id V v D O;simp only [aR,aJ]at j;split at j
   ·rename_i cs hg;obtain⟨cs',h1,h2⟩:=Bj (C:=C) j;exact⟨0,F,_,rfl,by simp [eB,eH,gB,iG,dR,gS,p,D,O,hg,h1],h2⟩
   ·exact j.elim
  ·exact j.elim
 ·rename_i t x ix p;split at j
  ·rename_i i n e hi L;split at j
   ·rename_i sz a R D;obtain⟨h1,h2⟩:=bU.1 j;simp only [AD,decide_eq_true_eq]at h1;split at h2
    ·rename_i v hv;exact⟨0,F,_,rfl,by simp [eB,eH,p,hi,L,R,D,h1,hv],h2⟩
    ·exact h2.elim
   ·exact j.elim
  ·rename_i i e hi L;split at j
   ·rename_i sz id en len z cs R D;split at j
    ·rename_i A;have A:=AN A;obtain⟨h1,h2⟩:=bU.1 j;simp only [AD,decide_eq_true_eq]at h1;exact⟨0,F,_,rfl,by simp [eB,eH,p,hi,L,R,D,h1,A],h2⟩
    ·exact j.elim
   ·rename_i sz id V len z R D;split at j
    ·rename_i A;have A:=AN A;obtain⟨h1,h2⟩:=bU.1 j;simp only [AD,decide_eq_true_eq]at h1;exact⟨0,F,_,rfl,by simp [eB,eH,p,hi,L,R,D,h1,A],h2⟩
    ·exact j.elim
   ·exact j.elim
  ·exact j.elim
 ·rename_i t x ix p;split at j
  ·rename_i i n e cs hi L D;split at j
   ·rename_i sz R;obtain⟨h1,h2⟩:=bU.1 j;simp only [AD,decide_eq_true_eq]at h1;obtain⟨v,h3,h4⟩:=A8 h2;exact⟨0,F,_,rfl,by simp [eB,eH,p,hi,L,R,D,h1,h3],h4⟩
   ·exact j.elim
  ·rename_i i s hi L D;obtain⟨h1,h2⟩:=bU.1 j;simp only [AD,decide_eq_true_eq]at h1;simp only [aR,nC]at h2;split at h2
   ·rename_i b A;exact⟨0,F,_,rfl,by simp [eB,eH,p,hi,L,D,h1,A],h2⟩
   ·exact h2.elim
  ·exact j.elim
 ·rename_i t x lo hi mx p;split at j
  ·rename_i s L D;obtain⟨l,h',h1,h2,h3,h4,h5⟩:=qR j;exact⟨0,F,_,rfl,by simp [eB,eH,p,rN,L,D,h1],h5⟩
  ·rename_i e id en len z cs L D;split at j
   ·rename_i sz R;split at j
    ·rename_i A;have A:=AN A;obtain⟨l,h',h1,h2,h3,h4,h5⟩:=qR j;exact⟨0,F,_,rfl,by simp [eB,eH,p,rN,L,D,h1,R,A],h5⟩
    ·exact j.elim
   ·exact j.elim
  ·rename_i e id V len z L D;split at j
   ·rename_i sz R;split at j
    ·rename_i A;have A:=AN A;obtain⟨l,h',h1,h2,h3,h4,h5⟩:=qR j;exact⟨0,F,_,rfl,by simp [eB,eH,p,rN,L,D,h1,R,A],h5⟩
    ·exact j.elim
   ·exact j.elim
  ·rename_i n e id V L D;split at j
   ·rename_i sz R;simp only [aR,aJ]at j;split at j
    ·rename_i cs hg;have Z:(aR C).need _ _:=j;obtain⟨h6,Z⟩:=bU.1 Z;obtain⟨l,h',h1,h2,h3,h4,h5⟩:=qR Z;have h6:=BV h6;have a9:aX E F.tmg x=some (.v (.ptr id V)):=by
      unfold bE at D;split at D
      ·rename_i q;rw [q];cases D;rfl
      ·cases D
     exact⟨0,F,_,rfl,by simp [eB,eH,gB,iG,dR,p,rN,L,a9,bE,hg,h1,R,h6],h5⟩
    ·exact j.elim
   ·exact j.elim
  ·exact a0 j
 ·rename_i t l c p;split at j
  ·rename_i e d li ci L hd hl hc;split at j
   ·rename_i sz a5 z a4 a3 R;split at j
    ·rename_i A;have A:=AN A;obtain⟨h1,h2⟩:=bU.1 j;simp only [AD,decide_eq_true_eq]at h1;exact⟨0,F,_,rfl,by simp [eB,eH,gB,iG,dR,gS,p,L,hd,hl,hc,a4,a3,R,A,h1],h2⟩
    ·exact j.elim
   ·exact j.elim
  ·exact j.elim
 ·rename_i args X p;split at j
  ·rename_i t u sx xx a2 a1;split at j
   ·rename_i s x e du d hs O L a7 hd;split at j
    ·rename_i sz a5 z a4 a3 R;split at j
     ·rename_i A;simp only [AD]at A;have a6:=AN A.1;split at j
      ·obtain⟨v,h',h1,h2⟩:=Gy j;exact⟨0,F,_,rfl,by simp [eB,eH,gB,iG,dR,gS,p,a2,a1,hs,O,L,a7,hd,a4,a3,R,a6,A.2,h1],h2⟩
      ·obtain⟨v,h',h1,h2⟩:=Nm j;exact⟨0,F,_,rfl,by simp [eB,eH,gB,iG,dR,gS,p,a2,a1,hs,O,L,a7,hd,a4,a3,R,a6,A.2,h1],h2⟩
     ·exact j.elim
    ·exact j.elim
   ·exact j.elim
  ·exact j.elim
 ·rename_i args X p;split at j
  ·rename_i t ts sx xx a2 a1;split at j
   ·rename_i id V len z x e hs O L;split at j
    ·rename_i sz R;split at j
     ·rename_i A;have A:=AN A;subst A;obtain⟨n,xs,h1,j⟩:=wK j;simp only [aR,aJ]at j;split at j
      ·rename_i cs hg;have Z:(aR C).need _ _:=j;obtain⟨h6,Z⟩:=bU.1 Z;have h6:=BV h6;exact⟨0,F,_,rfl,by simp [eB,eH,gB,iG,dR,gS,p,a2,a1,hs,O,L,R,hg,h1,h6],Z⟩
      ·exact j.elim
     ·exact j.elim
    ·exact j.elim
   ·exact j.elim
  ·exact j.elim
 ·rename_i x args X p;split at j
  ·rename_i g a b xs O b0;obtain⟨n,v,h',h1,h2⟩:=L6 (hC _ _ _ _ j);exact⟨n,F,_,rfl,by simp [eB,eH,gB,iG,dR,gS,dO,p,O,b0,<-List.append_assoc,h1],h2⟩
  ·exact j.elim
 ·rename_i t x k ok p;split at j
  ·rename_i kt et id a8 L O Y;split at j
   ·rename_i d z hd R;split at j
    ·rename_i hf;simp only [aR,gC]at j;split at j
     ·rename_i es hg;split at j
      ·rename_i v hv;obtain⟨v',h1,h2⟩:=a0L (C:=C) j;have h1:v=v':=by simpa using h1
       subst h1;refine⟨0,F,_,rfl,?_,h2⟩
       cases ok<;>simp [eB,eH,gB,iG,dR,p,L,O,Y,hd,R,hf,hg,hv]
      ·rename_i hv;refine⟨0,F,_,rfl,?_,j⟩
       cases ok<;>simp [eB,eH,gB,iG,dR,p,L,O,Y,hd,R,hf,hg,hv]
      ·exact j.elim
     ·exact j.elim
    ·exact j.elim
   ·exact j.elim
  ·exact a0 j
 ·rename_i t m k x p;split at j
  ·rename_i kt et id a8 v L hm Y O;split at j
   ·rename_i d hd;split at j
    ·rename_i hf;simp only [aR,lU]at j;split at j
     ·rename_i es hg;split at j
      ·rename_i es' hv;exact⟨0,F,_,rfl,by simp [eB,eH,gB,iG,dR,gS,p,L,hm,O,Y,hd,hf,hg,hv],j⟩
      ·exact j.elim
     ·exact j.elim
    ·exact j.elim
   ·exact j.elim
  ·exact j.elim
 ·rename_i t m k p;split at j
  ·rename_i kt et id a8 L hm Y;split at j
   ·rename_i d z hd R;split at j
    ·rename_i hf;simp only [aR,d5V]at j;split at j
     ·rename_i es hg;split at j
      ·rename_i r hv;exact⟨0,F,_,rfl,by simp [eB,eH,gB,iG,dR,gS,p,L,hm,Y,hd,R,hf,hg,hv],j⟩
      ·exact j.elim
     ·exact j.elim
    ·exact j.elim
   ·exact j.elim
  ·exact j.elim
 ·rename_i t m s x p;split at j
  ·rename_i id kd n v hm hs O;simp only [aR,c4X]at j;split at j
   ·rename_i es hg;exact⟨0,F,_,rfl,by simp [eB,eH,gB,iG,dR,gS,p,hm,hs,O,hg,j.1],j.2⟩
   ·exact j.elim
  ·exact j.elim
 ·rename_i s d x p;split at j
  ·rename_i e id en len cs L hd O;split at j
   ·rename_i he;simp only [aR,a3T]at j;split at j
    ·rename_i b A;exact⟨0,F,_,rfl,by simp [eB,eH,Dg,p,L,hd,O,he,A],j⟩
    ·exact j.elim
   ·exact j.elim
  ·exact a0 j
 ·exact a0 j
theorem Dm{E:Env}{ops:List Oper}{o:Oper}{F:GF}{q skip:GF->Prop}(g:Pl (aR C) ops o F q skip):
  ∃G,G.ff=F.ff/\((dK ops F.tmg o=some true/\q G) \/ (dK ops F.tmg o=some false/\skip G)):=by
 unfold Pl at g;unfold dK
 split at g
 ·rename_i l;exact⟨F,rfl,.inl ⟨by simp [l],g⟩⟩
 ·rename_i j b l;split at g
  ·rename_i d hd;split at g
   ·rename_i x m;have p:=fun y (hy:x=y)=>xC (E:=E) (F:=F) (c:= .tmp d) (b:=y) (by rw [<-hy];exact m)
    cases x with
    |true=>
     refine⟨_,p true rfl,?_⟩
     cases b with
     |true=>exact .inl ⟨by simp [l,hd,m],g⟩
     |false=>exact .inr ⟨by simp [l,hd,m],g⟩
    |false=>
     refine⟨_,p false rfl,?_⟩
     cases b with
     |true=>exact .inr ⟨by simp [l,hd,m],g⟩
     |false=>exact .inl ⟨by simp [l,hd,m],g⟩
   ·rename_i m;exact⟨F,rfl,.inr ⟨by simp [l,hd,m],g⟩⟩
   ·exact g.elim
  ·exact g.elim
theorem C5{b:Nat}{h:Heap}{A:Prop} : ∀{ps:Ps},La b h A ps->Yc ps b h/\A
 | [],hk=>⟨(fun q l=>nomatch l),hk⟩
 |q::r,hk=>by
  unfold La at hk;split at hk
  ·rename_i j;obtain⟨h1,h2⟩:=C5 hk;refine⟨fun x g=>?_,h2⟩;rcases CD.1 g with rfl|g
   ·exact .inl j
   ·exact h1 x g
  ·obtain⟨h1,h2⟩:=C5 hk.2;refine⟨fun x g=>?_,h2⟩;rcases CD.1 g with rfl|g
   ·exact .inr hk.1
   ·exact h1 x g
theorem I0{C:FuncId->Y14->Heap->(IV->Heap->Prop)->Prop}{h:Heap}{n:Nat}{A:Prop}(j:(aR C).fre h n A):h.get n= .free/\A:=by
 have g:Pg h n A:=j;unfold Pg at g;split at g
 ·rename_i hf;exact⟨hf,g⟩
 ·exact g.elim
theorem a1A{n:Nat}{o:Oper}{F:GF}{h:Heap}{K:GF->Ef->Prop}(g:opA (aR C) E f n o F h K):
  ∃e,(match H7 E f o (aX E F.tmg) n with
   |some (v,none)=>some ⟨.p,v,none,false,h⟩
   |some (v,some x)=>match h.get n with
    | .free=>some ⟨.a,v,none,false,h.set n x⟩
    |_=>none
   |none=>none)=some e/\K F e:=by
 unfold opA at g;split at g
 ·rename_i t l c q;split at g
  ·rename_i e d li ci hu hd hl hc;split at g
   ·rename_i sz G z r m hz;split at g
    ·rename_i y;have y:=AN y;obtain⟨h1,h2⟩:=bU.1 g;simp only [AD,decide_eq_true_eq]at h1;split at h2
     ·rename_i hw;have hw:=AN hw;obtain⟨h3,h4⟩:=bU.1 h2;have h3:=BV h3;obtain⟨L,O⟩:=I0 h4;refine⟨_,?_,O⟩;simp only [H7,q,hu,hd,hl,hc,r,m,hz];rw [if_pos ⟨h1.1,h1.2.1,h1.2.2.1,h1.2.2.2,y,fun _=>h3⟩];simp only [L]
     ·rename_i hw;obtain⟨L,O⟩:=I0 h2;refine⟨_,?_,O⟩;simp only [H7,q,hu,hd,hl,hc,r,m,hz];rw [if_pos ⟨h1.1,h1.2.1,h1.2.2.1,h1.2.2.2,y,fun e=>by rw [e]at hw;simp at hw⟩];simp only [L]
    ·exact g.elim
   ·exact g.elim
  ·exact g.elim
 ·rename_i args R q;split at g
  ·rename_i t u sx xx X V;split at g
   ·rename_i x e du d hs hx hu Z hd;split at g
    ·rename_i sz G z r m hz;split at g
     ·rename_i y;simp only [AD]at y;have Y:=AN y.1;split at g
      ·rename_i k xs D;have A:aI (Nat.beq k 0) _ _:=g
       cases j:Nat.beq k 0 with
       |true=>
        rw [j]at A;have j:=AN j;refine⟨_,?_,A⟩;simp only [H7,q,X,V,hs,hx,hu,Z,hd,r,m,hz];rw [if_pos ⟨Y,y.2⟩];simp only [D,j,if_true]
       |false=>
        rw [j]at A;obtain⟨h3,h4⟩:=bU.1 A;have h3:=BV h3;obtain⟨L,O⟩:=I0 h4;refine⟨_,?_,O⟩;simp only [H7,q,X,V,hs,hx,hu,Z,hd,r,m,hz];rw [if_pos ⟨Y,y.2⟩];simp only [D];rw [if_neg (fun e=>by rw [e]at j;simp at j),if_pos h3];simp only [L]
      ·exact g.elim
     ·exact g.elim
    ·exact g.elim
   ·exact g.elim
  ·exact g.elim
 ·split at g
  ·rename_i v ha;exact⟨_,by simp only [ha],g⟩
  ·rename_i v x ha;obtain⟨L,O⟩:=I0 g;exact⟨_,by simp only [ha,L],O⟩
  ·exact g.elim
theorem yE{C:FuncId->Y14->Heap->(IV->Heap->Prop)->Prop}{rs:Nat->Y10}{m:Met}{b:Nat}{id:Y10}{A:Prop} : ∀{l:List Nat},rdK (aR C) rs m b id A l->(l.all fun j=>b.testBit j|| (!(m.a.testBit j)|| (match rs j,id with
  |some n,some k=>!(Nat.beq n k)
  |_,_=>true)))=true/\A
 | [],hk=>⟨rfl,hk⟩
 |j::r,hk=>by
  unfold rdK at hk;rw [EL,AD];split at hk
  ·rename_i p;obtain⟨h1,h2⟩:=yE hk;refine⟨⟨?_,h1⟩,h2⟩;rw [<-Bool.or_assoc,p];rfl
  ·have g: ∀{z:Bool},z=true->(b.testBit j|| (!(m.a.testBit j)||z))=true:=fun e=>by rw [e];simp
   cases hrs:rs j with
   |none=>
    rw [hrs]at hk;obtain⟨h1,h2⟩:=yE (id:=id) hk;exact⟨⟨g rfl,h1⟩,h2⟩
   |some n=>
    cases id with
    |none=>
     rw [hrs]at hk;obtain⟨h1,h2⟩:=yE (id:=none) hk;exact⟨⟨g rfl,h1⟩,h2⟩
    |some k=>
     rw [hrs]at hk;obtain⟨h3,h4⟩:=bU.1 hk;obtain⟨h1,h2⟩:=yE h4;exact⟨⟨g h3,h1⟩,h2⟩
theorem Ho{C:FuncId->Y14->Heap->(IV->Heap->Prop)->Prop}{l:List Nat}{rs:Nat->Y10}{m:Met}{ps:Ps}{b:Nat}{id:Y10}{e:Ef}{A:Prop}(g:c7R (aR C) l rs o m ps b id e A):(o=false\/ ((kJ (m.chk e.c) b=true\/e.c= .e/\kJ (m.e|||m.a) b=true/\Yc ps b e.h)/\Fo l rs m b id e.c=true))/\A:=by
 unfold c7R at g;split at g
 ·exact⟨.inl rfl,g⟩
 ·split at g
  ·rename_i h1;unfold d6W at g;split at g
   ·rename_i j;obtain⟨h3,h4⟩:=yE g;exact⟨.inr ⟨.inl h1,by unfold Fo;rw [j];exact h3⟩,h4⟩
   ·rename_i j;refine⟨.inr ⟨.inl h1,?_⟩,g⟩;unfold Fo
    split
    ·rename_i h2;exact absurd h2 j
    ·rfl
  ·split at g
   ·rename_i j;split at g
    ·rename_i p;obtain⟨h1,h2⟩:=C5 g;exact⟨.inr ⟨.inr ⟨j,p,h1⟩,by rw [j];rfl⟩,h2⟩
    ·exact g.elim
   ·exact g.elim
theorem nD(hC: ∀g xs h Q,C g xs h Q->aL E g xs h Q){ops:List Oper}{draw:Bool}{bef:Nat->Nat}{L:List Nat}{rs:Nat->Y10} : ∀{l:List (Oper×Nat)}{m:Met}{ps:Ps}{F:GF}{h:Heap}{K:GF->Heap->Prop},
  Zp (aR C) E f ops draw bef L rs l m ps F h K->J3 E f ops draw bef L rs l m ps F.ff h fun O h'=> ∃G,G.ff=O/\K G h'
 | [],m,ps,F,h,K,z=>J3.nil ⟨F,rfl,z⟩
 | (o,i)::r,m,ps,F,h,K,z=>by
  unfold Zp at z;obtain⟨G,A,z⟩:=Dm (E:=E) z;have X: ∀{o},dK ops F.ff.tm o=dK ops F.tmg o:=rfl
  have D:G.tmg=F.tmg:=congrArg FF.tm A;have R:G.lvg=F.lvg:=congrArg FF.lv A;rcases z with⟨y,j⟩| ⟨y,j⟩
  ·cases hrs:rs i with
   |none=>
    rw [hrs]at j;obtain⟨n,V,e,h1,h2,h3⟩:=a1B hC j;obtain⟨q,h3⟩:=Ho h3;have h4:=nD hC h3;rw [D]at q;refine J3.cons ⟨n,e,?_,q,?_⟩
    ·rw [D,R]at h2;rw [hrs];simp only [dJ,vU];rw [show dK ops F.ff.tm o=some true from y];exact h2
    ·rw [a6G,h1,A]at h4;exact h4
   |some k=>
    rw [hrs]at j;obtain⟨e,h2,h3⟩:=a1A j;obtain⟨q,h3⟩:=Ho h3;have h4:=nD hC h3;rw [D]at q;refine J3.cons ⟨0,e,?_,q,?_⟩
    ·rw [D]at h2;rw [hrs];simp only [dJ];rw [show dK ops F.ff.tm o=some true from y];exact h2
    ·rw [a6G,A]at h4;exact h4
  ·have h4:=nD hC j;refine J3.cons ⟨0,⟨.p,some .u,none,false,h⟩,?_,.inr ⟨.inl (by simp [Met.chk,kJ]),rfl⟩,?_⟩
   ·cases rs i<;>simp only [dJ,vU]<;>rw [show dK ops F.ff.tm o=some false from y]
   ·rw [N2,A]at h4;exact h4
theorem X9{c:Code}{g:GF->Heap->(Ex->GF->Heap->Prop)->Prop}(m: ∀F h K,g F h K->bQ E f c F.ff h fun x l h'=> ∃G,G.ff=l/\K x G h'):
  ∀{n:Nat}{F:GF}{h:Heap}{K:Ex->GF->Heap->Prop},dUn g n F h K->bQ E f (.loop c) F.ff h fun x l h'=> ∃G,G.ff=l/\K x G h'
 |0,F,h,K,hk=>hk.elim
 |n+1,F,h,K,hk=>by
  unfold dUn at hk;refine bQ.loop ((m _ _ _ hk).mono ?_);rintro x l h' ⟨G,rfl,j⟩
  cases x with
  |normal=>exact X9 m j
  |exit id=>exact⟨G,rfl,j⟩
  |ret=>exact⟨G,rfl,j⟩
theorem Kt: ∀{l:List (Nat×TV)}{F:GF}{A:Prop},vQ F l A->A/\∀k x,(Ks l).get k=some x->x=F.tmg k
 | [],F,A,h=>⟨h,fun k x e=>by simp [Ks,PT.get]at e⟩
 | (s,v)::r,F,A,h=>by
  obtain⟨h1,h2⟩:=Kt h.2;refine⟨h1,fun k x e=>?_⟩;unfold Ks at e;rw [PT.get_set]at e;split at e
  ·rename_i g;subst g;simp only [AB]at e;subst e;exact h.1.symm
  ·exact h2 k x e
theorem Iu: ∀{l:List (Nat×Y14)}{F:GF}{A:Prop},vP F l A->A/\∀k x,(It l).get k=some x->x=F.lvg k
 | [],F,A,h=>⟨h,fun k x e=>by simp [It,PT.get]at e⟩
 | (s,v)::r,F,A,h=>by
  obtain⟨h1,h2⟩:=Iu h.2;refine⟨h1,fun k x e=>?_⟩;unfold It at e;rw [PT.get_set]at e;split at e
  ·rename_i g;subst g;simp only [AB]at e;subst e;exact h.1.symm
  ·exact h2 k x e
theorem lQ{F:GF}{A B:Prop}(g:A->B): ∀{l:List (Nat×TV)},vQ F l A->vQ F l B
 | [],h=>g h
 | (s,v)::r,h=>⟨h.1,lQ g h.2⟩
theorem lP{F:GF}{A B:Prop}(g:A->B): ∀{l:List (Nat×Y14)},vP F l A->vP F l B
 | [],h=>g h
 | (s,v)::r,h=>⟨h.1,lP g h.2⟩
theorem Vb{v:Inv1}{x:v.X}{F:GF}{h:Heap}{P:Nat->Prop}(q:vQ F (v.slots x) (vP F (v.locs x) (h=v.hp x/\v.cond x/\P (v.meas x)))):
  ∃G m,G.ff=F.ff/\P m/\∀K:GF->Heap->Nat->Prop,(∀(x:v.X)(b:FF),v.cond x->K ⟨Ks (v.slots x),It (v.locs x),b⟩ (v.hp x) (v.meas x))->K G h m:=by
 obtain⟨h1,h2⟩:=Kt q;obtain⟨⟨h3,h4,j⟩,l⟩:=Iu h1;refine⟨⟨Ks (v.slots x),It (v.locs x),F.ff⟩,v.meas x,FF.ext' (fun k=>?_) (fun k=>?_),j,fun K p=>by rw [h3];exact p x F.ff h4⟩
 ·simp only [GF.ff,GF.tmg];split
  ·rename_i y g;exact h2 k y g
  ·rfl
 ·simp only [GF.ff,GF.lvg];split
  ·rename_i y g;exact l k y g
  ·rfl
theorem qZ: ∀{v:Inv'}{F:GF}{h:Heap}{P:Nat->Prop},v.J F h P-> ∃G m,G.ff=F.ff/\P m/\∀K,v.I K->K G h m
 | .one v,F,h,P,g=>by
  unfold Inv'.J at g;split at g
  ·exact Vb g
  ·exact g.elim
 | .ex v,F,h,P,g=>by
  obtain⟨x,l⟩:=g;exact Vb l
 | .or a b,F,h,P,g=>by
  rcases g with g|g
  ·obtain⟨G,m,h1,h2,h3⟩:=qZ g;exact⟨G,m,h1,h2,fun K j=>h3 K j.1⟩
  ·obtain⟨G,m,h1,h2,h3⟩:=qZ g;exact⟨G,m,h1,h2,fun K j=>h3 K j.2⟩
theorem J2{P j:Nat->Prop}(g: ∀m,P m->j m): ∀{v:Inv'}{F:GF}{h:Heap},v.J F h P->v.J F h j
 | .one v,F,h,hj=>by
  unfold Inv'.J at hj⊢;split at hj
  ·exact lQ (fun q=>lP (fun q=>⟨q.1,q.2.1,g _ q.2.2⟩) q) hj
  ·exact hj
 | .ex v,F,h,hj=>by
  obtain⟨x,l⟩:=hj;exact⟨x,lQ (fun q=>lP (fun q=>⟨q.1,q.2.1,g _ q.2.2⟩) q) l⟩
 | .or a b,F,h,hj=>hj.imp (J2 g) (J2 g)
theorem Cc: ∀{v:Inv'}{F:GF}{h:Heap},(v.J F h fun _=>True)-> ∃m,v.J F h fun k=>k<m
 | .one v,F,h,g=>by
  unfold Inv'.J at g⊢;split at g
  ·rename_i x l;exact⟨v.meas x+1,lQ (fun q=>lP (fun q=>⟨q.1,q.2.1,AV _⟩) q) g⟩
  ·exact g.elim
 | .ex v,F,h,g=>by
  obtain⟨x,l⟩:=g;exact⟨v.meas x+1,x,lQ (fun q=>lP (fun q=>⟨q.1,q.2.1,AV _⟩) q) l⟩
 | .or a b,F,h,g=>by
  rcases g with g|g
  ·obtain⟨m,j⟩:=Cc g;exact⟨m,.inl j⟩
  ·obtain⟨m,j⟩:=Cc g;exact⟨m,.inr j⟩
theorem xF(hC: ∀g xs h Q,C g xs h Q->aL E g xs h Q){U:Nat->Nat}{IL IC:Nat->Option Inv'} : ∀{c:Code}{F:GF}{h:Heap}{K:Ex->GF->Heap->Prop},dC (aR C) E f U IL IC c F h K->bQ E f c F.ff h fun x q h'=> ∃G,G.ff=q/\K x G h':=by
 intro c
 induction c with
 |skip=>intro F h K p;exact bQ.skip ⟨F,rfl,p⟩
 |exit id=>intro F h K p;exact bQ.exit ⟨F,rfl,p⟩
 |ret=>intro F h K p;exact bQ.ret ⟨F,rfl,p⟩
 |region id ops draw=>
  intro F h K p;unfold dC at p;split at p
  ·rename_i V;have:=nD hC p;rw [Ia]at this;refine bQ.region ?_;rw [V];exact this
  ·rename_i j r V;have:=nD hC p;rw [Ia]at this;refine bQ.region ?_;rw [V];exact this
 |seq a b iha ihb=>
  intro F h K p;unfold dC at p;split at p
  ·split at p
   ·refine bQ.seq ((iha p).mono ?_);rintro x q h' ⟨G,rfl,l⟩
    cases x with
    |normal=>exact ihb l
    |exit id=>exact⟨G,rfl,l⟩
    |ret=>exact⟨G,rfl,l⟩
   ·rename_i v Y;obtain⟨M,p⟩:=p;refine bQ.seq ((iha p.1).mono ?_);rintro x q h' ⟨G,rfl,l⟩
    cases x with
    |normal=>
     obtain⟨y,m,h1,D,h3⟩:=qZ l;have:=ihb (h3 _ p.2 D);rw [h1]at this;exact this
    |exit id=>exact⟨G,rfl,l⟩
    |ret=>exact⟨G,rfl,l⟩
  ·rename_i v Y;refine bQ.seq ((iha p.1).mono ?_);rintro x q h' ⟨G,rfl,l⟩
   cases x with
   |normal=>
    obtain⟨y,m,h1,_,h3⟩:=qZ l;have:=ihb (h3 _ p.2);rw [h1]at this;exact this
   |exit id=>exact⟨G,rfl,l⟩
   |ret=>exact⟨G,rfl,l⟩
 |cond c a b iha ihb=>
  intro F h K p;unfold dC at p;split at p
  ·rename_i x O
   cases x with
   |true=>
    refine bQ.cond (b:=true) O (fun _=>?_) (fun e=>by cases e);have:=iha (F:=Hb c F true) p;rw [xC O]at this;exact this
   |false=>
    refine bQ.cond (b:=false) O (fun e=>by cases e) (fun _=>?_);have:=ihb (F:=Hb c F false) p;rw [xC O]at this;exact this
  ·exact p.elim
 |block id c ih=>
  intro F h K p;refine bQ.block ((ih p).mono ?_);rintro x q h' ⟨G,rfl,l⟩
  cases x with
  |normal=>exact⟨G,rfl,l⟩
  |ret=>exact⟨G,rfl,l⟩
  |exit id'=>
   simp only at l⊢;split at l
   ·rename_i R;rw [if_pos (AN R)];exact⟨G,rfl,l⟩
   ·rename_i R;rw [if_neg (EX R)];exact⟨G,rfl,l⟩
 |loop c ih=>
  intro F h K p;unfold dC at p;split at p
  ·rename_i n hu;exact X9 (fun F h K=>ih) p
  ·split at p
   ·rename_i v Y;obtain⟨z,X⟩:=p;have L: ∀(n:Nat)(F:GF)(h:Heap),(v.J F h fun m=>m<n)->bQ E f (.loop c) F.ff h fun x q h'=> ∃G,G.ff=q/\K x G h':=by
     intro n
     induction n with
     |zero=>intro F h z;obtain⟨G,m,_,D,_⟩:=qZ z;omega
     |succ n ihn=>
      intro F h z;obtain⟨G,m,h1,D,h3⟩:=qZ z;have:=ih (h3 _ X);rw [<-h1];refine bQ.loop (this.mono ?_);rintro x q h' ⟨y,rfl,l⟩
      cases x with
      |normal=>
       refine ihn y h' ?_;have A:v.J y h' fun Z=>Z<m:=l
       exact J2 (fun k p=>JF) A
      |exit id=>exact⟨y,rfl,l⟩
      |ret=>exact⟨y,rfl,l⟩
    obtain⟨m,D⟩:=Cc z;exact L m F h D
   ·split at p
    ·rename_i v Y;obtain⟨M,z,X⟩:=p;have L: ∀(n:Nat)(F:GF)(h:Heap),n<=M+1->(v.J F h fun m=>m<n)->bQ E f (.loop c) F.ff h fun x q h'=> ∃G,G.ff=q/\K x G h':=by
      intro n
      induction n with
      |zero=>intro F h _ z;obtain⟨G,m,_,D,_⟩:=qZ z;omega
      |succ n ihn=>
       intro F h hn z;obtain⟨G,m,h1,D,h3⟩:=qZ z;have:=ih (h3 _ X JF);rw [<-h1];refine bQ.loop (this.mono ?_);rintro x q h' ⟨y,rfl,l⟩
       cases x with
       |normal=>
        refine ihn y h' JF ?_;have A:v.J y h' fun Z=>Z<m:=l
        exact J2 (fun k p=>JF) A
       |exit id=>exact⟨y,rfl,l⟩
       |ret=>exact⟨y,rfl,l⟩
     exact L (M+1) F h (AG _) (J2 (fun k p=>JF) z)
    ·exact p.elim
 |scope c ih=>intro F h K p;exact bQ.scope (ih p)
 |_=>intros;rename_i p;exact p.elim
theorem Pe(hC: ∀g xs h Q,C g xs h Q->aL E g xs h Q){U:Nat->Nat}{IL IC:Nat->Option Inv'} : ∀{c:Code}{F:GF}{h:Heap}{K:Ex->GF->Heap->Prop},
  Pc (aR C) E f U IL IC c F h K->L7 (aR C) E f U IL IC c K->bQ E f c F.ff h fun x q h'=> ∃G,G.ff=q/\K x G h':=by
 intro c
 induction c with
 |seq a b iha ihb=>
  intro F h K p l;unfold Pc at p;unfold L7 at l;split at p
  ·rename_i y;simp only [y]at l;refine bQ.seq ((xF hC p).mono ?_);rintro x q h' ⟨G,rfl,j⟩
   cases x with
   |normal=>exact ihb j l
   |exit id=>exact⟨G,rfl,j⟩
   |ret=>exact⟨G,rfl,j⟩
  ·rename_i v z;simp only [z]at l;refine bQ.seq ((xF hC p).mono ?_);rintro x q h' ⟨G,rfl,j⟩
   cases x with
   |normal=>
    obtain⟨A,m,h1,_,h3⟩:=qZ j;have:=ihb (h3 _ l.1) l.2;rw [h1]at this;exact this
   |exit id=>exact⟨G,rfl,j⟩
   |ret=>exact⟨G,rfl,j⟩
 |block id c ih=>
  intro F h K p l;refine bQ.block ((ih (K:=b8B id K) p l).mono ?_);rintro x q h' ⟨G,rfl,j⟩;unfold b8B at j
  cases x with
  |normal=>exact⟨G,rfl,j⟩
  |ret=>exact⟨G,rfl,j⟩
  |exit id'=>
   simp only at j⊢;split at j
   ·rename_i r;rw [if_pos (AN r)];exact⟨G,rfl,j⟩
   ·rename_i r;rw [if_neg (EX r)];exact⟨G,rfl,j⟩
 |scope c ih=>intro F h K p l;exact bQ.scope (ih p l)
 |_=>intro F h K p _;exact xF hC p
theorem Ry{F:GF}{h:Heap}{K:IV->Prop}{r:ResultVar}(g:d0I (aR C) E f F h K r){j:Fr}(hf:j.ff=F.ff): ∃v,yG E.P j h r=some v/\K v:=by
 have p:j.tm.get=F.tmg:=congrArg FF.tm hf;have q:j.lv.get=F.lvg:=congrArg FF.lv hf;unfold d0I at g;unfold yG
 simp only [p,q];split at g
 ·rename_i t;split at g
  ·rename_i v A;exact⟨v,A,g⟩
  ·exact g.elim
 ·rename_i a t;split at g
  ·rename_i s m l;split at g
   ·rename_i cs z;obtain⟨v,h1,h2⟩:=pL g;exact⟨v,by simp only [l,z];exact h1,h2⟩
   ·exact g.elim
  ·rename_i id m l;simp only [aR,aJ]at g;split at g
   ·rename_i cs y;obtain⟨v,h1,h2⟩:=pL (C:=C) g;exact⟨v,by simp only [l,y];exact h1,h2⟩
   ·exact g.elim
  ·exact g.elim
theorem tE{F:GF}{h:Heap}{g:Fr}(hf:g.ff=F.ff): ∀{l:List ResultVar}{K:Y14->Prop},R7 (aR C) E f F h l K-> ∃vs,iY E.P g h l=some vs/\K vs
 | [],K,hk=>⟨[],rfl,hk⟩
 |r::rs,K,hk=>by
  unfold R7 at hk;obtain⟨v,h1,h2⟩:=Ry hk hf;obtain⟨vs,h3,h4⟩:=tE hf h2;exact⟨v::vs,by simp only [iY,h1,h3],h4⟩
theorem M8: ∀(args:Y14)(i:Nat)(t:PT TV)(u:PT (Option TV)),(∀k,(match u.get k with|some x=>x|none=>none)=t.get k)->
  ∀k,(match(Dk args i u).get k with|some x=>x|none=>none)=(lM args i t).get k
 | [],i,t,u,h,k=>h k
 |v::r,i,t,u,h,k=>by
  unfold Dk lM
  refine M8 r (i+1) _ _ (fun k=>?_) k;simp only [PT.get_set]
  by_cases hk:k=i
  ·simp [hk]
  ·simp only [hk,if_false];exact h k
theorem Zy(args:Y14):(Dj args).ff=Fr.ff ⟨lM args 0 .nil,.nil⟩:=
 FF.ext' (fun k=>M8 args 0 .nil .nil (fun k=>rfl) k) (fun k=>rfl)
theorem D8(hC: ∀g xs h Q,C g xs h Q->aL E g xs h Q){U:Nat->Nat}{IL IC:Nat->Option Inv'}{rs:List ResultVar}{c:Code}{args:Y14}{h:Heap}{K:Y14->Heap->Prop}
  (hk:Ui (aR C) E f U IL IC rs c args h K): ∃n vs h',jG E f (eJ E n) n rs c args h=some (vs,h')/\K vs h':=by
 unfold Ui at hk;have p:bQ E f c (Dj args).ff h fun x m h'=> ∃G,G.ff=m/\(fun(x:Ex)(F:GF)(h':Heap)=>match x with
   | .exit _=>False
   |_=>R7 (aR C) E f F h' rs fun vs=>K vs h') x G h':=by
  split at hk
  ·exact xF hC hk
  ·exact Pe hC hk.1 hk.2
 have h1:=p ⟨lM args 0 .nil,.nil⟩ (Zy args).symm;obtain⟨n,x,q,h',l,G,j,h2⟩:=h1
 cases x with
 |exit id=>exact h2.elim
 |normal=>
  obtain⟨vs,h3,h4⟩:=tE j.symm h2;exact⟨n,vs,h',by simp [jG,l,h3],h4⟩
 |ret=>
  obtain⟨vs,h3,h4⟩:=tE j.symm h2;exact⟨n,vs,h',by simp [jG,l,h3],h4⟩
theorem E1{h:Heap}{v:IV}{K:IV->Heap->Prop}(g:Uw (aR C) h v K):K (sW h v).1 (sW h v).2:=by
 unfold Uw at g;split at g
 ·simp only [aR,aJ]at g;split at g
  ·rename_i cs p;have j:(aR C).need _ _:=g;obtain⟨h1,h2⟩:=bU.1 j;simp only [AD]at h1;have l:=BV h1.1;have m:=BV h1.2;simp only [sW,p];rw [if_pos ⟨l,m⟩];exact h2
  ·exact g.elim
 ·rename_i q;have:sW h v=(v,h):=by
   unfold sW
   split
   ·exact absurd rfl (q _ _ _ _)
   ·rfl
  rw [this];exact g
theorem oJ{g:Heap->IV->(IV->Heap->Prop)->Prop}{j:Heap->IV->IV×Heap}(l: ∀h v K,g h v K->K (j h v).1 (j h v).2): ∀{vs:Y14}{h:Heap}{K:Y14->Heap->Prop},Z1 g vs h K->K (vV j h vs).1 (vV j h vs).2
 | [],h,K,hk=>hk
 |v::r,h,K,hk=>by
  unfold Z1 at hk;have:=l _ _ _ hk;exact oJ (vs:=r) l this
theorem E2{h:Heap}{v:IV}{K:IV->Heap->Prop}(g:Uz (aR C) h v K):K (M9 h v).1 (M9 h v).2:=by
 unfold Uz at g;split at g
 ·exact oJ (fun _ _ _ q=>E1 q) g
 ·rename_i j;have:M9 h v=sW h v:=by
   unfold M9
   split
   ·exact absurd rfl (j _)
   ·rfl
  rw [this];exact E1 g
theorem Hx{h:Heap}{v:IV}{K:IV->Heap->Prop}(j:a6D (aR C) h v K):K (Ph h v).1 (Ph h v).2:=by
 unfold a6D at j;have h1:=E2 j;unfold Ph
 generalize M9 h v=y at h1⊢;obtain⟨m,h'⟩:=y;dsimp only at h1⊢;split at h1
 ·exact h1 _ _ .mk
 ·rename_i l;split
  ·rename_i g;simp only [BT]at g;exact absurd g.1 (l _ _ _ _)
  ·exact h1
theorem W4{vs:Y14}{h:Heap}{K:Y14->Prop}(g:Dl (aR C) E f vs h K):K (N0 E f vs h):=by
 unfold Dl at g;unfold N0
 split at g
 ·rename_i j;rw [if_pos j];split at g
  ·rename_i hd;rw [if_pos hd];exact oJ (fun _ _ _ q=>Hx q) g
  ·rename_i hd;rw [if_neg (by simp [hd])];exact oJ (fun _ _ _ q=>E2 q) g
 ·rename_i j;rw [if_neg (by simp [j])];exact g
theorem a5N(hC: ∀g xs h Q,C g xs h Q->aL E g xs h Q){U:Nat->Nat}{IL IC:Nat->Option Inv'}{args:Y14}{h:Heap}{Q:IV->Heap->Prop}
  (j:dF (aR C) E f U IL IC args h Q):aL E f args h Q:=by
 unfold dF at j;split at j
 case h_2=>exact j.elim
 rename_i fn hf;split at j
 case h_2=>exact j.elim
 rename_i c m;split at j
 ·rename_i l;obtain⟨n,vs,h',h1,h2⟩:=D8 hC j;refine⟨n+1,(kB E f (kG (B4 E f fn.resultTypes.toList vs)) h').1,(kB E f (kG (B4 E f fn.resultTypes.toList vs)) h').2,?_,?_⟩
  ·rw [jU];simp only [hf,m,l,h1]
  ·split at h2
   ·exact h2
   ·rename_i q;simpa [kB,q]using h2
 ·rename_i l;obtain⟨p,j⟩:=bU.1 j;obtain⟨n,vs,h',h1,h2⟩:=D8 hC j;obtain⟨h3,h4⟩:=bU.1 (W4 h2);refine⟨n+1,_,h,?_,h4⟩;rw [jU];simp only [hf,m,l,p,h1,if_true,Ds,h3,DE]
end
end Go.Pv
namespace Go.Pv
def aO(E:Env)(C:FuncId->Y14->Heap->(IV->Heap->Prop)->Prop):Prop:= ∀g xs h Q,C g xs h Q->aL E g xs h Q
def noC:FuncId->Y14->Heap->(IV->Heap->Prop)->Prop:=fun _ _ _ _=>False
def aV(g:FuncId)(k:Y14->Heap->(IV->Heap->Prop)->Prop)(C:FuncId->Y14->Heap->(IV->Heap->Prop)->Prop):FuncId->Y14->Heap->(IV->Heap->Prop)->Prop:=
 fun j xs h K=>match Nat.beq j g with
  |true=>k xs h K
  |false=>C j xs h K
def cS:Nat->Nat:=fun _=>0
def bK:Nat->Option Inv':=fun _=>none
theorem gX(E:Env):aO E noC:=fun _ _ _ _ h=>h.elim
theorem aF{E:Env}{g:FuncId}{k:Y14->Heap->(IV->Heap->Prop)->Prop}{C:FuncId->Y14->Heap->(IV->Heap->Prop)->Prop}(m: ∀xs h Q,k xs h Q->aL E g xs h Q)(hC:aO E C):aO E (aV g k C):=by
 intro l xs h Q j;unfold aV at j;split at j
 ·rename_i e;obtain rfl:=AN e;exact m xs h Q j
 ·exact hC l xs h Q j
theorem aB{b:Bool}{A B:Prop}(g:b=true->A)(j:b=false->B):aI b A B:=by
 cases b with
 |true=>exact g rfl
 |false=>exact j rfl
theorem aA{b:Bool}{A:Prop}(j:b=true)(g:A):aC b A:=by subst j;exact g
theorem cD{Q:IV->Heap->Prop}{v g:IV}{h:Heap}(j:Q v h)(e:v=g):Q g h:=e▸j
theorem d6K{A B:Prop}(e:A=B)(g:B):A:=e▸g
theorem aN{E:Env}{C:FuncId->Y14->Heap->(IV->Heap->Prop)->Prop}(hC:aO E C){f:FuncId}{U:Nat->Nat}{IL IC:Nat->Option Inv'}{args:Y14}{h:Heap}{Q:IV->Heap->Prop}{g:Prop}
 (e:dF (aR C) E f U IL IC args h Q=g) (hk:g):aL E f args h Q:=a5N hC (d6K e hk)
end Go.Pv
namespace Go.Pv
def atC(g:List (Nat×TV))(j:List (Nat×Y14))(h:Heap):Inv':= .one ⟨Unit,fun _=>g,fun _=>j,fun _=>h,fun _=>True,fun _=>0,fun _ _=>some ()⟩
def oE(n:Nat)(v:Inv'):Nat->Option Inv':=fun k=>match Nat.beq k n with
 |true=>some v
 |false=>none
def vC(n:Nat)(v:Inv')(r:Nat->Option Inv'):Nat->Option Inv':=fun k=>match Nat.beq k n with
 |true=>some v
 |false=>r k
def atP(p:Prop)(g:List (Nat×TV))(j:List (Nat×Y14))(h:Heap):Inv':= .one ⟨Unit,fun _=>g,fun _=>j,fun _=>h,fun _=>p,fun _=>0,fun _ _=>some ()⟩
def eA(X:Type)(g:X->List (Nat×TV))(j:X->List (Nat×Y14))(m:X->Heap)(cond:X->Prop)(l:X->Nat):Inv':= .ex ⟨X,g,j,m,cond,l,fun _ _=>none⟩
theorem bT{k:IntKind}{l:Y12}{i:Nat}{K:Int->Prop}(h:i<l.length)(g:K l[i]):aG k (l.map (IV.int k)) i K:=by
 unfold aG
 rw [BL,AA h];simpa using g
def icS(r:Nat->Option Inv'):Nat->Option Inv':=vC b1J (atC [] [] Heap.empty) r
theorem bL{a b:Nat} :Nat.beq a b=true ↔ a=b:=⟨AN,fun h=>by subst h;exact IW a⟩
theorem Rh{a b:Nat} :Nat.beq a b=false ↔ a≠b:=by rw [<-Bool.not_eq_true,bL]
theorem bC{k:IntKind} : ∀{l:Y12},aP (l.map (IV.int k))=true
 | []=>rfl
 |_::r=>by simp only [BP,aP,bG,BC];exact bC
theorem eO: ∀{l m:Y14},aP (l++m)=(aP l&&aP m)
 | [],m=>by simp [aP]
 |x::r,m=>by simp only [CO,aP,eO,Bool.and_assoc]
end Go.Pv
end
section
namespace Go.Pv
open Go.ChangeShapes Go.RowKit
def M0(W:World):Meta where
 nid:=0
 loc:=fun _=>none
 tip:=fun _=>0
 cur:=fun _=>(0,0)
 im:=fun b o=>W.cell? ⟨b,o,none⟩
 bsz:=fun b=>match W.heap[b]? with|some (.cells c _ _)=>some c.size|_=>none
theorem e2D(W:World):Inv (M0 W) Heap.empty W where
 nid:=rfl
 fresh:=fun id _=>by simp [Heap.empty,Heap.get,PT.get]
 freshl:=fun _ _=>rfl
 cells:=fun id cs e=>by simp [Heap.empty,Heap.get,PT.get]at e
 tips:=fun id n e=>by simp [Heap.empty,Heap.get,PT.get]at e
 maps:=fun id j e=>by simp [Heap.empty,Heap.get,PT.get]at e
 im:=fun b o v e=>e
 bsz:=fun b n e=>by
  simp only [M0]at e;split at e
  ·rename_i h;exact cP h
  ·simp at e
 one:=fun id g b e _=>by simp [Wb,Heap.empty,Heap.get,PT.get]at e
 resv:=fun id e=>by simp [Heap.empty,Heap.get,PT.get]at e
theorem a1M{E:Env}(m:E.P.follows .mixedOrders=true)(j:B6 E.P=true){f:FuncId}{xs:Y14}{v:IV}(p:eJ E i f xs Heap.empty=some (v,h))
  (W:World) {rs:List Value} (hG:Gu E (M0 W)) (hv:cO (M0 W) xs rs):
  Calls E.P f rs.toArray W fun e g=> ∃r M',e= .returned r/\VR M' v r/\Below W.heap.size W g:=by
 refine((Hy m j i f xs Heap.empty v h p).2 (M0 W) W rs (e2D W) hG hv).mono ?_;rintro e g ⟨r,M',h1,h2,h3,h4⟩;exact⟨r,M',h1,h2,h4.os,h4.tape,h4.output,h4.size,fun k l=>(h4.keep k l (by rintro⟨id,e⟩;simp [Wb,Heap.empty,Heap.get,PT.get]at e)).1⟩
theorem b0S{E:Env}(l:E.P.follows .mixedOrders=true)(j:B6 E.P=true){f:FuncId}{xs:Y14}(m:eJ E i f xs Heap.empty=some (.bool true,h))
  (W:World) {rs:List Value} (hG:Gu E (M0 W)) (hv:cO (M0 W) xs rs):
  Calls E.P f rs.toArray W fun e g=>e= .returned (.bool true)/\Below W.heap.size W g:=by
 refine(a1M l j m W hG hv).mono ?_;rintro e g ⟨r,M',h1,h2,h3⟩
 cases h2
 exact⟨h1,h3⟩
section
variable {H:Type} {enc:TypeId×Value->H} {P:Program}
theorem uY(r:laidOutB P=true){W l:World}(m:Below W.heap.size W l)(sp:Nat->Bool):
  ∀{ts:List TypeId}{vs:List Value}{j:List (DataW H)}{ps:List MemPlace},ts.all (fun t=>P.readableRec t&&decide (t<P.types.size))=true->DataW.TrodAll enc P W 0 (fun _=>true) true ts vs j ps->
   (∀p∈ps,p.block<W.heap.size)->(∀p∈ps,sp p.block=true)->DataW.TrodAll enc P l 0 sp true ts vs j ps
 | [],vs,j,ps,_,h,_,_=>by
  obtain⟨rfl,rfl,rfl⟩:=trodAll_nil h;exact trodAll_mk0
 |t::ts,vs,j,ps,ht,h,hlt,hsp=>by
  obtain⟨v,z,d,y,p,q,rfl,rfl,rfl,h1,h2⟩:=trodAll_cons h;simp only [EL,AD,decide_eq_true_eq]at ht;exact⟨p,q,WideElems.Trod_stays r ht.1.1 ht.1.2 h1 (fun x g=>m.same (hlt x (by simp [g]))) (fun x g=>hsp x (by simp [g])),
   uY r m sp (by simpa using ht.2) h2 (fun x g=>hlt x (by simp [g])) (fun x g=>hsp x (by simp [g])),rfl⟩
theorem W8{f:Func}{s:ChangeSpec}{apart z j y:Bool}{W D:World}{args:Array Value}{r L:List (DataW H)}{g:List MemPlace}{tb:TypeId}
  (hl:laidOutB P=true) (hrd:f.params.toList.all (fun t=>P.readableRec t&&decide (t<P.types.size))=true) (hrt:f.resultTypes= #[tb]) (hub:P.underlying tb=some .bool)
  (hW:DataW.Whole enc P f.params.toList s.vars apart W args.toList r L g) (hvars:s.vars=[]) (hb:Below W.heap.size W D)
  (hres:(s.fn H (r++L)).results=[.lit (.bool true)]) (hargs:(s.fn H (r++L)).args=r) (hvs:(s.fn H (r++L)).vars=[]):
  s.post enc P f apart z j y W args (.bool true) D:=by
 have l: ∀p∈g,p.block<W.heap.size:=fun p m=>hW.lt p m
 have O:=hW;obtain⟨p,q,Z,X,K,hz,hn⟩:=O;rw [hvars]at X;obtain⟨rfl,rfl⟩:=trodVars_none X;rw [DQ]at K;subst K;have r1: ∀(b:Nat)(sp:Nat->Bool)(hd:Bool),DataW.TrodAll enc P D b sp hd f.resultTypes.toList ((Value.bool true).resultList f.resultTypes.size) (s.fn H (r++ [])).results []:=by
  intro b sp hd;rw [hres,hrt];exact trodAll_mk1 (shut_bool hub true)
 have V: ∀sp:Nat->Bool,(∀p∈g,sp p.block=true)->DataW.TrodAll enc P D 0 sp true f.params.toList args.toList (s.fn H (r++ [])).args g:=by
  intro sp R;rw [hargs];exact uY hl hb sp hrd Z l R
 have Y: ∀sp:Nat->Bool,DataW.TrodVars enc P D sp s.vars (s.fn H (r++ [])).vars []:=by
  intro sp;rw [hvs,hvars];rfl
 refine⟨r,[],g,[],g,[],hW,r1 _ _ _,V _ (fun p m=>by simpa using l p m),Y _,World.keptBut_mono (fun p m=>⟨m,by simp [m]⟩) (hb.frame (· ∈g)),fun _=>⟨ok_one hrt rfl (okWide_bool_mk hub true),_,_,([]++g)++ [],
  ⟨[]++g,[],trodAll_append (V _ (fun _ _=>rfl)) (r1 _ _ _),Y _,rfl,?_,?_⟩,?_⟩⟩
 ·intro b A m;have G:MemPlace.cell b A∈g:=by simpa using m
  rw [hb.frozen (p:=⟨b,A,none⟩) (l _ G)];exact hz b A G
 ·intro ha;simpa using hn ha
 ·intro p m _;simpa using m
end
end Go.Pv
end
section
namespace Go.Pv
section
variable {H:Type}
def dl(g:DataW H->Option (Y14)):List (DataW H)->Option (Y14)
 | []=>some []
 |d::r=>match g d,dl g r with
  |some x,some y=>some (x++y)
  |_,_=>none
def dfs(P:Program)(g:TypeId->DataW H->Option (Y14)):Nat->List Field->List (DataW H)->Option (Y14)
 |off,[],[]=>some []
 |off,f::fs,d::r=>if f.offset=off then match g f.type d,dfs P g (off+P.cellsOf f.type) fs r with
   |some x,some y=>if x.length=P.cellsOf f.type then some (x++y)else none
   |_,_=>none
  else none
 |_,_,_=>none
def eT(P:Program):Nat->TypeId->DataW H->Option (Y14)
 |0,_,_=>none
 |n+1,t,d=>
  match P.underlying t,d with
  |some .bool,.lit (.bool b)=>some [.bool b]
  |some (.int _),.lit (.int k z)=>some [.int k z]
  |some .string,.lit (.string l)=>some [.str l]
  |some (.pointer _),.nil=>some [.nilptr]
  |some (.slice e),.nil=>some [.vslice none 0 0 (P.cellsOf e) []]
  |some (.map ..),.nil=>some [.nilmap]
  |some (.slice e),.slice elems _=>match dl (eT P n e) elems with
   |some l=>if 0<P.cellsOf e/\l.length=elems.length*P.cellsOf e then some [.vslice none 0 elems.length (P.cellsOf e) l]else none
   |none=>none
  |some (.struct fs),.agg ds=>match dfs P (eT P n) 0 fs.toList ds with
   |some l=>if l.length=P.cellsOf t then some l else none
   |none=>none
  |some (.array m e),.agg ds=>match dl (eT P n e) ds with
   |some l=>if l.length=P.cellsOf t/\l.length=m*P.cellsOf e/\ds.length=m/\0<P.cellsOf e then some l else none
   |none=>none
  |_,_=>none
end
theorem qQ{M:Meta}{x:IV}{r:Value}(h:VR M x r)(g:isCell x=true):eG M [x] [r]:=eG.cons h g (eG.nil M)
section
variable {H:Type} {enc:TypeId×Value->H} {P:Program} {W:World} {sp:Nat->Bool} {hd:Bool}
theorem nJ{α β:Type}{f:α->Option β}{x:α}{l:List α}{r:List β}(h:(x::l).mapM f=some r): ∃b g,f x=some b/\l.mapM f=some g/\r=b::g:=by
 simp only [IF,Option.bind_eq_bind,CH,Option.pure_def,AB]at h;obtain⟨b,j,g,m,rfl⟩:=h;exact⟨b,g,j,m,rfl⟩
theorem pO{α β:Type}{f:α->Option β}{r:List β}(h:([]:List α).mapM f=some r):r=[]:=by
 simpa [eq_comm]using h
theorem b8J{g:DataW H->Option (Y14)}{d:DataW H}{r:List (DataW H)}{l:Y14}(h:dl g (d::r)=some l): ∃x y,g d=some x/\dl g r=some y/\l=x++y:=by
 simp only [dl]at h;split at h
 ·rename_i x y h1 h2;exact⟨x,y,h1,h2,(BF h).symm⟩
 ·cases h
theorem zW{F:List Value->Option (DataW H×List MemPlace)}{g:DataW H->Option (Y14)}(z: ∀cs d ps xs,F cs=some (d,ps)->g d=some xs->eG (M0 W) xs cs)
  {rd:Nat->Option (List Value)} : ∀(m:List Nat)(j:List (DataW H×List MemPlace))(l:Y14),m.mapM (fun i=>(rd i).bind F)=some j->dl g (j.map (·.1))=some l->
  ∃p:List (List Value),m.mapM rd=some p/\eG (M0 W) l p.flatten
 | [],j,l,h,hl=>by
  obtain rfl:=pO h;simp only [DJ,dl,AB]at hl;subst hl;exact⟨[],rfl,eG.nil _⟩
 |i::m,j,l,h,hl=>by
  obtain⟨b,L,A,D,rfl⟩:=nJ h;simp only [BP]at hl;obtain⟨x,y,G,K,rfl⟩:=b8J hl;obtain⟨p,h1,h2⟩:=zW z m L y D K;obtain⟨cs,r,q⟩:=CH.1 A;refine⟨cs::p,by simp [r,h1],?_⟩;simp only [FZ];exact(z cs b.1 b.2 x q G).append h2
theorem jS{α β:Type}{f:α->Option β} : ∀{l:List α}{r:List β},l.mapM f=some r->l.length=r.length/\∀(i:Nat)(a:α),l[i]?=some a-> ∃b,r[i]?=some b/\f a=some b
 | [],r,h=>by obtain rfl:=pO h;exact⟨rfl,fun i a e=>by simp at e⟩
 |x::l,r,h=>by
  obtain⟨b,m,g,j,rfl⟩:=nJ h;obtain⟨h1,h2⟩:=jS j;refine⟨by simp [h1],fun i a e=>?_⟩
  cases i with
  |zero=>simp at e;subst e;exact⟨b,rfl,g⟩
  |succ i=>exact h2 i a (by simpa using e)
theorem sS{α:Type}{sz:Nat} : ∀{g:List (List α)},(∀v∈g,v.length=sz)-> ∀(i j:Nat)(v:List α),g[i]?=some v->j<sz->g.flatten[i*sz+j]?=v[j]?
 | [],_,i,j,v,h,_=>by simp at h
 |u::g,hl,0,j,v,h,hj=>by
  simp at h;subst h;simp only [FZ,EG,AX];rw [BJ (by rw [hl u JH];exact hj)]
 |u::g,hl,i+1,j,v,h,hj=>by
  simp only [FZ];have l:=hl u JH;rw [BA (by rw [l];rw [DN];omega),l];have:(i+1)*sz+j-sz=i*sz+j:=by rw [DN];omega
  rw [this];exact sS (fun x m=>hl x (by simp [m])) i j v (by simpa using h) hj
theorem sT{α:Type}{sz:Nat} : ∀{g:List (List α)},(∀v∈g,v.length=sz)->g.flatten.length=g.length*sz
 | [],_=>JH
 |u::g,hl=>by
  simp only [FZ,AJ,AW];rw [hl u JH,sT (fun x j=>hl x (by simp [j])),DN,Nat.add_comm]
theorem a5K{a:Addr}{sz n:Nat}{g:List (List Value)}(y:0<sz)(h:(List.range n).mapM (fun i=>W.cells? 0 (a.add (i*sz)) sz)=some g):
  g.length=n/\g.flatten.length=n*sz/\(0<n->a.spot=none)/\∀i,i<n*sz-> ∃v,g.flatten[i]?=some v/\W.cell? ⟨a.block,a.off+i,none⟩=some v:=by
 obtain⟨h1,h2⟩:=jS h;simp only [HJ]at h1;have p: ∀v∈g,v.length=sz:=by
  intro v q;obtain⟨i,r,rfl⟩:=GS q;obtain⟨b,D,G⟩:=h2 i i (by simp [h1,r]);rw [AA r]at D;obtain rfl:=BF D;exact(World.cells?_some G).2.1
 have A:=sT p;rw [<-h1]at A;have l: ∀i j,i<n->j<sz-> ∃v,g.flatten[i*sz+j]?=some v/\W.cell? ((a.add (i*sz)).add j)=some v:=by
  intro i j r O;obtain⟨b,D,G⟩:=h2 i i (by simp [r]);obtain⟨_,L,V⟩:=World.cells?_some G;refine⟨b[j]'JF,?_,?_⟩
  ·rw [sS p i j b D O,AA]
  ·rw [V j O,AA]
 have m:0<n->a.spot=none:=by
  intro K;obtain⟨v,_,q⟩:=l 0 0 K y;simp only [EG,Addr.add,if_true]at q
  cases hs:a.spot with
  |none=>rfl
  |some s=>
   unfold World.cell? at q;rw [hs]at q;simp at q;split at q<;>simp at q
 refine⟨h1.symm,A,m,fun i r=>?_⟩;have K:0<n:=by
  rcases IY n with e|e
  ·subst e;simp at r
  ·exact e
 have z:i/sz<n:=(GH y).2 r;obtain⟨v,R,L⟩:=l (i/sz) (i%sz) z (HM _ y);have e:i/sz*sz+i%sz=i:=by rw [HV];exact GK i sz
 rw [e]at R;refine⟨v,R,?_⟩;obtain⟨b,o,s⟩:=a;have:s=none:=m K;subst this;rw [dG,dG,EV,e]at L;exact L
theorem c6V{b o:Nat}{v:Value}(h:W.cell? ⟨b,o,none⟩=some v): ∃n,(M0 W).bsz b=some n/\o<n:=by
 unfold World.cell? at h;simp only [CV,AU,if_false]at h;simp only [M0];split at h
 ·rename_i c j l g;rw [g];exact⟨c.size,rfl,(HG.1 h).1⟩
 ·simp at h
theorem a5P{g:TypeId->DataW H->Option (Y14)}{F:TypeId->List Value->Option (DataW H×List MemPlace)}(q: ∀t cs d ps xs,F t cs=some (d,ps)->g t d=some xs->eG (M0 W) xs cs){cs:List Value} :
  ∀(p:List Field)(j:Nat)(xs:List (DataW H×List MemPlace))(l:Y14),p.mapM (fun f=>F f.type ((cs.drop f.offset).take (P.cellsOf f.type)))=some xs->dfs P g j p (xs.map (·.1))=some l->
  eG (M0 W) l ((cs.drop j).take l.length)
 | [],j,xs,l,h,hl=>by
  obtain rfl:=pO h;simp only [DJ,dfs,AB]at hl;subst hl;exact eG.nil _
 |f::p,j,xs,l,h,hl=>by
  obtain⟨b,K,r,A,rfl⟩:=nJ h;simp only [BP,dfs]at hl;split at hl
  case isFalse=>cases hl
  rename_i z;split at hl
  case h_2=>cases hl
  rename_i x y D G;split at hl
  case isFalse=>cases hl
  rename_i m;obtain rfl:=(BF hl).symm;have h1:=q _ _ b.1 b.2 x r D;have h2:=a5P q p (j+P.cellsOf f.type) K y A G;rw [z]at h1;have e:(cs.drop j).take (x++y).length=(cs.drop j).take (P.cellsOf f.type)++(cs.drop (j+P.cellsOf f.type)).take y.length:=by
   rw [AJ,m,List.take_add,List.drop_drop]
  rw [e];exact h1.append h2
theorem Ku(a7: ∀b,sp b=true): ∀(p n:Nat)(t:TypeId)(cs:List Value)(d:DataW H)(ps:List MemPlace)(xs:Y14),DataW.trod enc P W 0 sp hd p t cs=some (d,ps)->eT P n t d=some xs->eG (M0 W) xs cs
 |0,_,_,_,_,_,_,h,_=>by simp [DataW.trod]at h
 |p+1,0,_,_,_,_,_,_,hx=>by simp [eT]at hx
 |p+1,n+1,t,vs,d,ps,xs,h,hx=>by
  have ih:=Ku a7 p n;simp only [DataW.trod]at h;simp only [eT]at hx;split at h
  ·rename_i j;obtain⟨rfl,rfl⟩:=CL (Option.some.inj h);simp only [j,AB]at hx;subst hx;exact qQ (.bool _) rfl
  ·rename_i j;split at h
   case isFalse=>cases h
   rename_i hk;obtain⟨rfl,rfl⟩:=CL (Option.some.inj h);simp only [j,AB]at hx;subst hx;rw [hk.1];exact qQ (.int _ _) rfl
  ·rename_i j;split at h
   case isFalse=>cases h
   obtain⟨rfl,rfl⟩:=CL (Option.some.inj h);simp only [j]at hx;cases hx
  ·rename_i j;split at h
   case isFalse=>cases h
   obtain⟨rfl,rfl⟩:=CL (Option.some.inj h);simp only [j,AB]at hx;subst hx;exact qQ (.str _) rfl
  ·rename_i j;obtain⟨rfl,rfl⟩:=CL (Option.some.inj h);simp only [j,AB]at hx;subst hx;exact qQ .nilptr rfl
  ·rename_i j;obtain⟨x,c1,b6⟩:=AE.1 h;obtain⟨rfl,rfl⟩:=CL b6;simp only [j]at hx;cases hx
  ·rename_i j;obtain⟨rfl,rfl⟩:=CL (Option.some.inj h);simp only [j,AB]at hx;subst hx;exact qQ .vnil rfl
  ·rename_i e a len cap j;split at h
   case isFalse=>cases h
   rename_i a0;obtain⟨G,a1,b1⟩:=CH.1 h;obtain⟨b7,a6,b5⟩:=AE.1 b1;obtain⟨rfl,rfl⟩:=CL b5;simp only [j]at hx;split at hx
   case h_2=>cases hx
   rename_i l hl;split at hx
   case isFalse=>cases hx
   rename_i O;obtain rfl:=(Option.some.inj hx).symm;obtain⟨R,a3,D⟩:=zW (F:=DataW.trod enc P W 0 sp hd p e) (g:=eT P n e) (fun cs d ps xs q1 q2=>ih e cs d ps xs q1 q2) _ G l a1 hl;obtain⟨g1,g2,g3,g4⟩:=a5K O.1 a3;have A:G.length=len:=by
    have:=(jS a1).1;simpa using this.symm
   rw [if_pos (a7 _)]at a6;have a2:cap=0\/ (a.spot=none/\∃m,(M0 W).bsz a.block=some m/\a.off+cap*P.cellsOf e<=m):=by
    rcases IY cap with h0|h0
    ·exact .inl h0
    right
    have K: ∀i,i<cap-> ∃vs,W.cells? 0 (a.add (i*P.cellsOf e)) (P.cellsOf e)=some vs:=by
     intro i V;rcases BB i len with q|q
     ·obtain⟨b,_,X⟩:=(jS a1).2 i i (by simp [q]);obtain⟨vs,z,_⟩:=CH.1 X;exact⟨vs,z⟩
     ·obtain⟨b,_,X⟩:=(jS a6).2 (i-len) (i-len) (by rw [FP JF]);obtain⟨vs,z,_⟩:=CH.1 X;rw [show len+(i-len)=i by omega]at z;exact⟨vs,z⟩
    have L:a.spot=none:=by
     obtain⟨vs,z⟩:=K 0 h0;obtain⟨_,q2,q3⟩:=World.cells?_some z;have:=q3 0 O.1;rw [AA JF]at this;simp only [EG,Addr.add,if_true]at this
     cases hs:a.spot with
     |none=>rfl
     |some s=>
      unfold World.cell? at this;rw [hs]at this;simp at this;split at this<;>simp at this
    refine⟨L,?_⟩;obtain⟨vs,z⟩:=K (cap-1) JF;obtain⟨_,q2,q3⟩:=World.cells?_some z;have:=q3 (P.cellsOf e-1) JF;rw [AA JF]at this;obtain⟨ab,ao,b9⟩:=a;simp only at L;subst L;rw [dG,dG]at this;obtain⟨m,b4,c0⟩:=c6V this;refine⟨m,b4,?_⟩;have e1:cap*P.cellsOf e=(cap-1)*P.cellsOf e+P.cellsOf e:=by
     rw [<-Nat.succ_mul];congr 1;omega
    show ao+cap*P.cellsOf e<=m;omega
   refine qQ ?_ rfl;rw [BG,A];rw [BG,A]at O;refine .vslice a (fun i=>R.flatten.getD i undef) O.2 a0.2.1 a2 ?_ ?_ D.2 JH (fun _=> .inl rfl)
   ·intro i V;rw [O.2]at V;obtain⟨v,p1,p2⟩:=g4 i V;simp only [M0,AC,p1,p2,FI]
   ·intro i V;have a5:i<R.flatten.length:=by rw [<-D.len];exact V
    have:=D.1.2 i V a5;simp only [AC,AA a5,FI];exact this
  ·rename_i cs' fs j;split at h
   case isFalse=>cases h
   rename_i A;obtain⟨ys,a4,r⟩:=AE.1 h;obtain⟨rfl,rfl⟩:=CL r;simp only [j]at hx;split at hx
   case h_2=>cases hx
   rename_i l hl;split at hx
   case isFalse=>cases hx
   rename_i b3;obtain rfl:=(Option.some.inj hx).symm;have:=a5P (W:=W) (F:=fun t cs=>DataW.trod enc P W 0 sp hd p t cs) (g:=eT P n) (fun t cs d ps xs q1 q2=>ih t cs d ps xs q1 q2) fs.toList 0 ys xs a4 hl;rw [CZ,b3,<-A,DH]at this;exact this
  ·rename_i vs xo cs' m e j;split at h
   case isFalse=>cases h
   obtain⟨ys,a4,r⟩:=AE.1 h;obtain⟨rfl,rfl⟩:=CL r;simp only [j]at hx;split at hx
   case h_2=>cases hx
   rename_i l hl;split at hx
   case isFalse=>cases hx
   rename_i hc;obtain rfl:=(Option.some.inj hx).symm;obtain⟨R,a3,D⟩:=zW (F:=DataW.trod enc P W 0 sp hd p e) (g:=eT P n e) (rd:=fun i=>some ((vs.drop (i*P.cellsOf e)).take (P.cellsOf e))) (fun cs d ps xs q1 q2=>ih e cs d ps xs q1 q2) _ ys xs (by simpa using a4) hl;have a9:vs.length=m*P.cellsOf e:=JF;have b2:R.flatten=vs:=by
    obtain⟨g1,g2⟩:=jS a3;simp only [HJ]at g1;have a8: ∀v∈R,v.length=P.cellsOf e:=by
     intro v hv;obtain⟨i,V,rfl⟩:=GS hv;obtain⟨b,X,Z⟩:=g2 i i (by simp [g1,V]);rw [AA V]at X;obtain rfl:=Option.some.inj X;have:=Option.some.inj Z;rw [<-this];simp only [AR,DM,a9];have:i*P.cellsOf e+P.cellsOf e<=m*P.cellsOf e:=by
      rw [<-Nat.succ_mul];exact BZ _ JF
     omega
    refine CY (fun k=>?_);rcases BB k (m*P.cellsOf e)with hk|hk
    ·have b0:k/P.cellsOf e<m:=(GH hc.2.2.2).2 hk;obtain⟨b,X,Z⟩:=g2 (k/P.cellsOf e) (k/P.cellsOf e) (by rw [FP b0]);have Y:=HM k hc.2.2.2;have e1:k/P.cellsOf e*P.cellsOf e+k%P.cellsOf e=k:=by rw [HV];exact GK k _
     have q:=sS a8 (k/P.cellsOf e) (k%P.cellsOf e) b X Y;rw [e1]at q;rw [q,<-Option.some.inj Z,DG,if_pos Y,EF,e1]
    ·rw [BH (by rw [sT a8,<-g1];exact hk),BH JF]
   rw [b2]at D;exact D
  ·rename_i j;obtain⟨rfl,rfl⟩:=CL (Option.some.inj h);simp only [j]at hx;cases hx
  ·rename_i j;split at h
   ·obtain⟨rfl,rfl⟩:=CL (Option.some.inj h);simp only [j]at hx;cases hx
   ·obtain⟨y,_,r⟩:=AE.1 h;obtain⟨rfl,rfl⟩:=CL r;simp only [j]at hx;cases hx
   ·cases h
  ·rename_i j;obtain⟨rfl,rfl⟩:=CL (Option.some.inj h);simp only [j,AB]at hx;subst hx;exact qQ .nilmap rfl
  ·rename_i j;split at h
   case h_2=>cases h
   split at h
   case isFalse=>cases h
   obtain⟨y,_,r⟩:=CH.1 h;split at r
   case isFalse=>cases r
   obtain⟨rfl,rfl⟩:=CL (Option.some.inj r);simp only [j]at hx;cases hx
  all_goals first
   | (rename_i j;obtain⟨rfl,rfl⟩:=CL (Option.some.inj h);simp only [j]at hx;cases hx)
   | (rename_i j;split at h; (obtain⟨rfl,rfl⟩:=CL (Option.some.inj h);simp only [j]at hx;cases hx);cases h)
   |cases h
def a3L(P:Program)(n:Nat)(t:TypeId)(d:DataW H):Option IV:=
 match eT P n t d with
 |some xs=>match P.underlying t with
  |some (.struct _)=>some (.agg xs)
  |some (.array ..)=>some (.agg xs)
  |_=>match xs with
   | [x]=>some x
   |_=>none
 |none=>none
theorem Pa{base:Nat}{t:TypeId}{v:Value}(h:Cell.okWide P W .any base t v):v.cells= #[v]:=by
 cases v<;>first
  |rfl
  | (exfalso;unfold Cell.okWide at h;split at h<;>(first| (rename_i h1 h2;cases h2)| (unfold Cell.ok at h;split at h<;>first| (rename_i h1 h2;cases h2)|exact h)))
theorem c6Q{base n:Nat}{t:TypeId}{v:Value}{d:DataW H}{p:List MemPlace}{x:IV}(g:Value.okWide P W .any base t v)(h:DataW.Trod enc P W 0 (fun _=>true) true t v d p)(j:a3L P n t d=some x):VR (M0 W) x v:=by
 obtain⟨q,hf⟩:=h;unfold a3L at j;split at j
 case h_2=>cases j
 rename_i xs G;have z:=Ku (fun _=>rfl) q n t _ d p xs hf G;unfold Value.okWide at g;split at j
 ·rename_i K l;simp only [l]at g;obtain⟨cs,rfl,h1,h2⟩:=g;obtain rfl:=(BF j).symm;simpa using iJ (rc:=cs.toList) z
 ·rename_i m e l;simp only [l]at g;obtain⟨cs,rfl,h1,h2⟩:=g;obtain rfl:=(BF j).symm;simpa using iJ (rc:=cs.toList) z
 ·rename_i A D;split at j
  case h_2=>cases j
  rename_i y;obtain rfl:=(BF j).symm;split at g
  ·rename_i K l;exact absurd l (A K)
  ·rename_i m e l;exact absurd l (D m e)
  ·rw [Pa g]at z;obtain⟨r,rs,e,h1,_⟩:=z.1.uncons;simp at e;rw [e.1];exact h1
end
end Go.Pv
end
section
namespace Go.Pv
open Go.ChangeShapes Go.RowKit
theorem a1N{E:Env}(m:E.P.follows .mixedOrders=true)(j:B6 E.P=true){f:FuncId}{xs:Y14}(l:aL E f xs Heap.empty fun v _=>v= .bool true)
  (W:World) {rs:List Value} (hG:Gu E (M0 W)) (hv:cO (M0 W) xs rs):
  Calls E.P f rs.toArray W fun e g=>e= .returned (.bool true)/\Below W.heap.size W g:=by
 obtain⟨n,v,h',p,rfl⟩:=l;exact b0S m j p W hG hv
section
variable {P:Program} {W:World} {base:Nat} {t:TypeId} {v:Value}
theorem uD{k:IntKind}(g:P.underlying t=some (.int k))(h:Value.okWide P W .any base t v): ∃n,v= .int k n/\k.has n:=by
 unfold Value.okWide at h;simp only [g]at h
 cases v<;>simp [Cell.okWide,Cell.ok,g]at h
 rename_i j n;obtain⟨rfl,h2⟩:=h;exact⟨n,rfl,h2⟩
theorem qW{n:Int}(h:IntKind.i64.has n): -9223372036854775808<=n/\n<=9223372036854775807:=by
 simpa [IntKind.has,IntKind.min,IntKind.max,IntKind.bits,IntKind.signed]using h
end
end Go.Pv
end
section
namespace Go.Pv
mutual
inductive OkC(P:Program):TypeId->Y14->Prop
 |bool {t b:_} :P.underlying t=some .bool->OkC P t [.bool b]
 |int {t k z:_} :P.underlying t=some (.int k)->k.has z->OkC P t [.int k z]
 |str {t:_} {l:Y11} :P.underlying t=some .string->l.length<=maxLen->OkC P t [.str l]
 |slice {t e n cs:_} :P.underlying t=some (.slice e)->n<=maxLen->OkE P e n cs->OkC P t [.vslice none 0 n (P.cellsOf e) cs]
 |struct {t fs xs:_} :P.underlying t=some (.struct fs)->OkF P fs.toList xs->OkC P t xs
 |array {t m e xs:_} :P.underlying t=some (.array m e)->OkE P e m xs->OkC P t xs
inductive OkE(P:Program):TypeId->Nat->Y14->Prop
 |nil {e:_} :OkE P e 0 []
 |cons {e n ys xs:_} :OkC P e ys->OkE P e n xs->OkE P e (n+1) (ys++xs)
inductive OkF(P:Program):List Field->Y14->Prop
 |nil:OkF P [] []
 |cons {f fs ys xs:_} :OkC P f.type ys->OkF P fs xs->OkF P (f::fs) (ys++xs)
end
def R3(P:Program)(g:TypeId->Bool):Nat->List Field->Y10
 |off,[]=>some off
 |off,f::fs=>if f.offset=off/\g f.type=true then R3 P g (off+P.cellsOf f.type) fs else none
def oM(P:Program):Nat->TypeId->Bool
 |0,_=>false
 |n+1,t=>match P.underlying t with
  |some .bool=>P.cellsOf t==1
  |some (.int _)=>P.cellsOf t==1
  |some .string=>P.cellsOf t==1
  |some (.slice e)=>P.cellsOf t==1&&decide (0<P.cellsOf e) &&oM P n e
  |some (.struct fs)=>R3 P (oM P n) 0 fs.toList==some (P.cellsOf t)
  |some (.array m e)=>decide (0<P.cellsOf e) &&oM P n e&& (m*P.cellsOf e==P.cellsOf t)
  |_=>false
section
variable {H:Type} {enc:TypeId×Value->H} {P:Program} {W:World} {base:Nat} {sp:Nat->Bool} {hd:Bool}
theorem B0{α β:Type}{f:α->Option β} : ∀{l:List α}{r:List β},l.mapM f=some r-> ∀y∈r,∃x∈l,f x=some y
 | [],r,h,y,g=>by rw [pO h]at g;cases g
 |a::l,r,h,y,g=>by
  obtain⟨b,m,h1,h2,rfl⟩:=nJ h;rcases CD.1 g with rfl|g
  ·exact⟨a,AY,h1⟩
  ·obtain⟨x,j,e⟩:=B0 h2 y g;exact⟨x,BK _ j,e⟩
theorem a5Q{g:DataW H->Option (Y14)}{e:TypeId}{sz:Nat} : ∀{r:List (DataW H)},(∀d∈r,∃j,g d=some j/\OkC P e j/\j.length=sz)->
  ∃l,dl g r=some l/\OkE P e r.length l/\l.length=r.length*sz
 | [],_=>⟨[],rfl,.nil,JH⟩
 |d::r,h=>by
  obtain⟨j,h1,h2,h3⟩:=h d AY;obtain⟨l,k1,k2,k3⟩:=a5Q (r:=r) fun x m=>h x (BK _ m)
  refine⟨j++l,by simp [dl,h1,k1],.cons h2 k2,?_⟩;rw [AJ,h3,k3,AW,DN,Nat.add_comm]
theorem Uj{g:TypeId->DataW H->Option (Y14)}{pl:TypeId->Bool}{F:Field->Option (DataW H×List MemPlace)}
  (hF: ∀f d ps,pl f.type=true->F f=some (d,ps)-> ∃p,g f.type d=some p/\OkC P f.type p/\p.length=P.cellsOf f.type):
  ∀{m:List Field}{j l:Nat}{xs:List (DataW H×List MemPlace)},R3 P pl j m=some l->m.mapM F=some xs-> ∃q,dfs P g j m (xs.map (·.1))=some q/\OkF P m q/\j+q.length=l
 | [],j,l,xs,h,hm=>by
  rw [pO hm];exact⟨[],rfl,.nil,by simpa [R3]using h⟩
 |f::m,j,l,xs,h,hm=>by
  obtain⟨b,D,h1,h2,rfl⟩:=nJ hm;unfold R3 at h;split at h
  case isFalse=>cases h
  rename_i r;obtain⟨p,k1,k2,k3⟩:=hF f b.1 b.2 r.2 h1;obtain⟨q,y,z,A⟩:=Uj hF h h2;refine⟨p++q,?_,.cons k2 z,?_⟩
  ·simp only [BP,dfs,if_pos r.1,k1,y,k3,if_true]
  ·rw [AJ];omega
theorem c8C{k:IntKind}{n:Int}(h:(Lit.int k n).wf=true):k.has n:=by
 simpa [Lit.wf,IntKind.has]using h
theorem Xw: ∀(p n:Nat)(t:TypeId)(cs:List Value)(d:DataW H)(ps:List MemPlace),oM P n t=true->DataW.trod enc P W base sp hd p t cs=some (d,ps)->
  ∃xs,eT P n t d=some xs/\OkC P t xs/\xs.length=P.cellsOf t
 |0,_,_,_,_,_,_,h=>by simp [DataW.trod]at h
 |p+1,0,_,_,_,_,hp,_=>by simp [oM]at hp
 |p+1,n+1,t,vs,d,ps,hp,h=>by
  have O:=Xw p n;simp only [DataW.trod]at h;simp only [oM]at hp;split at h
  ·rename_i j;obtain⟨rfl,rfl⟩:=CL (BF h);simp only [j,beq_iff_eq]at hp;exact⟨_,by simp only [eT,j];rfl,.bool j,hp.symm⟩
  ·rename_i j;split at h
   case isFalse=>cases h
   rename_i D;obtain⟨rfl,rfl⟩:=CL (BF h);simp only [j,beq_iff_eq]at hp;exact⟨[.int _ _],by simp only [eT,j],.int j (c8C D.2),hp.symm⟩
  ·rename_i j;simp only [j]at hp
   cases hp
  ·rename_i s j;split at h
   case isFalse=>cases h
   rename_i D;obtain⟨rfl,rfl⟩:=CL (BF h);simp only [j,beq_iff_eq]at hp;exact⟨_,by simp only [eT,j];rfl,.str j (by simpa using D),hp.symm⟩
  ·rename_i j;simp only [j]at hp
   cases hp
  ·rename_i j;simp only [j]at hp
   cases hp
  ·rename_i j;obtain⟨rfl,rfl⟩:=CL (BF h);simp only [j,beq_iff_eq,AD]at hp;exact⟨[.vslice none 0 0 _ []],by simp only [eT,j],.slice j (BE _) .nil,hp.1.1.symm⟩
  ·rename_i e a len cap j;split at h
   case isFalse=>cases h
   rename_i z;obtain⟨l,h1,h2⟩:=CH.1 h;obtain⟨V,h3,h4⟩:=AE.1 h2;obtain⟨rfl,rfl⟩:=CL h4;simp only [j,beq_iff_eq,AD,decide_eq_true_eq]at hp;obtain⟨y,k1,k2,k3⟩:=a5Q (P:=P) (g:=eT P n e) (e:=e) (sz:=P.cellsOf e) (r:=l.map (·.1)) fun d q=>by
    obtain⟨x,L,rfl⟩:=DR.1 q;obtain⟨i,_,A⟩:=B0 h1 x L;obtain⟨cs',_,X⟩:=CH.1 A;exact O e cs' x.1 x.2 hp.2 X
   have G:l.length=len:=by
    have:=(jS h1).1;simpa using this.symm
   rw [BG]at k2 k3;refine⟨[.vslice none 0 l.length (P.cellsOf e) y],?_,.slice j JF k2,hp.1.1.symm⟩;simp only [eT,j,k1,BG];rw [if_pos ⟨hp.1.2,k3⟩]
  ·rename_i cs' Y j;split at h
   case isFalse=>cases h
   rename_i R;obtain⟨xs,h1,h2⟩:=AE.1 h;obtain⟨rfl,rfl⟩:=CL h2;simp only [j,beq_iff_eq]at hp;obtain⟨y,k1,k2,k3⟩:=Uj (g:=eT P n) (pl:=oM P n) (fun f d ps K hf=>O f.type _ d ps K hf) hp h1;have k3:y.length=P.cellsOf t:=JF;exact⟨y,by simp only [eT,j,k1,k3,if_true],.struct j k2,k3⟩
  ·rename_i vs Z cs' m e j;split at h
   case isFalse=>cases h
   obtain⟨xs,h1,h2⟩:=AE.1 h;obtain⟨rfl,rfl⟩:=CL h2;simp only [j,beq_iff_eq,AD,decide_eq_true_eq]at hp;obtain⟨y,k1,k2,k3⟩:=a5Q (P:=P) (g:=eT P n e) (e:=e) (sz:=P.cellsOf e) (r:=xs.map (·.1)) fun d q=>by
    obtain⟨x,L,rfl⟩:=DR.1 q;obtain⟨i,_,A⟩:=B0 h1 x L;exact O e _ x.1 x.2 hp.1.2 A
   have G:xs.length=m:=by
    have:=(jS h1).1;simpa using this.symm
   rw [BG,G]at k2 k3;refine⟨y,?_,.array j k2,k3.trans hp.2⟩;simp only [eT,j,k1,BG];rw [if_pos ⟨k3.trans hp.2,k3,G,hp.1.1⟩]
  all_goals first
   | (rename_i j;simp only [j]at hp;cases hp;done)
   | (rename_i j;split at h<;>simp only [j]at hp<;>cases hp;done)
   |cases h
def d5O(P:Program)(t:TypeId)(xs:Y14):Option IV:=match P.underlying t with
 |some (.struct _)=>some (.agg xs)
 |some (.array ..)=>some (.agg xs)
 |_=>match xs with
  | [x]=>some x
  |_=>none
theorem a3M{t:TypeId}{v:Value}{d:DataW H}{p:List MemPlace}(n:Nat)(l:oM P n t=true)(j:Value.okWide P W .any base t v)(h:DataW.Trod enc P W 0 (fun _=>true) true t v d p):
  ∃xs,OkC P t xs/\∀x,d5O P t xs=some x->VR (M0 W) x v:=by
 obtain⟨g,hf⟩:=id h;obtain⟨xs,h1,h2,_⟩:=Xw g n t _ d p l hf;refine⟨xs,h2,fun x m=>c6Q (n:=n) j h ?_⟩;unfold a3L
 rw [h1];exact m
end
section
variable {P:Program} {t e:TypeId} {xs:Y14}
theorem OkC.int_inv{k:IntKind}(g:P.underlying t=some (.int k))(h:OkC P t xs): ∃z,xs=[.int k z]/\k.has z:=by
 cases h with
 |int h1 h2=>rw [h1]at g;cases g;exact⟨_,rfl,h2⟩
 |_=>simp_all
theorem OkC.slice_inv(g:P.underlying t=some (.slice e))(h:OkC P t xs): ∃n cs,xs=[.vslice none 0 n (P.cellsOf e) cs]/\n<=maxLen/\OkE P e n cs:=by
 cases h with
 |slice h1 h2 h3=>rw [h1]at g;cases g;exact⟨_,_,rfl,h2,h3⟩
 |_=>simp_all
theorem OkE.list{α:Type}{c:α->Y14}{good:α->Prop}(hc: ∀ys,OkC P e ys-> ∃a,ys=c a/\good a): ∀{n:Nat}{cs:Y14},OkE P e n cs-> ∃l:List α,n=l.length/\cs=l.flatMap c/\∀a∈l,good a
 |_,_,.nil=>⟨[],rfl,rfl,JH⟩
 |_,_,.cons h1 h2=>by
  obtain⟨a,rfl,g⟩:=hc _ h1;obtain⟨l,rfl,rfl,j⟩:=OkE.list hc h2;exact⟨a::l,rfl,rfl,by simpa using⟨g,j⟩⟩
theorem OkE.ints{k:IntKind}{n:Nat}{cs:Y14}(g:P.underlying e=some (.int k))(h:OkE P e n cs): ∃l:Y12,n=l.length/\cs=l.map (IV.int k)/\∀a∈l,k.has a:=by
 obtain⟨l,h1,h2,h3⟩:=h.list (c:=fun a=>[IV.int k a]) (good:=k.has) fun m j=>OkC.int_inv g j
 refine⟨l,h1,?_,h3⟩;rw [h2];clear h1 h2 h3
 induction l with
 |nil=>rfl
 |cons a l ih=>simpa using ih
end
end Go.Pv
end
section
namespace Go.Proofs.YthimicfahhgpcaaGreat
open Go.Pv
abbrev KT:=IV->Heap->Prop
def tI(n:Int):Option TV:=some (.v (.int .i64 n))
def wW(n:Int):Int:=IntKind.wrap .i64 n
def iI(n:Int):IV:= .int .i64 n
def tab(l:List (Nat×List Nat))(f d:Nat):Nat:=match l.find? (fun p=>p.1==f)with
 |some (_,ds)=>if ds.contains d then 1 else 0
 |none=>0
def d8M(l:List (Nat×Nat×List Nat))(f r:Nat):List Nat:=match l.find? (fun p=>p.1==f&&p.2.1==r)with
 |some (_,_,ds)=>ds
 |none=>[]
def has(l:List (Nat×List Nat))(f d:Nat):Bool:=l.any fun p=>p.1==f&&p.2.contains d
def env:Env where
 P:=Tryz.prog
 G:=fun _=>none
 A:=tab [(21,[12,28,58,97]),(297,[12])]
 bx:=tab [(20,[43]),(93,[12]),(141,[20]),(6,[46]),(51,[28]),(52,[18]),(89,[41]),(210,[4,5]),(95,[3]),(96,[3]),(54,[1,6])]
 fz:=fun f=>([21,93,135,297,82]:List Nat).contains f
 nf:=fun f=>true
 nr:=fun f=>([90,127]:List Nat).contains f
 iso:=fun f=>!([22,49,136,137,134,195,198,194,251,260,267,131,213,245,270,271,292,52,53,132,133,94,95,96,97,99,209,210,83,84,85,86,88,90,127,128,187,188,189,190,191,268,269]:List Nat).contains f
 an:=d8M [(137,1,[5,11]),(140,3,[3,7])]
 od:=d8M [(54,22,[0,1,2,3,5,6,7,4,8,9,10]),(54,24,[0,1,2,3,4,5,6,7,8,9,10,11,12,13,14,15,17,18,19,16,20,21,22,23])]
 fd:=fun f=>([21]:List Nat).contains f
 ld:=has [(11,[28,33,38,43,49,55]),(6,[8,78,88,89,101]),(21,[27,49,63,67,71,85,89,95,108]),(20,[139,143,100]),(141,[37,47,58]),(213,[46,55]),(271,[8,37])]
 ln:=fun f d=>if has [(141,[36]),(271,[36])] f d then 1 else if has [(136,[31]),(198,[19]),(141,[46,57]),(271,[14,29])] f d then 3 else if has [(52,[27]),(53,[21,32,40]),(27,[23])] f d then 5 else if has [(198,[11])] f d then 6 else if has [(20,[110,145]),(29,[39,44,57]),(82,[75,139]),(51,[139]),(7,[30]),(6,[85,91])] f d then 9 else 0
theorem a5W:env.P.follows .mixedOrders=true:=Checked.mixed Tryz.checked
theorem d5W:B6 env.P=true:=by kernel_rfl
theorem b9D:laidOutB Tryz.prog=true:=by kernel_rfl
theorem own:ownKnob Tryz.prog.godebug=none:=by kernel_rfl
theorem e1U(W:World):Gu env (M0 W):=fun g cs e=>by cases e
end Go.Proofs.YthimicfahhgpcaaGreat
end
section
namespace Go.M13
def Up:Y12:=[0,1,-1,2,-9223372036854775808,9223372036854775807,4294967296,-2147483648,63,64]
def contains(a b n:Int):Bool:=decide (a<=n) &&decide (n<=b)
def pP(a b c d:Int):Bool:=decide (max a c<=min b d)
def a6L(a b c d:Int):Int×Int:=if pP a b c d then(max a c,min b d)else(0,0)
end Go.M13
namespace Go.M13
theorem wN(n m:Int)(h:0<m):(n.tmod m<0/\n.tmod m+m=n%m/\0<n%m/\n%m<m) \/ (0<=n.tmod m/\n.tmod m=n%m):=by
 have h1:n%m=if 0<=n\/m∣n then n.tmod m else n.tmod m+m:=by
  rw [Int.tmod_eq_emod];split<;>rename_i g
  ·omega
  ·rw [show(m.natAbs:Int)=m by omega];omega
 have h2:=EW n (show m≠0 by omega);have h3:=EH n h;split at h1
 ·right;omega
 ·rename_i g;have:n%m≠0:=fun e=>g (.inr (Int.dvd_of_emod_eq_zero e))
  left;omega
end Go.M13
namespace Go.M13
abbrev lG:Int:= -9223372036854775808
abbrev mF:Int:=9223372036854775807
def inR(n:Int):Prop:= -9223372036854775808<=n/\n<=9223372036854775807
def jL(n:Int):Bool:=decide (-9223372036854775808<=n) &&decide (n<=9223372036854775807)
def W1(b c:Bool):Int×Int:=if b then(1,1)else if c then(0,0)else(0,1)
def Ic(a:Int):Int:=IntKind.i64.wrap (BitVec.ofInt IntKind.i64.bits (if IntKind.i64.signed=true then(-1:Int)else IntKind.i64.max) ^^^BitVec.ofInt IntKind.i64.bits a).toNat
def sF(a b:Int):Int:=IntKind.i64.wrap (BitVec.ofInt IntKind.i64.bits a&&&BitVec.ofInt IntKind.i64.bits b).toNat
def ior(a b:Int):Int:=IntKind.i64.wrap (BitVec.ofInt IntKind.i64.bits a|||BitVec.ofInt IntKind.i64.bits b).toNat
def G7(a b:Int):Int:=IntKind.i64.wrap (BitVec.ofInt IntKind.i64.bits a^^^BitVec.ofInt IntKind.i64.bits b).toNat
def F4(o a:Int):Int:=if o=20 then IntKind.i64.wrap (0-a)else if o=21 then Ic a else 0
def nO(a b:Int):Int:=if b=0 then 0 else if b= -1 then IntKind.i64.wrap (0-a)else IntKind.i64.wrap (a.tdiv b)
def fL(b:Bool):Int:=if b then 1 else 0
def C2(b:Int):Int:=IntKind.u64.wrap (sF b 63)
theorem jW(b:Int):0<=C2 b:=by
 unfold C2
 simp only [IntKind.wrap,IntKind.bits,IntKind.signed];simp;omega
def vF(o a b:Int):Int:=
 if o=12 then IntKind.i64.wrap (a*2^min (C2 b).toNat IntKind.i64.bits)
 else if o=13 then IntKind.i64.wrap ((IntKind.u64.wrap a).fdiv (2^min (C2 b).toNat IntKind.u64.bits))
 else if o=14 then a.fdiv (2^min (C2 b).toNat IntKind.i64.bits)
 else if o=15 then fL (a==b)
 else if o=16 then fL (a !=b)
 else if o=17 then fL (decide (a<b))
 else if o=18 then fL (decide (a<=b))
 else if o=19 then fL (decide (IntKind.u64.wrap a<IntKind.u64.wrap b))
 else 0
def oG(o a b:Int):Int:=
 if o=4 then IntKind.i64.wrap (a+b)
 else if o=5 then IntKind.i64.wrap (a-b)
 else if o=6 then IntKind.i64.wrap (a*b)
 else if o=7 then nO a b
 else if o=8 then if b=0 then 0 else IntKind.i64.wrap (a-IntKind.i64.wrap (nO a b*b))
 else if o=9 then sF a b
 else if o=10 then ior a b
 else if o=11 then G7 a b
 else vF o a b
end Go.M13
namespace Go.M13
def V8(j g:Int):Int×Int:=if jL j&&jL g then(j,g)else(lG,mF)
def G6(a b c d:Int):Int×Int:=if c<1 then(lG,mF)else(if a<0 then max a (1-d)else 0,if 0<b then min b (d-1)else 0)
def Dp(o a b c d:Int):Int×Int:=
 if o=15 then W1 false (!pP a b c d)
 else if o=16 then W1 (!pP a b c d) false
 else if o=18 then W1 (decide (b<=c)) (decide (d<a))
 else if o=19/\(a<0\/c<0)/\(0<=b\/0<=d)then(0,1)
 else W1 (decide (b<c)) (decide (d<=a))
def mO(a b c d e f:Int):Int×Int:=
 if b<a\/d<c\/f<e then(lG,mF)
 else if a=0/\b=0 then(e,f)
 else if contains a b 0 then(min c e,max d f)else(c,d)
theorem X2(n:Int):IntKind.i64.wrap n=(n+9223372036854775808)%18446744073709551616-9223372036854775808:=DT n
theorem d1U{a b:Int}(g:inR a)(j:inR b):(decide (IntKind.i64.wrap (a+b)<a)==decide (b<0))=jL (a+b):=by
 unfold inR at g j;unfold jL
 rw [X2]
 grind
theorem b8I{a b:Int}(g:inR a)(j:inR b):(decide (IntKind.i64.wrap (a-b)>a)==decide (b<0))=jL (a-b):=by
 unfold inR at g j;unfold jL
 rw [X2]
 grind
theorem iE{n:Int}(h:jL n=true):IntKind.i64.wrap n=n:=by
 unfold jL at h;simp at h;exact AF _ JF
theorem a6K(c:Int):sF c 63=c%64:=by
 unfold sF
 have h:(BitVec.ofInt IntKind.i64.bits c&&&BitVec.ofInt IntKind.i64.bits 63).toNat=(c%64).toNat:=by
  have e:IntKind.i64.bits=64:=rfl;rw [e];rw [BitVec.toNat_and];have g:(BitVec.ofInt 64 63).toNat=2^6-1:=JG;rw [g,GL,BitVec.toNat_ofInt];omega
 rw [h,AF _ JF];omega
theorem c1K(c:Int):C2 c=c%64:=by
 unfold C2
 rw [a6K];exact HB _ JF
end Go.M13
namespace Go.M13
def gA(n:Nat):Nat:=if n=0 then 0 else n.log2+1
def Fl(n:Int):Int:=((2^gA n.toNat:Nat):Int)-1
def S1(a p:Int):Int:=IntKind.i64.wrap (a*p)
def Sh(a p:Int):Bool:=(S1 a p).fdiv p==a
def vX(o a b c d:Int):Int×Int:=
 if o=12 then
  if c=d then if Sh a (2^ (c%64).toNat)/\Sh b (2^ (c%64).toNat)then(S1 a (2^ (c%64).toNat),S1 b (2^ (c%64).toNat))else(lG,mF)
  else(lG,mF)
 else if o=14 then if c=d then(a.fdiv (2^ (c%64).toNat),b.fdiv (2^ (c%64).toNat))else(min a 0,max b (-1))
 else if c=d then
  if c%64=0 then(a,b)
  else if 0<=a then(a.fdiv (2^ (c%64).toNat),b.fdiv (2^ (c%64).toNat))
  else(0,IntKind.i64.wrap (IntKind.i64.wrap (1*2^ (64-c%64).toNat)-1))
 else if 0<=a then(0,b)else(lG,mF)
theorem c6U:IntKind.bits IntKind.i64=64:=rfl
theorem e2J(c:Int):min (c%64).toNat 64=(c%64).toNat:=JF
end Go.M13
namespace Go.M13
def V9(o a b:Int):Int×Int:=
 if(o≠20/\o≠21) \/b<a then(lG,mF)
 else if a=b then(F4 o a,F4 o a)
 else if o=21 then(Ic b,Ic a)
 else if a=lG then(lG,mF)
 else(IntKind.i64.wrap (0-b),IntKind.i64.wrap (0-a))
end Go.M13
namespace Go.M13
end Go.M13
namespace Go.M13
theorem Ft{s b:Int}(l:inR s)(m:b≠0)(j:b≠ -1):IntKind.i64.wrap (s.tdiv b)=s.tdiv b:=by
 unfold inR at l;apply AF;have h1:(s.tdiv b).natAbs=s.natAbs/b.natAbs:=Int.natAbs_tdiv s b;rcases BB s.natAbs 9223372036854775808 with h|h
 ·have h2:s.natAbs/b.natAbs<=s.natAbs:=Nat.div_le_self _ _;omega
 ·have e:s= -9223372036854775808:=JF;subst e;rcases BB 1 b.natAbs with g|g
  ·have h3:(-9223372036854775808:Int).natAbs/b.natAbs<=9223372036854775808/2:=Nat.div_le_div_left g JF;omega
  ·obtain rfl:b=1:=JF;simp
theorem bW(n:Int):inR (IntKind.i64.wrap n):=by
 unfold inR
 rw [X2];omega
end Go.M13
end
end
