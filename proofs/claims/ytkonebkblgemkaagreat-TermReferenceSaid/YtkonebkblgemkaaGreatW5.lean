/-
  Texts of this proof, one after the other.
  Conditions: none.
-/
import Derived.Test.YtkonebkblgemkaaGreatW4
set_option linter.unusedVariables false
set_option linter.unusedSimpArgs false
set_option maxRecDepth 100000
set_option maxHeartbeats 4000000
noncomputable section
variable{i j m b:Nat}{x y z u v:Int}{h g:Go.Pv.Heap}{c d l:List Go.Pv.IV}{K L:Y12}{p s t:Go.Pv.IV}{D:Go.Pv.Meta}{V W:List Go.Value}{T U:Go.TypeId}{o:Bool}{X Y:Go.Value}{O:Go.Oper}{N:Y10}{H:Array Go.Value}
section
namespace Go.Pv
theorem PT.get_mapv{α:Type}(g:α->α): ∀(t:PT α)(k:Nat),(t.mapv g).get k=(t.get k).map g
 | .nil,k=>rfl
 | .node l v r,k=>by
  unfold PT.mapv PT.get
  split
  ·cases v<;>rfl
  ·split
   ·exact PT.get_mapv g l _
   ·exact PT.get_mapv g r _
theorem B0(F:GF)(d:Option Tmp)(v:Option TV):(F.put d v).ff=F.ff.put d v:=by
 cases d with
 |none=>rfl
 |some t=>
  simp only [GF.put,GF.ff,FF.put]
  congr 1
  funext k;simp only [GF.tmg,PT.get_set]
  by_cases h:k=t<;>simp [h]
theorem Zv(F:GF)(s:Nat):(F.clr s).ff=F.ff.clr s:=by
 simp only [GF.clr,GF.ff,FF.clr]
 congr 1
 funext k;simp only [GF.tmg,PT.get_mapv]
 cases h:F.tm.get k with
 |none=>simp
 |some x=>cases x<;>simp [Qm]
theorem Qr(F:GF)(s:Nat)(cs:Y14):(F.lset s (some cs)).ff=F.ff.lset s cs:=by
 simp only [GF.lset,GF.ff,FF.lset]
 congr 1
 funext k;simp only [GF.lvg,PT.get_set]
 by_cases h:k=s<;>simp [h]
theorem Zw(F:GF)(d:Option Tmp)(e:Ef):(F.app d e).ff=F.ff.app d e:=by
 unfold GF.app FF.app
 cases e.loc with
 |none=>exact B0 _ _ _
 |some q=>
  obtain⟨s,cs⟩:=q
  cases hb:e.box<;>simp only [hb]
  ·simp [Qr,B0]
  ·simp [Qr,B0,Zv]
theorem N1: ∀(l:List Nat)(F:GF),(F.forget l).ff=F.ff.forget l
 | [],_=>rfl
 |s::r,F=>by
  unfold GF.forget FF.forget
  rw [N1 r]
  congr 1
  have j:=Zv F s;have g:((F.clr s).lset s none).ff.tm=(F.ff.clr s).tm:=by rw [<-j];rfl
  have i:((F.clr s).lset s none).ff.lv=fun k=>if k=s then none else F.ff.lv k:=by
   funext k;simp only [GF.lset,GF.ff,GF.lvg,PT.get_set,GF.clr]
   by_cases h:k=s<;>simp [h,FF.clr]
  exact FF.ext' (fun k=>congrFun g k) (fun k=>congrFun i k)
theorem Df{E:Env}{f:FuncId}{ops:List Oper}(F:GF):(F.start E f ops o).ff=F.ff.start E f ops o:=by
 unfold GF.start FF.start
 cases o with
 |true=>simpa using N1 _ _
 |false=>simp
section
variable {E:Env} {f:FuncId} {C:FuncId->Y14->Heap->(IV->Heap->Prop)->Prop}
theorem cC{b:Bool}{A:Prop} :(aS C).need b A ↔ b=true/\A:=by cases b<;>simp [aS,aD]
theorem rT{j:CK}{cs:Y14}{K:IV->Prop}(h:ldC (aS C) j cs i K): ∃v,cs[i]?=some v/\K v:=by
 cases j with
 |int k=>
  simp only [ldC,aS,aI]at h;split at h
  ·rename_i l n e;split at h
   ·rename_i g;subst g;exact⟨_,e,h⟩
   ·exact h.elim
  ·exact h.elim
 |bool=>
  simp only [ldC,aS,kQ]at h;split at h
  ·rename_i e;exact⟨_,e,h⟩
  ·exact h.elim
 |str=>
  simp only [ldC,aS,bL]at h;split at h
  ·rename_i e;exact⟨_,e,h⟩
  ·exact h.elim
 |slc sz=>
  simp only [ldC,aS,aX]at h;split at h
  ·rename_i e;split at h
   ·rename_i g;subst g;exact⟨_,e,h⟩
   ·exact h.elim
  ·exact h.elim
 |any=>
  simp only [ldC,aS,c2G]at h;split at h
  ·rename_i e;exact⟨_,e,h⟩
  ·exact h.elim
theorem tA: ∀{l:List CK}{cs:Y14}{g:Nat}{K:Y14->Prop},Jr (aS C) l cs g K-> ∃vs,vs.length=l.length/\(∀i,i<l.length->cs[g+i]?=vs[i]?)/\K vs
 | [],cs,g,K,h=>⟨[],rfl,fun i hi=>by simp at hi,h⟩
 |ck::r,cs,g,K,h=>by
  unfold Jr at h;obtain⟨v,j,h2⟩:=rT h;obtain⟨vs,p,u,z⟩:=tA h2;refine⟨v::vs,by simp [p],fun i hi=>?_,z⟩
  cases i with
  |zero=>simpa using j
  |succ i=>
   have:=u i (by simpa using hi);rw [show g+(i+1)=g+1+i by omega,this];simp
theorem Dg{l:List CK}{n:Nat}{t:TypeId}{cs:Y14}{K:IV->Prop}(hs:fV E.P t=some (true,n+1))(A:l.length=n+1)(h:Jr (aS C) l cs j fun vs=>K (.agg vs)):
  ∃v,eU E.P t cs j=some v/\K v:=by
 obtain⟨vs,p,h2,u⟩:=tA h;rw [A]at p h2;have g:=h2 n IM;rw [AA (show n<vs.length by omega)]at g;have z:=(BB.1 g).1;refine⟨.agg vs,?_,u⟩;unfold eU
 simp only [hs];rw [if_pos IM]
 congr 2
 apply DL;intro i
 by_cases hi:i<n+1
 ·rw [EE hi,DQ,h2 i hi]
 ·rw [BG (by simp;omega),BG IM]
theorem wN{t:TypeId}{cs:Y14}{K:IV->Prop}(h:ldK (aS C) E t cs i K): ∃v,eU E.P t cs i=some v/\K v:=by
 unfold ldK at h;split at h
 ·rename_i n hs;obtain⟨v,g,h2⟩:=rT h;exact⟨v,by unfold eU;simp only [hs];exact g,h2⟩
 ·rename_i n hs;split at h
  ·rename_i j;exact Dg hs (AS j) h
  ·exact h.elim
 ·exact h.elim
theorem Wo{t:TypeId}{r:Y14}{K:IV->Prop}(h:ldE (aS C) E t r K): ∃v,r[0]?=some v/\K v:=by
 unfold ldE at h;split at h
 ·rename_i n hs;split at h
  ·rename_i g;have g:=AS g;simp only [aS,d0P]at h;split at h
   ·rename_i xs e;split at h
    ·rename_i j;have j:=AS j;obtain⟨vs,l,h2,p⟩:=tA h;rw [g]at l h2;have:vs=xs:=by
      apply DL;intro i
      by_cases hi:i<n+1
      ·have:=h2 i hi;rw [BT]at this;exact this.symm
      ·rw [BG IM,BG IM]
     subst this;exact⟨_,e,p⟩
    ·exact h.elim
   ·exact h.elim
  ·exact rT h
 ·exact rT h
theorem Dh: ∀n,(b4C n).length=n
 |0=>rfl
 |n+1=>by simp [b4C,Dh n]
theorem nI{f:FuncId}{d:Option Tmp}{t:TypeId}{cs:Y14}{K:IV->Prop}(h:Ca (aS C) E f d t cs i K): ∃v,eU E.P t cs i=some v/\K v:=by
 unfold Ca at h;split at h
 ·split at h
  ·split at h
   ·rename_i hs;simp only [aS,c2G]at h;split at h
    ·rename_i v e;exact⟨v,by simp only [eU,hs];exact e,h⟩
    ·exact h.elim
   ·rename_i n hs;exact Dg hs (Dh _) h
   ·exact h.elim
  ·split at h
   ·exact wN h
   ·split at h
    ·rename_i sz hs j;simp only [aS,bP]at h;split at h
     ·rename_i e;exact⟨_,by simp only [eU,hs];exact e,h⟩
     ·rename_i e;split at h
      ·rename_i g;subst g;exact⟨_,by simp only [eU,hs];exact e,h⟩
      ·exact h.elim
     ·exact h.elim
    ·exact h.elim
   ·split at h
    ·rename_i hs;simp only [aS,J7]at h;split at h
     ·rename_i e;exact⟨_,by simp only [eU,hs];exact e,h⟩
     ·exact h.elim
    ·exact h.elim
   ·split at h
    ·rename_i hs;simp only [aS,d0N]at h;split at h
     ·rename_i e;exact⟨_,by simp only [eU,hs];exact e,h⟩
     ·exact h.elim
    ·exact h.elim
   ·split at h
    ·rename_i sz hs j;simp only [aS,cY]at h;split at h
     ·exact h.elim
     ·rename_i e;split at h
      ·rename_i g;subst g;exact⟨_,by simp only [eU,hs];exact e,h⟩
      ·exact h.elim
     ·exact h.elim
    ·exact h.elim
   ·split at h
    ·rename_i hs;simp only [aS,b9X]at h;split at h
     ·rename_i e;exact⟨_,by simp only [eU,hs];exact e,h⟩
     ·rename_i e;exact⟨_,by simp only [eU,hs];exact e,h⟩
     ·exact h.elim
    ·exact h.elim
   ·split at h
    ·rename_i sz hs j;simp only [aS,cY]at h;split at h
     ·rename_i e;exact⟨_,by simp only [eU,hs];exact e,h⟩
     ·rename_i e;split at h
      ·rename_i g;subst g;exact⟨_,by simp only [eU,hs];exact e,h⟩
      ·exact h.elim
     ·exact h.elim
    ·exact h.elim
 ·exact wN h
theorem N2{t:TypeId}{cs:Y14}{v:IV}{K:Y14->Prop}(h:stK (aS C) E t cs i v K): ∃cs',K7 E.P t cs i v=some cs'/\K cs':=by
 unfold stK at h;split at h
 ·rename_i n hs l;split at h
  ·rename_i g;have g:=AS g;obtain⟨j,h2⟩:=cC.1 h;refine⟨_,?_,h2⟩;unfold K7
   simp only [l,hs,if_true];rw [if_pos ⟨g,CC j⟩]
  ·exact h.elim
 ·exact h.elim
theorem pM{P:Program} : ∀{g:List Field}{xs i:Y14}{b:Bool},rS P g xs i=some b->kW P g xs i=some b
 | [],_,_,_,h=>h
 |f::g,xs,i,b,h=>by
  unfold rS at h;unfold kW
  split at h
  ·cases h
  ·rename_i u;rw [if_neg u];split at h
   ·rename_i d x y j h2 l;simp only [j,h2,l];split at h
    ·rename_i p q z A;simp only [z];simp only [AC]at h
     cases p with
     |true=>simp only [BN]at h;subst h;exact pM A
     |false=>simp only [EV]at h;subst h;rfl
    ·cases h
   ·cases h
theorem yH{c:Bool}{t:TypeId}{b:Bool}(h:Qn E t d l=some b):Vm E.P c t (.agg d) (.agg l)=some b:=by
 unfold Qn at h;unfold Vm
 split at h
 ·rename_i i hf;simp only [hf];split at h
  ·cases h
  ·rename_i g;rw [if_neg (by simp [g])];exact pM h
 ·cases h
theorem Ju{op:BinOp}{c:Bool}{t:TypeId}{a b:IV}{K:IV->Prop}(h:c2I (aS C) E op c t a b K): ∃v,lW E.P op c t a b=some v/\K v:=by
 unfold c2I at h;split at h
 ·rename_i k x z y;split at h
  ·split at h
   ·rename_i l;obtain⟨g,h2⟩:=cC.1 h;exact⟨_,by simp [lW,l,pZ,show¬y=0 by simpa using g],h2⟩
   ·exact h.elim
  ·split at h
   ·rename_i l;obtain⟨g,h2⟩:=cC.1 h;exact⟨_,by simp [lW,l,pZ,show¬y=0 by simpa using g],h2⟩
   ·exact h.elim
  ·obtain⟨g,h2⟩:=cC.1 h;simp only [decide_eq_true_eq]at g;exact⟨_,by simp [lW,mU,show¬y<0 by omega],h2⟩
  ·obtain⟨g,h2⟩:=cC.1 h;simp only [decide_eq_true_eq]at g;exact⟨_,by simp [lW,mU,show¬y<0 by omega],h2⟩
  ·rename_i g h2 p u;split at h
   ·rename_i v i;refine⟨v,?_,h⟩;unfold lW
    cases op<;>first|exact i|exact absurd rfl g|exact absurd rfl h2|exact absurd rfl p|exact absurd rfl u
   ·exact h.elim
 ·rename_i x y;split at h
  ·obtain⟨g,h2⟩:=cC.1 h;simp only [AM]at g;refine⟨_,?_,h2⟩;simp only [lW,zU];rw [if_neg IM]
  ·split at h
   ·rename_i v i;exact⟨v,by simpa [lW]using i,h⟩
   ·exact h.elim
 ·rename_i xs A;split at h
  ·split at h
   ·rename_i b j;exact⟨_,by simp [lW,yH j],h⟩
   ·exact h.elim
  ·split at h
   ·rename_i b j;exact⟨_,by simp [lW,yH j],h⟩
   ·exact h.elim
  ·exact h.elim
 ·split at h
  ·rename_i v i;exact⟨v,i,h⟩
  ·exact h.elim
theorem oO{len:Nat}{lo hi:Option (Option TV)}{K:Int->Int->Prop}(h:Wm (aS C) len lo hi K): ∃(l h':Int),gI len lo hi=some (l.toNat,h'.toNat)/\0<=l/\l<=h'/\h'<=len/\K l h':=by
 unfold Wm at h;unfold gI
 split at h
 ·rename_i l h' i h2;obtain⟨g,j⟩:=cC.1 h;simp only [AF,decide_eq_true_eq]at g;refine⟨l,h',?_,g.1,g.2.1,g.2.2,j⟩
  cases lo<;>cases hi<;>simp only at i h2<;>simp [i,h2]<;>simp_all<;>omega
 ·exact h.elim
theorem b4E(cf:FuncId->Y14->Heap->Option (IV×Heap)):Cz d0S cf:=fun g xs h r e=>by cases e
theorem Di{draw:Bool}{o:Oper}{F:GF}{h:Heap}{K:GF->Ef->Prop}(n:Nat)(g:A6 E f draw o F h K): ∃e,dX E f (iP E n) draw o (bD E F.tmg) F.lvg h=some e/\K F e:=by
 unfold A6 at g;split at g
 ·rename_i e i;exact⟨e,M6 (b4E _) i,g⟩
 ·exact g.elim
theorem uP{F:GF}{c:Operand}{b:Bool}(h:bD E F.tmg c=some (.v (.bool b))):(Dd c F b).ff=F.ff:=by
 unfold Dd
 split
 ·rename_i t;rw [B0];refine FF.ext' (fun k=>?_) (fun k=>rfl);simp only [FF.put]
  by_cases hk:k=t
  ·subst hk;simpa [GF.ff,bD]using h.symm
  ·simp [hk]
 ·rfl
theorem N3(g:CK)(v:IV):zT g (zT g v)=zT g v:=by
 cases g<;>cases v<;>rfl
theorem N4: ∀(l:List CK)(vs:Y14),mK l (mK l vs)=mK l vs
 | [],vs=>rfl
 |ck::r,[]=>rfl
 |ck::r,v::vs=>by simp only [mK,N3,N4 r vs]
theorem Wp(P:Program)(t:TypeId)(v:IV):R6 P t (R6 P t v)=R6 P t v:=by
 have h: ∀v,(∀cs,v≠ .agg cs)->R6 P t v=zT (R5 P t) v:=by
  intro v g;unfold R6
  split
  ·rename_i cs;exact absurd rfl (g cs)
  ·rfl
 by_cases g: ∃cs,v= .agg cs
 ·obtain⟨cs,rfl⟩:=g;simp only [R6,N4]
 ·have i: ∀cs,v≠ .agg cs:=fun cs e=>g ⟨cs,e⟩
  rw [h v i,h _ (fun cs e=>?_),N3];unfold zT at e;split at e
  ·cases e
  ·cases e
  ·exact i cs e
theorem tB(P:Program): ∀(ts:List TypeId)(vs:Y14),gS P ts (gS P ts vs)=gS P ts vs
 | [],vs=>rfl
 |t::ts,[]=>rfl
 |t::ts,v::vs=>by simp only [gS,Wp,tB P ts vs]
theorem B1{g:FuncId}{h:Heap}{Q:IV->Heap->Prop}(i:aO E g (A7 E g c) h Q):aO E g c h Q:=by
 unfold A7 at i;split at i
 ·rename_i hi;split at i
  ·rename_i fn hf;obtain⟨n,v,h',j,h2⟩:=i;refine⟨n,v,h',?_,h2⟩
   cases n with
   |zero=>simp [iP]at j
   |succ n=>
    rw [iB]at j⊢;simp only [hf,hi,tB]at j⊢;exact j
  ·exact i
 ·rename_i hi;split at i
  ·rename_i l;split at i
   ·rename_i fn hf;obtain⟨n,v,h',j,h2⟩:=i;refine⟨n,v,h',?_,h2⟩
    cases n with
    |zero=>simp [iP]at j
    |succ n=>
     rw [iB]at j⊢;simp only [hf,hi,wC,l,tB]at j⊢;exact j
   ·exact i
  ·exact i
theorem tC{h:Heap}{sz:Nat}{x:IV}{K:Nat->Y14->Prop}(g:Zr (aS C) h sz x K): ∃n xs,fL h sz x=some (n,xs)/\K n xs:=by
 unfold Zr at g;unfold fL
 split at g
 ·exact⟨_,_,rfl,g⟩
 ·split at g
  ·rename_i i;exact⟨_,_,by simp only [AS i,if_true],g⟩
  ·exact g.elim
 ·split at g
  ·rename_i i;simp only [aS,aE]at g;split at g
   ·rename_i cs p;have l:(aS C).need _ _:=g;obtain⟨j,h2⟩:=cC.1 l;have j:=CC j;exact⟨_,_,by simp only [AS i,if_true,p,j],h2⟩
   ·exact g.elim
  ·exact g.elim
 ·split at g
  ·rename_i i;exact⟨_,_,by simp only [AS i,if_true],g⟩
  ·exact g.elim
 ·exact g.elim
theorem Dj{h:Heap}{j sz i:Nat}{s x:IV}{K:IV->Heap->Prop}(g:Zs (aS C) h j sz i s x K): ∃v h',jN h j sz i s x=some (v,h')/\K v h':=by
 unfold Zs at g;split at g
 ·rename_i l;have l:=AS l;subst l;obtain⟨n,xs,p,g⟩:=tC g;unfold jN
  simp only [p]
  cases n with
  |zero=>exact g.elim
  |succ n=>
   rw [if_neg (Nat.succ_ne_zero n)];simp only [aS,nH]at g;split at g
   ·exact⟨_,_,by simp only [g.1,if_true,newRow],g.2⟩
   ·exact⟨_,_,by simp only [g.1,and_self,if_true,newRow],g.2⟩
   ·exact⟨_,_,by simp only [g.1.2.2,g.1.1,g.1.2.1,and_self,if_true],g.1.1▸g.2⟩
   ·exact g.elim
 ·exact g.elim
theorem Jv{h:Heap}{u sz j:Nat}{s x:IV}{K:IV->Heap->Prop}(g:c2J (aS C) h u sz j s x K): ∃v h',jN h u sz j s x=some (v,h')/\K v h':=by
 unfold c2J at g;obtain⟨n,xs,G,g⟩:=tC g;unfold jN
 simp only [G]
 by_cases hn:n=0
 ·subst hn;simp only [if_true];have z:Nat.beq 0 0=true:=rfl;simp only [z,aS,aJ]at g;split at g
  ·exact⟨_,_,rfl,g⟩
  ·split at g
   ·rename_i l;exact⟨_,_,by simp only [AS l,if_true],AS l▸g⟩
   ·exact g.elim
  ·split at g
   ·rename_i l;exact⟨_,_,by simp only [AS l,if_true],AS l▸g⟩
   ·exact g.elim
  ·exact g.elim
 ·simp only [hn,if_false];have D:Nat.beq n 0=false:=by
   cases hq:Nat.beq n 0 with
   |false=>rfl
   |true=>exact absurd (AS hq) hn
  simp only [D,aS,aJ]at g;split at g
  ·have i:(aS C).need _ _:=g;obtain⟨h2,p⟩:=cC.1 i;exact⟨_,_,by simp only [CC h2,if_true],p⟩
  ·split at g
   ·rename_i l;have i:(aS C).need _ _:=g;obtain⟨h2,p⟩:=cC.1 i;exact⟨_,_,by simp only [AS l,CC h2,and_self,if_true],p⟩
   ·exact g.elim
  ·split at g
   ·rename_i l;simp only [cK]at g;split at g
    ·rename_i m A;have i:(aS C).need _ _:=g;obtain⟨h2,p⟩:=cC.1 i;simp only [AF]at h2;exact⟨_,_,by simp only [A,AS h2.1,AS l,CC h2.2,and_self,if_true],p⟩
    ·exact g.elim
   ·exact g.elim
  ·split at g
   ·rename_i l;simp only [aE]at g;split at g
    ·rename_i cs A;have i:(aS C).need _ _:=g;obtain⟨h2,p⟩:=cC.1 i;simp only [AF]at h2;exact⟨_,_,by simp only [A,AS h2.1,AS l,CC h2.2.1,CC h2.2.2,and_self,if_true],p⟩
    ·exact g.elim
   ·exact g.elim
  ·exact g.elim
theorem Wq(hC: ∀g xs h Q,C g xs h Q->aO E g xs h Q){draw:Bool}{o:Oper}{F:GF}{h:Heap}{K:GF->Ef->Prop}(j:opW (aS C) E f draw o F h K):
  ∃n G e,G.ff=F.ff/\dX E f (iP E n) draw o (bD E F.tmg) F.lvg h=some e/\K G e:=by
 have a0:A6 E f draw o F h K-> ∃n G e,G.ff=F.ff/\dX E f (iP E n) draw o (bD E F.tmg) F.lvg h=some e/\K G e:=fun q=>by
  obtain⟨e,A,h2⟩:=Di 0 q;exact⟨0,F,e,rfl,A,h2⟩
 unfold opW at j;split at j
 ·rename_i x p;split at j
  ·rename_i hm;split at j
   ·rename_i id V len sz O;simp only [aS,aE]at j;split at j
    ·rename_i cs hg;have Z:(aS C).need _ _:=j;obtain⟨A,h2⟩:=cC.1 Z;simp only [AF]at A;have hc:0<sz/\V+len*sz<=cs.length:=⟨CC A.1,CC A.2⟩;exact⟨0,F,_,rfl,by simp [dX,eA,fR,gJ,dO,fZ,p,hm,O,hg,hc],h2⟩
    ·exact j.elim
   ·exact j.elim
  ·rename_i hm;split at j
   ·rename_i v O;exact⟨0,F,_,rfl,by simp [dX,eA,p,hm,O],j⟩
   ·exact j.elim
 ·rename_i c a b p;split at j
  ·rename_i x O
   cases x with
   |true=>
    simp only [aS,aJ]at j;split at j
    ·rename_i v hv;exact⟨0,_,_,uP O,by simp [dX,eA,p,O,hv],j⟩
    ·exact j.elim
   |false=>
    simp only [aS,aJ]at j;split at j
    ·rename_i v hv;exact⟨0,_,_,uP O,by simp [dX,eA,p,O,hv],j⟩
    ·exact j.elim
  ·exact j.elim
 ·rename_i op t x y u p;split at j
  ·rename_i a b ha D;obtain⟨v,A,h2⟩:=Ju j;exact⟨0,F,_,rfl,by simp [dX,eA,p,ha,D,A],h2⟩
  ·exact j.elim
 ·rename_i t a p;split at j
  ·rename_i s V ha;split at j
   ·rename_i cs hl;obtain⟨v,A,h2⟩:=nI j;exact⟨0,F,_,rfl,by simp [dX,eA,fR,p,ha,hl,A],h2⟩
   ·exact j.elim
  ·rename_i cs V ha;obtain⟨v,A,h2⟩:=nI j;exact⟨0,F,_,rfl,by simp [dX,eA,p,ha,A],h2⟩
  ·rename_i id V ha;simp only [aS,aE]at j;split at j
   ·rename_i cs hg;obtain⟨v,A,h2⟩:=nI (C:=C) j;exact⟨0,F,_,rfl,by simp [dX,eA,fR,gJ,dO,p,ha,hg,A],h2⟩
   ·exact j.elim
  ·exact j.elim
 ·rename_i t a x p;split at j
  ·rename_i s V v ha O;split at j
   ·rename_i cs hl;obtain⟨cs',A,h2⟩:=N2 j;exact⟨0,F,_,rfl,by simp [dX,eA,fR,gJ,p,ha,O,hl,A],h2⟩
   ·exact j.elim
  ·rename_i id V v ha O;simp only [aS,aE]at j;split at j
   ·rename_i cs hg;obtain⟨cs',A,h2⟩:=N2 (C:=C) j;exact⟨0,F,_,rfl,by simp [dX,eA,fR,gJ,dO,fZ,p,ha,O,hg,A],h2⟩
   ·exact j.elim
  ·exact j.elim
 ·rename_i t x ix p;split at j
  ·rename_i i n e hi L;split at j
   ·rename_i sz a T ha;obtain⟨A,h2⟩:=cC.1 j;simp only [AF,decide_eq_true_eq]at A;split at h2
    ·rename_i v hv;exact⟨0,F,_,rfl,by simp [dX,eA,p,hi,L,T,ha,A,hv],h2⟩
    ·exact h2.elim
   ·exact j.elim
  ·rename_i i e hi L;split at j
   ·rename_i sz id en len z cs T ha;split at j
    ·rename_i D;have D:=AS D;obtain⟨A,h2⟩:=cC.1 j;simp only [AF,decide_eq_true_eq]at A;exact⟨0,F,_,rfl,by simp [dX,eA,p,hi,L,T,ha,A,D],h2⟩
    ·exact j.elim
   ·rename_i sz id V len z T ha;split at j
    ·rename_i D;have D:=AS D;obtain⟨A,h2⟩:=cC.1 j;simp only [AF,decide_eq_true_eq]at A;exact⟨0,F,_,rfl,by simp [dX,eA,p,hi,L,T,ha,A,D],h2⟩
    ·exact j.elim
   ·exact j.elim
  ·exact j.elim
 ·rename_i t x ix p;split at j
  ·rename_i i n e cs hi L ha;split at j
   ·rename_i sz T;obtain⟨A,h2⟩:=cC.1 j;simp only [AF,decide_eq_true_eq]at A;obtain⟨v,h3,h4⟩:=wN h2;exact⟨0,F,_,rfl,by simp [dX,eA,p,hi,L,T,ha,A,h3],h4⟩
   ·exact j.elim
  ·rename_i i s hi L ha;obtain⟨A,h2⟩:=cC.1 j;simp only [AF,decide_eq_true_eq]at A;simp only [aS,gN]at h2;split at h2
   ·rename_i b D;exact⟨0,F,_,rfl,by simp [dX,eA,p,hi,L,ha,A,D],h2⟩
   ·exact h2.elim
  ·exact j.elim
 ·rename_i t x lo hi mx p;split at j
  ·rename_i s L ha;obtain⟨l,h',A,h2,h3,h4,h5⟩:=oO j;exact⟨0,F,_,rfl,by simp [dX,eA,p,oF,L,ha,A],h5⟩
  ·rename_i e id en len z cs L ha;split at j
   ·rename_i sz T;split at j
    ·rename_i D;have D:=AS D;obtain⟨l,h',A,h2,h3,h4,h5⟩:=oO j;exact⟨0,F,_,rfl,by simp [dX,eA,p,oF,L,ha,A,T,D],h5⟩
    ·exact j.elim
   ·exact j.elim
  ·rename_i e id V len z L ha;split at j
   ·rename_i sz T;split at j
    ·rename_i D;have D:=AS D;obtain⟨l,h',A,h2,h3,h4,h5⟩:=oO j;exact⟨0,F,_,rfl,by simp [dX,eA,p,oF,L,ha,A,T,D],h5⟩
    ·exact j.elim
   ·exact j.elim
  ·rename_i n e id V L ha;split at j
   ·rename_i sz T;simp only [aS,aE]at j;split at j
    ·rename_i cs hg;have Z:(aS C).need _ _:=j;obtain⟨h6,Z⟩:=cC.1 Z;obtain⟨l,h',A,h2,h3,h4,h5⟩:=oO Z;have h6:=CC h6;have b0:bD E F.tmg x=some (.v (.ptr id V)):=by
      unfold bJ at ha;split at ha
      ·rename_i q;rw [q];cases ha;rfl
      ·cases ha
     exact⟨0,F,_,rfl,by simp [dX,eA,fR,gJ,dO,p,oF,L,b0,bJ,hg,A,T,h6],h5⟩
    ·exact j.elim
   ·exact j.elim
  ·exact a0 j
 ·rename_i t l c p;split at j
  ·rename_i e d li ci L hd hl hc;split at j
   ·rename_i sz a6 z a4 a3 T;split at j
    ·rename_i D;have D:=AS D;obtain⟨A,h2⟩:=cC.1 j;simp only [AF,decide_eq_true_eq]at A;exact⟨0,F,_,rfl,by simp [dX,eA,fR,gJ,dO,fZ,p,L,hd,hl,hc,a4,a3,T,D,A],h2⟩
    ·exact j.elim
   ·exact j.elim
  ·exact j.elim
 ·rename_i a5 X p;split at j
  ·rename_i t u sx xx a2 a1;split at j
   ·rename_i s x e du d hs O L a8 hd;split at j
    ·rename_i sz a6 z a4 a3 T;split at j
     ·rename_i D;simp only [AF]at D;have a7:=AS D.1;split at j
      ·obtain⟨v,h',A,h2⟩:=Dj j;exact⟨0,F,_,rfl,by simp [dX,eA,fR,gJ,dO,fZ,p,a2,a1,hs,O,L,a8,hd,a4,a3,T,a7,D.2,A],h2⟩
      ·obtain⟨v,h',A,h2⟩:=Jv j;exact⟨0,F,_,rfl,by simp [dX,eA,fR,gJ,dO,fZ,p,a2,a1,hs,O,L,a8,hd,a4,a3,T,a7,D.2,A],h2⟩
     ·exact j.elim
    ·exact j.elim
   ·exact j.elim
  ·exact j.elim
 ·rename_i a5 X p;split at j
  ·rename_i t ts sx xx a2 a1;split at j
   ·rename_i id V len z x e hs O L;split at j
    ·rename_i sz T;split at j
     ·rename_i D;have D:=AS D;subst D;obtain⟨n,xs,A,j⟩:=tC j;simp only [aS,aE]at j;split at j
      ·rename_i cs hg;have Z:(aS C).need _ _:=j;obtain⟨h6,Z⟩:=cC.1 Z;have h6:=CC h6;exact⟨0,F,_,rfl,by simp [dX,eA,fR,gJ,dO,fZ,p,a2,a1,hs,O,L,T,hg,A,h6],Z⟩
      ·exact j.elim
     ·exact j.elim
    ·exact j.elim
   ·exact j.elim
  ·exact j.elim
 ·rename_i x a5 X p;split at j
  ·rename_i g a b xs O b1;obtain⟨n,v,h',A,h2⟩:=B1 (hC _ _ _ _ j);exact⟨n,F,_,rfl,by simp [dX,eA,fR,gJ,dO,fZ,dM,p,O,b1,<-List.append_assoc,A],h2⟩
  ·exact j.elim
 ·rename_i t x k ok p;split at j
  ·rename_i kt et id a9 L O Y;split at j
   ·rename_i d z hd T;split at j
    ·rename_i hf;simp only [aS,qM]at j;split at j
     ·rename_i es hg;split at j
      ·rename_i v hv;obtain⟨v',A,h2⟩:=Wo (C:=C) j;have A:v=v':=by simpa using A
       subst A;refine⟨0,F,_,rfl,?_,h2⟩
       cases ok<;>simp [dX,eA,fR,gJ,dO,p,L,O,Y,hd,T,hf,hg,hv]
      ·rename_i hv;refine⟨0,F,_,rfl,?_,j⟩
       cases ok<;>simp [dX,eA,fR,gJ,dO,p,L,O,Y,hd,T,hf,hg,hv]
      ·exact j.elim
     ·exact j.elim
    ·exact j.elim
   ·exact j.elim
  ·exact a0 j
 ·rename_i t m k x p;split at j
  ·rename_i kt et id a9 v L hm Y O;split at j
   ·rename_i d hd;split at j
    ·rename_i hf;simp only [aS,yG]at j;split at j
     ·rename_i es hg;split at j
      ·rename_i es' hv;exact⟨0,F,_,rfl,by simp [dX,eA,fR,gJ,dO,fZ,p,L,hm,O,Y,hd,hf,hg,hv],j⟩
      ·exact j.elim
     ·exact j.elim
    ·exact j.elim
   ·exact j.elim
  ·exact j.elim
 ·rename_i t m k p;split at j
  ·rename_i kt et id a9 L hm Y;split at j
   ·rename_i d z hd T;split at j
    ·rename_i hf;simp only [aS,d0O]at j;split at j
     ·rename_i es hg;split at j
      ·rename_i r hv;exact⟨0,F,_,rfl,by simp [dX,eA,fR,gJ,dO,fZ,p,L,hm,Y,hd,T,hf,hg,hv],j⟩
      ·exact j.elim
     ·exact j.elim
    ·exact j.elim
   ·exact j.elim
  ·exact j.elim
 ·rename_i t m s x p;split at j
  ·rename_i id kd n v hm hs O;simp only [aS,b9Y]at j;split at j
   ·rename_i es hg;exact⟨0,F,_,rfl,by simp [dX,eA,fR,gJ,dO,fZ,p,hm,hs,O,hg,j.1],j.2⟩
   ·exact j.elim
  ·exact j.elim
 ·rename_i s d x p;split at j
  ·rename_i e id en len cs L hd O;split at j
   ·rename_i he;simp only [aS,Da]at j;split at j
    ·rename_i b D;exact⟨0,F,_,rfl,by simp [dX,eA,R7,p,L,hd,O,he,D],j⟩
    ·exact j.elim
   ·exact j.elim
  ·exact a0 j
 ·exact a0 j
theorem T0{E:Env}{ops:List Oper}{o:Oper}{F:GF}{u skip:GF->Prop}(g:Js (aS C) ops o F u skip):
  ∃G,G.ff=F.ff/\((dJ ops F.tmg o=some true/\u G) \/ (dJ ops F.tmg o=some false/\skip G)):=by
 unfold Js at g;unfold dJ
 split at g
 ·rename_i i;exact⟨F,rfl,.inl ⟨by simp [i],g⟩⟩
 ·rename_i j b i;split at g
  ·rename_i d hd;split at g
   ·rename_i x l;have p:=fun y (hy:x=y)=>uP (E:=E) (F:=F) (c:= .tmp d) (b:=y) (by rw [<-hy];exact l)
    cases x with
    |true=>
     refine⟨_,p true rfl,?_⟩
     cases b with
     |true=>exact .inl ⟨by simp [i,hd,l],g⟩
     |false=>exact .inr ⟨by simp [i,hd,l],g⟩
    |false=>
     refine⟨_,p false rfl,?_⟩
     cases b with
     |true=>exact .inr ⟨by simp [i,hd,l],g⟩
     |false=>exact .inl ⟨by simp [i,hd,l],g⟩
   ·rename_i l;exact⟨F,rfl,.inr ⟨by simp [i,hd,l],g⟩⟩
   ·exact g.elim
  ·exact g.elim
theorem wO{b:Nat}{h:Heap}{A:Prop} : ∀{ps:Ps},De b h A ps->Ql ps b h/\A
 | [],hk=>⟨(fun q l=>nomatch l),hk⟩
 |q::r,hk=>by
  unfold De at hk;split at hk
  ·rename_i j;obtain⟨i,h2⟩:=wO hk;refine⟨fun x g=>?_,h2⟩;rcases BQ.1 g with rfl|g
   ·exact .inl j
   ·exact i x g
  ·obtain⟨i,h2⟩:=wO hk.2;refine⟨fun x g=>?_,h2⟩;rcases BQ.1 g with rfl|g
   ·exact .inr hk.1
   ·exact i x g
theorem zM{C:FuncId->Y14->Heap->(IV->Heap->Prop)->Prop}{h:Heap}{n:Nat}{A:Prop}(i:(aS C).fre h n A):h.get n= .free/\A:=by
 have g:c2H h n A:=i;unfold c2H at g;split at g
 ·rename_i hf;exact⟨hf,g⟩
 ·exact g.elim
theorem Ws{n:Nat}{o:Oper}{F:GF}{h:Heap}{K:GF->Ef->Prop}(g:opA (aS C) E f n o F h K):
  ∃e,(match zJ E f o (bD E F.tmg) n with
   |some (v,none)=>some ⟨.p,v,none,false,h⟩
   |some (v,some x)=>match h.get n with
    | .free=>some ⟨.a,v,none,false,h.set n x⟩
    |_=>none
   |none=>none)=some e/\K F e:=by
 unfold opA at g;split at g
 ·rename_i t l c A;split at g
  ·rename_i e d li ci hu hd hl hc;split at g
   ·rename_i sz V z D j hz;split at g
    ·rename_i L;have L:=AS L;obtain⟨G,h2⟩:=cC.1 g;simp only [AF,decide_eq_true_eq]at G;split at h2
     ·rename_i hw;have hw:=AS hw;obtain⟨X,h4⟩:=cC.1 h2;have X:=CC X;obtain⟨Y,Z⟩:=zM h4;refine⟨_,?_,Z⟩;simp only [zJ,A,hu,hd,hl,hc,D,j,hz];rw [if_pos ⟨G.1,G.2.1,G.2.2.1,G.2.2.2,L,fun _=>X⟩];simp only [Y]
     ·rename_i hw;obtain⟨Y,Z⟩:=zM h2;refine⟨_,?_,Z⟩;simp only [zJ,A,hu,hd,hl,hc,D,j,hz];rw [if_pos ⟨G.1,G.2.1,G.2.2.1,G.2.2.2,L,fun e=>by rw [e]at hw;simp at hw⟩];simp only [Y]
    ·exact g.elim
   ·exact g.elim
  ·exact g.elim
 ·rename_i a5 a0 A;split at g
  ·rename_i t u sx xx a2 a1;split at g
   ·rename_i x e du d hs hx hu a4 hd;split at g
    ·rename_i sz V z D j hz;split at g
     ·rename_i L;simp only [AF]at L;have a3:=AS L.1;split at g
      ·rename_i k xs T;have O:aJ (Nat.beq k 0) _ _:=g
       cases i:Nat.beq k 0 with
       |true=>
        rw [i]at O;have i:=AS i;refine⟨_,?_,O⟩;simp only [zJ,A,a2,a1,hs,hx,hu,a4,hd,D,j,hz];rw [if_pos ⟨a3,L.2⟩];simp only [T,i,if_true]
       |false=>
        rw [i]at O;obtain⟨X,h4⟩:=cC.1 O;have X:=CC X;obtain⟨Y,Z⟩:=zM h4;refine⟨_,?_,Z⟩;simp only [zJ,A,a2,a1,hs,hx,hu,a4,hd,D,j,hz];rw [if_pos ⟨a3,L.2⟩];simp only [T];rw [if_neg (fun e=>by rw [e]at i;simp at i),if_pos X];simp only [Y]
      ·exact g.elim
     ·exact g.elim
    ·exact g.elim
   ·exact g.elim
  ·exact g.elim
 ·split at g
  ·rename_i v ha;exact⟨_,by simp only [ha],g⟩
  ·rename_i v x ha;obtain⟨Y,Z⟩:=zM g;exact⟨_,by simp only [ha,Y],Z⟩
  ·exact g.elim
theorem uQ{C:FuncId->Y14->Heap->(IV->Heap->Prop)->Prop}{rs:Nat->Y10}{m:Met}{b:Nat}{id:Y10}{A:Prop} : ∀{l:List Nat},rdK (aS C) rs m b id A l->(l.all fun j=>b.testBit j|| (!(m.a.testBit j)|| (match rs j,id with
  |some n,some k=>!(Nat.beq n k)
  |_,_=>true)))=true/\A
 | [],hk=>⟨rfl,hk⟩
 |j::r,hk=>by
  unfold rdK at hk;rw [EP,AF];split at hk
  ·rename_i D;obtain⟨i,h2⟩:=uQ hk;refine⟨⟨?_,i⟩,h2⟩;rw [<-Bool.or_assoc,D];rfl
  ·have g: ∀{z:Bool},z=true->(b.testBit j|| (!(m.a.testBit j)||z))=true:=fun e=>by rw [e];simp
   cases hrs:rs j with
   |none=>
    rw [hrs]at hk;obtain⟨i,h2⟩:=uQ (id:=id) hk;exact⟨⟨g rfl,i⟩,h2⟩
   |some n=>
    cases id with
    |none=>
     rw [hrs]at hk;obtain⟨i,h2⟩:=uQ (id:=none) hk;exact⟨⟨g rfl,i⟩,h2⟩
    |some k=>
     rw [hrs]at hk;obtain⟨p,u⟩:=cC.1 hk;obtain⟨i,h2⟩:=uQ u;exact⟨⟨g p,i⟩,h2⟩
theorem Dk{C:FuncId->Y14->Heap->(IV->Heap->Prop)->Prop}{l:List Nat}{rs:Nat->Y10}{m:Met}{ps:Ps}{b:Nat}{id:Y10}{e:Ef}{A:Prop}(g:c2K (aS C) l rs o m ps b id e A):(o=false\/ ((iK (m.chk e.c) b=true\/e.c= .e/\iK (m.e|||m.a) b=true/\Ql ps b e.h)/\R8 l rs m b id e.c=true))/\A:=by
 unfold c2K at g;split at g
 ·exact⟨.inl rfl,g⟩
 ·split at g
  ·rename_i j;unfold d0T at g;split at g
   ·rename_i i;obtain⟨p,u⟩:=uQ g;exact⟨.inr ⟨.inl j,by unfold R8;rw [i];exact p⟩,u⟩
   ·rename_i i;refine⟨.inr ⟨.inl j,?_⟩,g⟩;unfold R8
    split
    ·rename_i h2;exact absurd h2 i
    ·rfl
  ·split at g
   ·rename_i i;split at g
    ·rename_i z;obtain⟨j,h2⟩:=wO g;exact⟨.inr ⟨.inr ⟨i,z,j⟩,by rw [i];rfl⟩,h2⟩
    ·exact g.elim
   ·exact g.elim
theorem lF(X: ∀g xs h Q,C g xs h Q->aO E g xs h Q){ops:List Oper}{draw:Bool}{bef:Nat->Nat}{Y:List Nat}{rs:Nat->Y10} : ∀{l:List (Oper×Nat)}{m:Met}{ps:Ps}{F:GF}{h:Heap}{K:GF->Heap->Prop},
  Wn (aS C) E f ops draw bef Y rs l m ps F h K->A5 E f ops draw bef Y rs l m ps F.ff h fun Z h'=> ∃G,G.ff=Z/\K G h'
 | [],m,ps,F,h,K,O=>A5.nil ⟨F,rfl,O⟩
 | (o,i)::r,m,ps,F,h,K,O=>by
  unfold Wn at O;obtain⟨G,T,O⟩:=T0 (E:=E) O;have hw: ∀{o},dJ ops F.ff.tm o=dJ ops F.tmg o:=rfl
  have V:G.tmg=F.tmg:=congrArg FF.tm T;have e2:G.lvg=F.lvg:=congrArg FF.lv T;rcases O with⟨A,j⟩| ⟨A,j⟩
  ·cases hrs:rs i with
   |none=>
    rw [hrs]at j;obtain⟨n,G2,e,h1,h2,L⟩:=Wq X j;obtain⟨z,L⟩:=Dk L;have D:=lF X L;rw [V]at z;refine A5.cons ⟨n,e,?_,z,?_⟩
    ·rw [V,e2]at h2;rw [hrs];simp only [dK,sS];rw [show dJ ops F.ff.tm o=some true from A];exact h2
    ·rw [Zw,h1,T]at D;exact D
   |some k=>
    rw [hrs]at j;obtain⟨e,h2,L⟩:=Ws j;obtain⟨z,L⟩:=Dk L;have D:=lF X L;rw [V]at z;refine A5.cons ⟨0,e,?_,z,?_⟩
    ·rw [V]at h2;rw [hrs];simp only [dK];rw [show dJ ops F.ff.tm o=some true from A];exact h2
    ·rw [Zw,T]at D;exact D
  ·have D:=lF X j;refine A5.cons ⟨0,⟨.p,some .u,none,false,h⟩,?_,.inr ⟨.inl (by simp [Met.chk,iK]),rfl⟩,?_⟩
   ·cases rs i<;>simp only [dK,sS]<;>rw [show dJ ops F.ff.tm o=some false from A]
   ·rw [B0,T]at D;exact D
theorem N5{c:Code}{g:GF->Heap->(Ex->GF->Heap->Prop)->Prop}(l: ∀F h K,g F h K->bX E f c F.ff h fun x j h'=> ∃G,G.ff=j/\K x G h'):
  ∀{n:Nat}{F:GF}{h:Heap}{K:Ex->GF->Heap->Prop},dUn g n F h K->bX E f (.loop c) F.ff h fun x j h'=> ∃G,G.ff=j/\K x G h'
 |0,F,h,K,hk=>hk.elim
 |n+1,F,h,K,hk=>by
  unfold dUn at hk;refine bX.loop ((l _ _ _ hk).mono ?_);rintro x j h' ⟨G,rfl,i⟩
  cases x with
  |normal=>exact N5 l i
  |exit id=>exact⟨G,rfl,i⟩
  |ret=>exact⟨G,rfl,i⟩
theorem Dl: ∀{l:List (Nat×TV)}{F:GF}{A:Prop},sY F l A->A/\∀k x,(Db l).get k=some x->x=F.tmg k
 | [],F,A,h=>⟨h,fun k x e=>by simp [Db,PT.get]at e⟩
 | (s,v)::r,F,A,h=>by
  obtain⟨g,h2⟩:=Dl h.2;refine⟨g,fun k x e=>?_⟩;unfold Db at e;rw [PT.get_set]at e;split at e
  ·rename_i i;subst i;simp only [AC]at e;subst e;exact h.1.symm
  ·exact h2 k x e
theorem Dm: ∀{l:List (Nat×Y14)}{F:GF}{A:Prop},sZ F l A->A/\∀k x,(Dc l).get k=some x->x=F.lvg k
 | [],F,A,h=>⟨h,fun k x e=>by simp [Dc,PT.get]at e⟩
 | (s,v)::r,F,A,h=>by
  obtain⟨g,h2⟩:=Dm h.2;refine⟨g,fun k x e=>?_⟩;unfold Dc at e;rw [PT.get_set]at e;split at e
  ·rename_i i;subst i;simp only [AC]at e;subst e;exact h.1.symm
  ·exact h2 k x e
theorem jP{F:GF}{A B:Prop}(g:A->B): ∀{l:List (Nat×TV)},sY F l A->sY F l B
 | [],h=>g h
 | (s,v)::r,h=>⟨h.1,jP g h.2⟩
theorem jQ{F:GF}{A B:Prop}(g:A->B): ∀{l:List (Nat×Y14)},sZ F l A->sZ F l B
 | [],h=>g h
 | (s,v)::r,h=>⟨h.1,jQ g h.2⟩
theorem Qs{v:Inv1}{x:v.X}{F:GF}{h:Heap}{P:Nat->Prop}(A:sY F (v.slots x) (sZ F (v.locs x) (h=v.hp x/\v.cond x/\P (v.meas x)))):
  ∃G m,G.ff=F.ff/\P m/\∀K:GF->Heap->Nat->Prop,(∀(x:v.X)(b:FF),v.cond x->K ⟨Db (v.slots x),Dc (v.locs x),b⟩ (v.hp x) (v.meas x))->K G h m:=by
 obtain⟨i,h2⟩:=Dl A;obtain⟨⟨j,l,p⟩,u⟩:=Dm i;refine⟨⟨Db (v.slots x),Dc (v.locs x),F.ff⟩,v.meas x,FF.ext' (fun k=>?_) (fun k=>?_),p,fun K z=>by rw [j];exact z x F.ff l⟩
 ·simp only [GF.ff,GF.tmg];split
  ·rename_i y g;exact h2 k y g
  ·rfl
 ·simp only [GF.ff,GF.lvg];split
  ·rename_i y g;exact u k y g
  ·rfl
theorem oP: ∀{v:Inv'}{F:GF}{h:Heap}{P:Nat->Prop},v.J F h P-> ∃G m,G.ff=F.ff/\P m/\∀K,v.I K->K G h m
 | .one v,F,h,P,g=>by
  unfold Inv'.J at g;split at g
  ·exact Qs g
  ·exact g.elim
 | .ex v,F,h,P,g=>by
  obtain⟨x,p⟩:=g;exact Qs p
 | .or a b,F,h,P,g=>by
  rcases g with g|g
  ·obtain⟨G,m,i,h2,j⟩:=oP g;exact⟨G,m,i,h2,fun K l=>j K l.1⟩
  ·obtain⟨G,m,i,h2,j⟩:=oP g;exact⟨G,m,i,h2,fun K l=>j K l.2⟩
theorem B2{P i:Nat->Prop}(g: ∀m,P m->i m): ∀{v:Inv'}{F:GF}{h:Heap},v.J F h P->v.J F h i
 | .one v,F,h,hj=>by
  unfold Inv'.J at hj⊢;split at hj
  ·exact jP (fun q=>jQ (fun q=>⟨q.1,q.2.1,g _ q.2.2⟩) q) hj
  ·exact hj
 | .ex v,F,h,hj=>by
  obtain⟨x,j⟩:=hj;exact⟨x,jP (fun q=>jQ (fun q=>⟨q.1,q.2.1,g _ q.2.2⟩) q) j⟩
 | .or a b,F,h,hj=>hj.imp (B2 g) (B2 g)
theorem T1: ∀{v:Inv'}{F:GF}{h:Heap},(v.J F h fun _=>True)-> ∃m,v.J F h fun k=>k<m
 | .one v,F,h,g=>by
  unfold Inv'.J at g⊢;split at g
  ·rename_i x j;exact⟨v.meas x+1,jP (fun q=>jQ (fun q=>⟨q.1,q.2.1,AQ _⟩) q) g⟩
  ·exact g.elim
 | .ex v,F,h,g=>by
  obtain⟨x,j⟩:=g;exact⟨v.meas x+1,x,jP (fun q=>jQ (fun q=>⟨q.1,q.2.1,AQ _⟩) q) j⟩
 | .or a b,F,h,g=>by
  rcases g with g|g
  ·obtain⟨m,i⟩:=T1 g;exact⟨m,.inl i⟩
  ·obtain⟨m,i⟩:=T1 g;exact⟨m,.inr i⟩
theorem uR(hC: ∀g xs h Q,C g xs h Q->aO E g xs h Q){U:Nat->Nat}{IL IC:Nat->Option Inv'} : ∀{c:Code}{F:GF}{h:Heap}{K:Ex->GF->Heap->Prop},dC (aS C) E f U IL IC c F h K->bX E f c F.ff h fun x p h'=> ∃G,G.ff=p/\K x G h':=by
 intro c
 induction c with
 |skip=>intro F h K l;exact bX.skip ⟨F,rfl,l⟩
 |exit id=>intro F h K l;exact bX.exit ⟨F,rfl,l⟩
 |ret=>intro F h K l;exact bX.ret ⟨F,rfl,l⟩
 |region id ops draw=>
  intro F h K l;unfold dC at l;split at l
  ·rename_i Y;have:=lF hC l;rw [Df]at this;refine bX.region ?_;rw [Y];exact this
  ·rename_i j r Y;have:=lF hC l;rw [Df]at this;refine bX.region ?_;rw [Y];exact this
 |seq a b iha ihb=>
  intro F h K l;unfold dC at l;split at l
  ·split at l
   ·refine bX.seq ((iha l).mono ?_);rintro x p h' ⟨G,rfl,i⟩
    cases x with
    |normal=>exact ihb i
    |exit id=>exact⟨G,rfl,i⟩
    |ret=>exact⟨G,rfl,i⟩
   ·rename_i v Z;obtain⟨M,l⟩:=l;refine bX.seq ((iha l.1).mono ?_);rintro x p h' ⟨G,rfl,i⟩
    cases x with
    |normal=>
     obtain⟨u,m,D,O,L⟩:=oP i;have:=ihb (L _ l.2 O);rw [D]at this;exact this
    |exit id=>exact⟨G,rfl,i⟩
    |ret=>exact⟨G,rfl,i⟩
  ·rename_i v Z;refine bX.seq ((iha l.1).mono ?_);rintro x p h' ⟨G,rfl,i⟩
   cases x with
   |normal=>
    obtain⟨u,m,D,_,L⟩:=oP i;have:=ihb (L _ l.2);rw [D]at this;exact this
   |exit id=>exact⟨G,rfl,i⟩
   |ret=>exact⟨G,rfl,i⟩
 |cond c a b iha ihb=>
  intro F h K l;unfold dC at l;split at l
  ·rename_i x V
   cases x with
   |true=>
    refine bX.cond (b:=true) V (fun _=>?_) (fun e=>by cases e);have:=iha (F:=Dd c F true) l;rw [uP V]at this;exact this
   |false=>
    refine bX.cond (b:=false) V (fun e=>by cases e) (fun _=>?_);have:=ihb (F:=Dd c F false) l;rw [uP V]at this;exact this
  ·exact l.elim
 |block id c ih=>
  intro F h K l;refine bX.block ((ih l).mono ?_);rintro x p h' ⟨G,rfl,i⟩
  cases x with
  |normal=>exact⟨G,rfl,i⟩
  |ret=>exact⟨G,rfl,i⟩
  |exit id'=>
   simp only at i⊢;split at i
   ·rename_i X;rw [if_pos (AS X)];exact⟨G,rfl,i⟩
   ·rename_i X;rw [if_neg (ES X)];exact⟨G,rfl,i⟩
 |loop c ih=>
  intro F h K l;unfold dC at l;split at l
  ·rename_i n hu;exact N5 (fun F h K=>ih) l
  ·split at l
   ·rename_i v Z;obtain⟨z,hi⟩:=l;have T: ∀(n:Nat)(F:GF)(h:Heap),(v.J F h fun m=>m<n)->bX E f (.loop c) F.ff h fun x p h'=> ∃G,G.ff=p/\K x G h':=by
     intro n
     induction n with
     |zero=>intro F h z;obtain⟨G,m,_,O,_⟩:=oP z;omega
     |succ n ihn=>
      intro F h z;obtain⟨G,m,D,O,L⟩:=oP z;have:=ih (L _ hi);rw [<-D];refine bX.loop (this.mono ?_);rintro x p h' ⟨u,rfl,i⟩
      cases x with
      |normal=>
       refine ihn u h' ?_;have A:v.J u h' fun m'=>m'<m:=i
       exact B2 (fun k l=>IM) A
      |exit id=>exact⟨u,rfl,i⟩
      |ret=>exact⟨u,rfl,i⟩
    obtain⟨m,O⟩:=T1 z;exact T m F h O
   ·split at l
    ·rename_i v Z;obtain⟨M,z,hi⟩:=l;have T: ∀(n:Nat)(F:GF)(h:Heap),n<=M+1->(v.J F h fun m=>m<n)->bX E f (.loop c) F.ff h fun x p h'=> ∃G,G.ff=p/\K x G h':=by
      intro n
      induction n with
      |zero=>intro F h _ z;obtain⟨G,m,_,O,_⟩:=oP z;omega
      |succ n ihn=>
       intro F h hn z;obtain⟨G,m,D,O,L⟩:=oP z;have:=ih (L _ hi IM);rw [<-D];refine bX.loop (this.mono ?_);rintro x p h' ⟨u,rfl,i⟩
       cases x with
       |normal=>
        refine ihn u h' IM ?_;have A:v.J u h' fun m'=>m'<m:=i
        exact B2 (fun k l=>IM) A
       |exit id=>exact⟨u,rfl,i⟩
       |ret=>exact⟨u,rfl,i⟩
     exact T (M+1) F h (AJ _) (B2 (fun k l=>IM) z)
    ·exact l.elim
 |scope c ih=>intro F h K l;exact bX.scope (ih l)
 |_=>intros;rename_i l;exact l.elim
theorem Jw(u: ∀g xs h Q,C g xs h Q->aO E g xs h Q){U:Nat->Nat}{IL IC:Nat->Option Inv'} : ∀{c:Code}{F:GF}{h:Heap}{K:Ex->GF->Heap->Prop},
  Jt (aS C) E f U IL IC c F h K->A8 (aS C) E f U IL IC c K->bX E f c F.ff h fun x p h'=> ∃G,G.ff=p/\K x G h':=by
 intro c
 induction c with
 |seq a b iha ihb=>
  intro F h K l j;unfold Jt at l;unfold A8 at j;split at l
  ·rename_i L;simp only [L]at j;refine bX.seq ((uR u l).mono ?_);rintro x p h' ⟨G,rfl,i⟩
   cases x with
   |normal=>exact ihb i j
   |exit id=>exact⟨G,rfl,i⟩
   |ret=>exact⟨G,rfl,i⟩
  ·rename_i v O;simp only [O]at j;refine bX.seq ((uR u l).mono ?_);rintro x p h' ⟨G,rfl,i⟩
   cases x with
   |normal=>
    obtain⟨T,m,A,_,D⟩:=oP i;have:=ihb (D _ j.1) j.2;rw [A]at this;exact this
   |exit id=>exact⟨G,rfl,i⟩
   |ret=>exact⟨G,rfl,i⟩
 |block id c ih=>
  intro F h K l j;refine bX.block ((ih (K:=b4D id K) l j).mono ?_);rintro x p h' ⟨G,rfl,i⟩;unfold b4D at i
  cases x with
  |normal=>exact⟨G,rfl,i⟩
  |ret=>exact⟨G,rfl,i⟩
  |exit id'=>
   simp only at i⊢;split at i
   ·rename_i z;rw [if_pos (AS z)];exact⟨G,rfl,i⟩
   ·rename_i z;rw [if_neg (ES z)];exact⟨G,rfl,i⟩
 |scope c ih=>intro F h K l j;exact bX.scope (ih l j)
 |_=>intro F h K l _;exact uR u l
theorem Jx{F:GF}{h:Heap}{K:IV->Prop}{r:ResultVar}(g:c2L (aS C) E f F h K r){i:Fr}(hf:i.ff=F.ff): ∃v,tX E.P i h r=some v/\K v:=by
 have p:i.tm.get=F.tmg:=congrArg FF.tm hf;have u:i.lv.get=F.lvg:=congrArg FF.lv hf;unfold c2L at g;unfold tX
 simp only [p,u];split at g
 ·rename_i t;split at g
  ·rename_i v D;exact⟨v,D,g⟩
  ·exact g.elim
 ·rename_i a t;split at g
  ·rename_i s l ha;split at g
   ·rename_i cs A;obtain⟨v,j,h2⟩:=nI g;exact⟨v,by simp only [ha,A];exact j,h2⟩
   ·exact g.elim
  ·rename_i id l ha;simp only [aS,aE]at g;split at g
   ·rename_i cs z;obtain⟨v,j,h2⟩:=nI (C:=C) g;exact⟨v,by simp only [ha,z];exact j,h2⟩
   ·exact g.elim
  ·exact g.elim
theorem qN{F:GF}{h:Heap}{g:Fr}(hf:g.ff=F.ff): ∀{l:List ResultVar}{K:Y14->Prop},A9 (aS C) E f F h l K-> ∃vs,gT E.P g h l=some vs/\K vs
 | [],K,hk=>⟨[],rfl,hk⟩
 |r::rs,K,hk=>by
  unfold A9 at hk;obtain⟨v,i,h2⟩:=Jx hk hf;obtain⟨vs,j,p⟩:=qN hf h2;exact⟨v::vs,by simp only [gT,i,j],p⟩
theorem B3: ∀(g:Y14)(i:Nat)(t:PT TV)(u:PT (Option TV)),(∀k,(match u.get k with|some x=>x|none=>none)=t.get k)->
  ∀k,(match(S7 g i u).get k with|some x=>x|none=>none)=(jK g i t).get k
 | [],i,t,u,h,k=>h k
 |v::r,i,t,u,h,k=>by
  unfold S7 jK
  refine B3 r (i+1) _ _ (fun k=>?_) k;simp only [PT.get_set]
  by_cases hk:k=i
  ·simp [hk]
  ·simp only [hk,if_false];exact h k
theorem Wt(g:Y14):(S8 g).ff=Fr.ff ⟨jK g 0 .nil,.nil⟩:=
 FF.ext' (fun k=>B3 g 0 .nil .nil (fun k=>rfl) k) (fun k=>rfl)
theorem yI(l: ∀g xs h Q,C g xs h Q->aO E g xs h Q){U:Nat->Nat}{IL IC:Nat->Option Inv'}{rs:List ResultVar}{c:Code}{h:Heap}{K:Y14->Heap->Prop}
  (hk:Qq (aS C) E f U IL IC rs c d h K): ∃n vs h',gZ E f (iP E n) n rs c d h=some (vs,h')/\K vs h':=by
 unfold Qq at hk;have hs:bX E f c (S8 d).ff h fun x z h'=> ∃G,G.ff=z/\(fun(x:Ex)(F:GF)(h':Heap)=>match x with
   | .exit _=>False
   |_=>A9 (aS C) E f F h' rs fun vs=>K vs h') x G h':=by
  split at hk
  ·exact uR l hk
  ·exact Jw l hk.1 hk.2
 have A:=hs ⟨jK d 0 .nil,.nil⟩ (Wt d).symm;obtain⟨n,x,D,h',u,G,p,h2⟩:=A
 cases x with
 |exit id=>exact h2.elim
 |normal=>
  obtain⟨vs,i,j⟩:=qN p.symm h2;exact⟨n,vs,h',by simp [gZ,u,i],j⟩
 |ret=>
  obtain⟨vs,i,j⟩:=qN p.symm h2;exact⟨n,vs,h',by simp [gZ,u,i],j⟩
theorem yJ{h:Heap}{v:IV}{K:IV->Heap->Prop}(g:Qo (aS C) h v K):K (qB h v).1 (qB h v).2:=by
 unfold Qo at g;split at g
 ·simp only [aS,aE]at g;split at g
  ·rename_i cs u;have j:(aS C).need _ _:=g;obtain⟨i,h2⟩:=cC.1 j;simp only [AF]at i;have l:=CC i.1;have p:=CC i.2;simp only [qB,u];rw [if_pos ⟨l,p⟩];exact h2
  ·exact g.elim
 ·rename_i z;have:qB h v=(v,h):=by
   unfold qB
   split
   ·exact absurd rfl (z _ _ _ _)
   ·rfl
  rw [this];exact g
theorem mA{g:Heap->IV->(IV->Heap->Prop)->Prop}{i:Heap->IV->IV×Heap}(j: ∀h v K,g h v K->K (i h v).1 (i h v).2): ∀{vs:Y14}{h:Heap}{K:Y14->Heap->Prop},N0 g vs h K->K (sT i h vs).1 (sT i h vs).2
 | [],h,K,hk=>hk
 |v::r,h,K,hk=>by
  unfold N0 at hk;have:=j _ _ _ hk;exact mA (vs:=r) j this
theorem yK{h:Heap}{v:IV}{K:IV->Heap->Prop}(g:Qp (aS C) h v K):K (zX h v).1 (zX h v).2:=by
 unfold Qp at g;split at g
 ·exact mA (fun _ _ _ q=>yJ q) g
 ·rename_i i;have:zX h v=qB h v:=by
   unfold zX
   split
   ·exact absurd rfl (i _)
   ·rfl
  rw [this];exact yJ g
theorem Dn{h:Heap}{v:IV}{K:IV->Heap->Prop}(j:Zu (aS C) h v K):K (Iy h v).1 (Iy h v).2:=by
 unfold Zu at j;have g:=yK j;unfold Iy
 generalize zX h v=y at g⊢;obtain⟨p,h'⟩:=y;dsimp only at g⊢;split at g
 ·exact g _ _ .mk
 ·rename_i l;split
  ·rename_i i;simp only [BY]at i;exact absurd i.1 (l _ _ _ _)
  ·exact g
theorem J8{vs:Y14}{h:Heap}{K:Y14->Prop}(g:S9 (aS C) E f vs h K):K (zY E f vs h):=by
 unfold S9 at g;unfold zY
 split at g
 ·rename_i i;rw [if_pos i];split at g
  ·rename_i hd;rw [if_pos hd];exact mA (fun _ _ _ q=>Dn q) g
  ·rename_i hd;rw [if_neg (by simp [hd])];exact mA (fun _ _ _ q=>yK q) g
 ·rename_i i;rw [if_neg (by simp [i])];exact g
theorem Zx(l: ∀g xs h Q,C g xs h Q->aO E g xs h Q){U:Nat->Nat}{IL IC:Nat->Option Inv'}{h:Heap}{Q:IV->Heap->Prop}
  (i:dF (aS C) E f U IL IC d h Q):aO E f d h Q:=by
 unfold dF at i;split at i
 case h_2=>exact i.elim
 rename_i fn hf;split at i
 case h_2=>exact i.elim
 rename_i c p;split at i
 ·rename_i hi;obtain⟨n,vs,h',j,h2⟩:=yI l i;refine⟨n+1,(iO E f (iN (wC E f fn.resultTypes.toList vs)) h').1,(iO E f (iN (wC E f fn.resultTypes.toList vs)) h').2,?_,?_⟩
  ·rw [iB];simp only [hf,p,hi,j]
  ·split at h2
   ·exact h2
   ·rename_i D;simpa [iO,D]using h2
 ·rename_i hi;obtain⟨A,i⟩:=cC.1 i;obtain⟨n,vs,h',j,h2⟩:=yI l i;obtain⟨u,z⟩:=cC.1 (J8 h2);refine⟨n+1,_,h,?_,z⟩;rw [iB];simp only [hf,p,hi,A,j,if_true,R9,u,DN]
end
end Go.Pv
namespace Go.Pv
def aP(E:Env)(C:FuncId->Y14->Heap->(IV->Heap->Prop)->Prop):Prop:= ∀g xs h Q,C g xs h Q->aO E g xs h Q
def noC:FuncId->Y14->Heap->(IV->Heap->Prop)->Prop:=fun _ _ _ _=>False
def aT(g:FuncId)(k:Y14->Heap->(IV->Heap->Prop)->Prop)(C:FuncId->Y14->Heap->(IV->Heap->Prop)->Prop):FuncId->Y14->Heap->(IV->Heap->Prop)->Prop:=
 fun i xs h K=>match Nat.beq i g with
  |true=>k xs h K
  |false=>C i xs h K
def dL:Nat->Nat:=fun _=>0
def bS:Nat->Option Inv':=fun _=>none
theorem jR(E:Env):aP E noC:=fun _ _ _ _ h=>h.elim
theorem aF{E:Env}{g:FuncId}{k:Y14->Heap->(IV->Heap->Prop)->Prop}{C:FuncId->Y14->Heap->(IV->Heap->Prop)->Prop}(p: ∀xs h Q,k xs h Q->aO E g xs h Q)(l:aP E C):aP E (aT g k C):=by
 intro j xs h Q i;unfold aT at i;split at i
 ·rename_i e;obtain rfl:=AS e;exact p xs h Q i
 ·exact l j xs h Q i
theorem aC{b:Bool}{A B:Prop}(ha:b=true->A)(g:b=false->B):aJ b A B:=by
 cases b with
 |true=>exact ha rfl
 |false=>exact g rfl
theorem aA{b:Bool}{A:Prop}(g:b=true)(ha:A):aD b A:=by subst g;exact ha
theorem fI{Q:IV->Heap->Prop}{v g:IV}{h:Heap}(i:Q v h)(e:v=g):Q g h:=e▸i
theorem d0U{A B:Prop}(e:A=B)(g:B):A:=e▸g
theorem aN{E:Env}{C:FuncId->Y14->Heap->(IV->Heap->Prop)->Prop}(i:aP E C){f:FuncId}{U:Nat->Nat}{IL IC:Nat->Option Inv'}{h:Heap}{Q:IV->Heap->Prop}{g:Prop}
 (e:dF (aS C) E f U IL IC c h Q=g) (hk:g):aO E f c h Q:=Zx i (d0U e hk)
end Go.Pv
namespace Go.Pv
def atC(g:List (Nat×TV))(i:List (Nat×Y14))(h:Heap):Inv':= .one ⟨Unit,fun _=>g,fun _=>i,fun _=>h,fun _=>True,fun _=>0,fun _ _=>some ()⟩
def kR(n:Nat)(v:Inv'):Nat->Option Inv':=fun k=>match Nat.beq k n with
 |true=>some v
 |false=>none
def N6(n:Nat)(v:Inv')(r:Nat->Option Inv'):Nat->Option Inv':=fun k=>match Nat.beq k n with
 |true=>some v
 |false=>r k
def eY(X:Type)(g:X->List (Nat×TV))(i:X->List (Nat×Y14))(l:X->Heap)(cond:X->Prop)(j:X->Nat):Inv':= .ex ⟨X,g,i,l,cond,j,fun _ _=>none⟩
theorem cT{k:IntKind}{l:Y12}{i:Nat}{K:Int->Prop}(h:i<l.length)(g:K l[i]):aI k (l.map (IV.int k)) i K:=by
 unfold aI
 rw [BL,AA h];simpa using g
def icS(r:Nat->Option Inv'):Nat->Option Inv':=N6 Zt (atC [] [] Heap.empty) r
theorem bK{a b:Nat} :Nat.beq a b=true ↔ a=b:=⟨AS,fun h=>by subst h;exact IJ a⟩
theorem Jy{a b:Nat} :Nat.beq a b=false ↔ a≠b:=by rw [<-Bool.not_eq_true,bK]
theorem bT{k:IntKind} : ∀{l:Y12},aM (l.map (IV.int k))=true
 | []=>rfl
 |_::r=>by simp only [CF,aM,bI,BN];exact bT
theorem bF: ∀{l m:Y14},aM (l++m)=(aM l&&aM m)
 | [],m=>by simp [aM]
 |x::r,m=>by simp only [CQ,aM,bF,Bool.and_assoc]
end Go.Pv
end
section
namespace Go.Pv
open Go.ChangeShapes Go.RowKit
def M0(W:World):Meta where
 nid:=0
 loc:=fun _=>none
 tip:=fun _=>0
 cur:=fun _=>(0,0)
 im:=fun b o=>W.cell? ⟨b,o,none⟩
 bsz:=fun b=>match W.heap[b]? with|some (.cells c _ _)=>some c.size|_=>none
theorem d5U(W:World):Inv (M0 W) Heap.empty W where
 nid:=rfl
 fresh:=fun id _=>by simp [Heap.empty,Heap.get,PT.get]
 freshl:=fun _ _=>rfl
 cells:=fun id cs e=>by simp [Heap.empty,Heap.get,PT.get]at e
 tips:=fun id n e=>by simp [Heap.empty,Heap.get,PT.get]at e
 maps:=fun id i e=>by simp [Heap.empty,Heap.get,PT.get]at e
 im:=fun b o v e=>e
 bsz:=fun b n e=>by
  simp only [M0]at e;split at e
  ·rename_i h;exact cW h
  ·simp at e
 one:=fun id g b e _=>by simp [Wb,Heap.empty,Heap.get,PT.get]at e
 resv:=fun id e=>by simp [Heap.empty,Heap.get,PT.get]at e
theorem Wu{E:Env}(z:E.P.follows .mixedOrders=true)(p:wM E.P=true){f:FuncId}{v:IV}(A:iP E i f c Heap.empty=some (v,h))
  (W:World) {rs:List Value} (hG:Cp E (M0 W)) (hv:cX (M0 W) c rs):
  Calls E.P f rs.toArray W fun e j=> ∃r M',e= .returned r/\VR M' v r/\Below W.heap.size W j:=by
 refine((Cy z p i f c Heap.empty v h A).2 (M0 W) W rs (d5U W) hG hv).mono ?_;rintro e j ⟨r,M',l,h2,D,g⟩;exact⟨r,M',l,h2,g.os,g.tape,g.output,g.size,fun k u=>(g.keep k u (by rintro⟨id,e⟩;simp [Wb,Heap.empty,Heap.get,PT.get]at e)).1⟩
theorem Zy{E:Env}(u:E.P.follows .mixedOrders=true)(p:wM E.P=true){f:FuncId}(z:iP E i f c Heap.empty=some (.bool true,h))
  (W:World) {rs:List Value} (hG:Cp E (M0 W)) (hv:cX (M0 W) c rs):
  Calls E.P f rs.toArray W fun e g=>e= .returned (.bool true)/\Below W.heap.size W g:=by
 refine(Wu u p z W hG hv).mono ?_;rintro e g ⟨r,M',j,h2,l⟩
 cases h2
 exact⟨j,l⟩
section
variable {H:Type} {enc:TypeId×Value->H} {P:Program}
theorem sM(u:laidOutB P=true){W j:World}(l:Below W.heap.size W j)(sp:Nat->Bool):
  ∀{ts:List TypeId}{vs:List Value}{i:List (DataW H)}{ps:List MemPlace},ts.all (fun t=>P.readableRec t&&decide (t<P.types.size))=true->DataW.TrodAll enc P W 0 (fun _=>true) true ts vs i ps->
   (∀p∈ps,p.block<W.heap.size)->(∀p∈ps,sp p.block=true)->DataW.TrodAll enc P j 0 sp true ts vs i ps
 | [],vs,i,ps,_,h,_,_=>by
  obtain⟨rfl,rfl,rfl⟩:=trodAll_nil h;exact trodAll_mk0
 |t::ts,vs,i,ps,ht,h,hlt,hsp=>by
  obtain⟨v,D,d,z,p,q,rfl,rfl,rfl,A,h2⟩:=trodAll_cons h;simp only [EP,AF,decide_eq_true_eq]at ht;exact⟨p,q,WideElems.Trod_stays u ht.1.1 ht.1.2 A (fun x g=>l.same (hlt x (by simp [g]))) (fun x g=>hsp x (by simp [g])),
   sM u l sp (by simpa using ht.2) h2 (fun x g=>hlt x (by simp [g])) (fun x g=>hsp x (by simp [g])),rfl⟩
theorem J9{f:Func}{s:ChangeSpec}{apart fresh j A:Bool}{W G:World}{i:Array Value}{z O:List (DataW H)}{g:List MemPlace}{tb:TypeId}
  (hl:laidOutB P=true) (hrd:f.params.toList.all (fun t=>P.readableRec t&&decide (t<P.types.size))=true) (hrt:f.resultTypes= #[tb]) (hub:P.underlying tb=some .bool)
  (hW:DataW.Whole enc P f.params.toList s.vars apart W i.toList z O g) (hvars:s.vars=[]) (hb:Below W.heap.size W G)
  (hres:(s.fn H (z++O)).results=[.lit (.bool true)]) (hargs:(s.fn H (z++O)).args=z) (hvs:(s.fn H (z++O)).vars=[]):
  s.post enc P f apart fresh j A W i (.bool true) G:=by
 have l: ∀p∈g,p.block<W.heap.size:=fun p u=>hW.lt p u
 have T:=hW;obtain⟨p,q,hA,Y,L,hz,hn⟩:=T;rw [hvars]at Y;obtain⟨rfl,rfl⟩:=trodVars_none Y;rw [DK]at L;subst L;have r1: ∀(b:Nat)(sp:Nat->Bool)(hd:Bool),DataW.TrodAll enc P G b sp hd f.resultTypes.toList ((Value.bool true).resultList f.resultTypes.size) (s.fn H (z++ [])).results []:=by
  intro b sp hd;rw [hres,hrt];exact trodAll_mk1 (shut_bool hub true)
 have X: ∀sp:Nat->Bool,(∀p∈g,sp p.block=true)->DataW.TrodAll enc P G 0 sp true f.params.toList i.toList (s.fn H (z++ [])).args g:=by
  intro sp V;rw [hargs];exact sM hl hb sp hrd hA l V
 have Z: ∀sp:Nat->Bool,DataW.TrodVars enc P G sp s.vars (s.fn H (z++ [])).vars []:=by
  intro sp;rw [hvs,hvars];rfl
 refine⟨z,[],g,[],g,[],hW,r1 _ _ _,X _ (fun p u=>by simpa using l p u),Z _,World.keptBut_mono (fun p u=>⟨u,by simp [u]⟩) (hb.frame (· ∈g)),fun _=>⟨ok_one hrt rfl (okWide_bool_mk hub true),_,_,([]++g)++ [],
  ⟨[]++g,[],trodAll_append (X _ (fun _ _=>rfl)) (r1 _ _ _),Z _,rfl,?_,?_⟩,?_⟩⟩
 ·intro b D u;have K:MemPlace.cell b D∈g:=by simpa using u
  rw [hb.frozen (p:=⟨b,D,none⟩) (l _ K)];exact hz b D K
 ·intro ha;simpa using hn ha
 ·intro p u _;simpa using u
end
end Go.Pv
end
section
namespace Go.Pv
section
variable {H:Type}
def dl(g:DataW H->Option (Y14)):List (DataW H)->Option (Y14)
 | []=>some []
 |d::r=>match g d,dl g r with
  |some x,some y=>some (x++y)
  |_,_=>none
def dfs(P:Program)(g:TypeId->DataW H->Option (Y14)):Nat->List Field->List (DataW H)->Option (Y14)
 |off,[],[]=>some []
 |off,f::fs,d::r=>if f.offset=off then match g f.type d,dfs P g (off+P.cellsOf f.type) fs r with
   |some x,some y=>if x.length=P.cellsOf f.type then some (x++y)else none
   |_,_=>none
  else none
 |_,_,_=>none
def eN(P:Program):Nat->TypeId->DataW H->Option (Y14)
 |0,_,_=>none
 |n+1,t,d=>
  match P.underlying t,d with
  |some .bool,.lit (.bool b)=>some [.bool b]
  |some (.int _),.lit (.int k z)=>some [.int k z]
  |some .string,.lit (.string l)=>some [.str l]
  |some (.pointer _),.nil=>some [.nilptr]
  |some (.slice e),.nil=>some [.vslice none 0 0 (P.cellsOf e) []]
  |some (.map ..),.nil=>some [.nilmap]
  |some (.slice e),.slice elems _=>match dl (eN P n e) elems with
   |some l=>if 0<P.cellsOf e/\l.length=elems.length*P.cellsOf e then some [.vslice none 0 elems.length (P.cellsOf e) l]else none
   |none=>none
  |some (.struct fs),.agg ds=>match dfs P (eN P n) 0 fs.toList ds with
   |some l=>if l.length=P.cellsOf t then some l else none
   |none=>none
  |some (.array m e),.agg ds=>match dl (eN P n e) ds with
   |some l=>if l.length=P.cellsOf t/\l.length=m*P.cellsOf e/\ds.length=m/\0<P.cellsOf e then some l else none
   |none=>none
  |_,_=>none
end
theorem oQ{M:Meta}{x:IV}{r:Value}(h:VR M x r)(g:isCell x=true):eB M [x] [r]:=eB.cons h g (eB.nil M)
section
variable {H:Type} {enc:TypeId×Value->H} {P:Program} {W:World} {sp:Nat->Bool} {hd:Bool}
theorem lG{α β:Type}{f:α->Option β}{x:α}{l:List α}{r:List β}(h:(x::l).mapM f=some r): ∃b g,f x=some b/\l.mapM f=some g/\r=b::g:=by
 simp only [HX,Option.bind_eq_bind,CJ,Option.pure_def,AC]at h;obtain⟨b,i,g,j,rfl⟩:=h;exact⟨b,g,i,j,rfl⟩
theorem nJ{α β:Type}{f:α->Option β}{r:List β}(h:([]:List α).mapM f=some r):r=[]:=by
 simpa [eq_comm]using h
theorem b4G{g:DataW H->Option (Y14)}{d:DataW H}{r:List (DataW H)}{l:Y14}(h:dl g (d::r)=some l): ∃x y,g d=some x/\dl g r=some y/\l=x++y:=by
 simp only [dl]at h;split at h
 ·rename_i x y i h2;exact⟨x,y,i,h2,(AX h).symm⟩
 ·cases h
theorem wP{F:List Value->Option (DataW H×List MemPlace)}{g:DataW H->Option (Y14)}(D: ∀cs d ps xs,F cs=some (d,ps)->g d=some xs->eB (M0 W) xs cs)
  {rd:Nat->Option (List Value)} : ∀(p:List Nat)(j:List (DataW H×List MemPlace))(l:Y14),p.mapM (fun i=>(rd i).bind F)=some j->dl g (j.map (·.1))=some l->
  ∃u:List (List Value),p.mapM rd=some u/\eB (M0 W) l u.flatten
 | [],j,l,h,hl=>by
  obtain rfl:=nJ h;simp only [FO,dl,AC]at hl;subst hl;exact⟨[],rfl,eB.nil _⟩
 |i::p,j,l,h,hl=>by
  obtain⟨b,V,K,L,rfl⟩:=lG h;simp only [CF]at hl;obtain⟨x,y,O,T,rfl⟩:=b4G hl;obtain⟨u,G,h2⟩:=wP D p V y L T;obtain⟨cs,A,z⟩:=CJ.1 K;refine⟨cs::u,by simp [A,G],?_⟩;simp only [FW];exact(D cs b.1 b.2 x z O).append h2
theorem iF{α β:Type}{f:α->Option β} : ∀{l:List α}{r:List β},l.mapM f=some r->l.length=r.length/\∀(i:Nat)(a:α),l[i]?=some a-> ∃b,r[i]?=some b/\f a=some b
 | [],r,h=>by obtain rfl:=nJ h;exact⟨rfl,fun i a e=>by simp at e⟩
 |x::l,r,h=>by
  obtain⟨b,u,j,p,rfl⟩:=lG h;obtain⟨g,h2⟩:=iF p;refine⟨by simp [g],fun i a e=>?_⟩
  cases i with
  |zero=>simp at e;subst e;exact⟨b,rfl,j⟩
  |succ i=>exact h2 i a (by simpa using e)
theorem qO{α:Type}{sz:Nat} : ∀{g:List (List α)},(∀v∈g,v.length=sz)-> ∀(i j:Nat)(v:List α),g[i]?=some v->j<sz->g.flatten[i*sz+j]?=v[j]?
 | [],_,i,j,v,h,_=>by simp at h
 |u::g,hl,0,j,v,h,hj=>by
  simp at h;subst h;simp only [FW,EX,BT];rw [BD (by rw [hl u IP];exact hj)]
 |u::g,hl,i+1,j,v,h,hj=>by
  simp only [FW];have l:=hl u IP;rw [BU (by rw [l];rw [DV];omega),l];have:(i+1)*sz+j-sz=i*sz+j:=by rw [DV];omega
  rw [this];exact qO (fun x p=>hl x (by simp [p])) i j v (by simpa using h) hj
theorem qP{α:Type}{sz:Nat} : ∀{g:List (List α)},(∀v∈g,v.length=sz)->g.flatten.length=g.length*sz
 | [],_=>IP
 |u::g,hl=>by
  simp only [FW,AH,AK];rw [hl u IP,qP (fun x i=>hl x (by simp [i])),DV,Nat.add_comm]
theorem Zz{a:Addr}{sz n:Nat}{g:List (List Value)}(A:0<sz)(h:(List.range n).mapM (fun i=>W.cells? 0 (a.add (i*sz)) sz)=some g):
  g.length=n/\g.flatten.length=n*sz/\(0<n->a.spot=none)/\∀i,i<n*sz-> ∃v,g.flatten[i]?=some v/\W.cell? ⟨a.block,a.off+i,none⟩=some v:=by
 obtain⟨K,h2⟩:=iF h;simp only [HC]at K;have u: ∀v∈g,v.length=sz:=by
  intro v z;obtain⟨i,hi,rfl⟩:=GJ z;obtain⟨b,L,O⟩:=h2 i i (by simp [K,hi]);rw [AA hi]at L;obtain rfl:=AX L;exact(World.cells?_some O).2.1
 have G:=qP u;rw [<-K]at G;have l: ∀i j,i<n->j<sz-> ∃v,g.flatten[i*sz+j]?=some v/\W.cell? ((a.add (i*sz)).add j)=some v:=by
  intro i j hi X;obtain⟨b,L,O⟩:=h2 i i (by simp [hi]);obtain⟨_,V,Z⟩:=World.cells?_some O;refine⟨b[j]'IM,?_,?_⟩
  ·rw [qO u i j b L X,AA]
  ·rw [Z j X,AA]
 have p:0<n->a.spot=none:=by
  intro T;obtain⟨v,_,z⟩:=l 0 0 T A;simp only [EX,Addr.add,if_true]at z
  cases hs:a.spot with
  |none=>rfl
  |some s=>
   unfold World.cell? at z;rw [hs]at z;simp at z;split at z<;>simp at z
 refine⟨K.symm,G,p,fun i hi=>?_⟩;have T:0<n:=by
  rcases FP n with e|e
  ·subst e;simp at hi
  ·exact e
 have D:i/sz<n:=(EY A).2 hi;obtain⟨v,Y,V⟩:=l (i/sz) (i%sz) D (IA _ A);have e:i/sz*sz+i%sz=i:=by rw [Nat.mul_comm];exact Nat.div_add_mod i sz
 rw [e]at Y;refine⟨v,Y,?_⟩;obtain⟨b,o,s⟩:=a;have:s=none:=p T;subst this;rw [dH,dH,FD,e]at V;exact V
theorem c2N{b o:Nat}{v:Value}(h:W.cell? ⟨b,o,none⟩=some v): ∃n,(M0 W).bsz b=some n/\o<n:=by
 unfold World.cell? at h;simp only [DI,BA,if_false]at h;simp only [M0];split at h
 ·rename_i c i j g;rw [g];exact⟨c.size,rfl,(GZ.1 h).1⟩
 ·simp at h
theorem a0A{g:TypeId->DataW H->Option (Y14)}{F:TypeId->List Value->Option (DataW H×List MemPlace)}(z: ∀t cs d ps xs,F t cs=some (d,ps)->g t d=some xs->eB (M0 W) xs cs){cs:List Value} :
  ∀(p:List Field)(i:Nat)(xs:List (DataW H×List MemPlace))(l:Y14),p.mapM (fun f=>F f.type ((cs.drop f.offset).take (P.cellsOf f.type)))=some xs->dfs P g i p (xs.map (·.1))=some l->
  eB (M0 W) l ((cs.drop i).take l.length)
 | [],i,xs,l,h,hl=>by
  obtain rfl:=nJ h;simp only [FO,dfs,AC]at hl;subst hl;exact eB.nil _
 |f::p,i,xs,l,h,hl=>by
  obtain⟨b,O,A,G,rfl⟩:=lG h;simp only [CF,dfs]at hl;split at hl
  case isFalse=>cases hl
  rename_i D;split at hl
  case h_2=>cases hl
  rename_i x y K L;split at hl
  case isFalse=>cases hl
  rename_i j;obtain rfl:=(AX hl).symm;have u:=z _ _ b.1 b.2 x A K;have h2:=a0A z p (i+P.cellsOf f.type) O y G L;rw [D]at u;have e:(cs.drop i).take (x++y).length=(cs.drop i).take (P.cellsOf f.type)++(cs.drop (i+P.cellsOf f.type)).take y.length:=by
   rw [AH,j,List.take_add,List.drop_drop]
  rw [e];exact u.append h2
theorem Do(a6: ∀b,sp b=true): ∀(p n:Nat)(t:TypeId)(cs:List Value)(d:DataW H)(ps:List MemPlace)(xs:Y14),DataW.trod enc P W 0 sp hd p t cs=some (d,ps)->eN P n t d=some xs->eB (M0 W) xs cs
 |0,_,_,_,_,_,_,h,_=>by simp [DataW.trod]at h
 |p+1,0,_,_,_,_,_,_,hx=>by simp [eN]at hx
 |p+1,n+1,t,vs,d,ps,xs,h,hx=>by
  have ih:=Do a6 p n;simp only [DataW.trod]at h;simp only [eN]at hx;split at h
  ·rename_i j;obtain⟨rfl,rfl⟩:=CO (Option.some.inj h);simp only [j,AC]at hx;subst hx;exact oQ (.bool _) rfl
  ·rename_i j;split at h
   case isFalse=>cases h
   rename_i hk;obtain⟨rfl,rfl⟩:=CO (Option.some.inj h);simp only [j,AC]at hx;subst hx;rw [hk.1];exact oQ (.int _ _) rfl
  ·rename_i j;split at h
   case isFalse=>cases h
   obtain⟨rfl,rfl⟩:=CO (Option.some.inj h);simp only [j]at hx;cases hx
  ·rename_i j;split at h
   case isFalse=>cases h
   obtain⟨rfl,rfl⟩:=CO (Option.some.inj h);simp only [j,AC]at hx;subst hx;exact oQ (.str _) rfl
  ·rename_i j;obtain⟨rfl,rfl⟩:=CO (Option.some.inj h);simp only [j,AC]at hx;subst hx;exact oQ .nilptr rfl
  ·rename_i j;obtain⟨x,c0,b5⟩:=AD.1 h;obtain⟨rfl,rfl⟩:=CO b5;simp only [j]at hx;cases hx
  ·rename_i j;obtain⟨rfl,rfl⟩:=CO (Option.some.inj h);simp only [j,AC]at hx;subst hx;exact oQ .vnil rfl
  ·rename_i e a len cap j;split at h
   case isFalse=>cases h
   rename_i Z;obtain⟨G,a0,b0⟩:=CJ.1 h;obtain⟨b6,a5,b4⟩:=AD.1 b0;obtain⟨rfl,rfl⟩:=CO b4;simp only [j]at hx;split at hx
   case h_2=>cases hx
   rename_i l hl;split at hx
   case isFalse=>cases hx
   rename_i O;obtain rfl:=(Option.some.inj hx).symm;obtain⟨T,a2,D⟩:=wP (F:=DataW.trod enc P W 0 sp hd p e) (g:=eN P n e) (fun cs d ps xs q1 q2=>ih e cs d ps xs q1 q2) _ G l a0 hl;obtain⟨g1,g2,g3,g4⟩:=Zz O.1 a2;have A:G.length=len:=by
    have:=(iF a0).1;simpa using this.symm
   rw [if_pos (a6 _)]at a5;have a1:cap=0\/ (a.spot=none/\∃m,(M0 W).bsz a.block=some m/\a.off+cap*P.cellsOf e<=m):=by
    rcases FP cap with h0|h0
    ·exact .inl h0
    right
    have K: ∀i,i<cap-> ∃vs,W.cells? 0 (a.add (i*P.cellsOf e)) (P.cellsOf e)=some vs:=by
     intro i hi;rcases BC i len with q|q
     ·obtain⟨b,_,V⟩:=(iF a0).2 i i (by simp [q]);obtain⟨vs,z,_⟩:=CJ.1 V;exact⟨vs,z⟩
     ·obtain⟨b,_,V⟩:=(iF a5).2 (i-len) (i-len) (by rw [GP IM]);obtain⟨vs,z,_⟩:=CJ.1 V;rw [show len+(i-len)=i by omega]at z;exact⟨vs,z⟩
    have L:a.spot=none:=by
     obtain⟨vs,z⟩:=K 0 h0;obtain⟨_,q2,q3⟩:=World.cells?_some z;have:=q3 0 O.1;rw [AA IM]at this;simp only [EX,Addr.add,if_true]at this
     cases hs:a.spot with
     |none=>rfl
     |some s=>
      unfold World.cell? at this;rw [hs]at this;simp at this;split at this<;>simp at this
    refine⟨L,?_⟩;obtain⟨vs,z⟩:=K (cap-1) IM;obtain⟨_,q2,q3⟩:=World.cells?_some z;have:=q3 (P.cellsOf e-1) IM;rw [AA IM]at this;obtain⟨ab,ao,b7⟩:=a;simp only at L;subst L;rw [dH,dH]at this;obtain⟨m,b3,b9⟩:=c2N this;refine⟨m,b3,?_⟩;have e1:cap*P.cellsOf e=(cap-1)*P.cellsOf e+P.cellsOf e:=by
     rw [<-Nat.succ_mul];congr 1;omega
    show ao+cap*P.cellsOf e<=m;omega
   refine oQ ?_ rfl;rw [BF,A];rw [BF,A]at O;refine .vslice a (fun i=>T.flatten.getD i undef) O.2 Z.2.1 a1 ?_ ?_ D.2 IP (fun _=> .inl rfl)
   ·intro i hi;rw [O.2]at hi;obtain⟨v,p1,p2⟩:=g4 i hi;simp only [M0,AN,p1,p2,CS]
   ·intro i hi;have a4:i<T.flatten.length:=by rw [<-D.len];exact hi
    have:=D.1.2 i hi a4;simp only [AN,AA a4,CS];exact this
  ·rename_i cs' fs j;split at h
   case isFalse=>cases h
   rename_i A;obtain⟨ys,a3,u⟩:=AD.1 h;obtain⟨rfl,rfl⟩:=CO u;simp only [j]at hx;split at hx
   case h_2=>cases hx
   rename_i l hl;split at hx
   case isFalse=>cases hx
   rename_i b2;obtain rfl:=(Option.some.inj hx).symm;have:=a0A (W:=W) (F:=fun t cs=>DataW.trod enc P W 0 sp hd p t cs) (g:=eN P n) (fun t cs d ps xs q1 q2=>ih t cs d ps xs q1 q2) fs.toList 0 ys xs a3 hl;rw [CZ,b2,<-A,DR]at this;exact this
  ·rename_i vs xo cs' m e j;split at h
   case isFalse=>cases h
   obtain⟨ys,a3,u⟩:=AD.1 h;obtain⟨rfl,rfl⟩:=CO u;simp only [j]at hx;split at hx
   case h_2=>cases hx
   rename_i l hl;split at hx
   case isFalse=>cases hx
   rename_i hc;obtain rfl:=(Option.some.inj hx).symm;obtain⟨T,a2,D⟩:=wP (F:=DataW.trod enc P W 0 sp hd p e) (g:=eN P n e) (rd:=fun i=>some ((vs.drop (i*P.cellsOf e)).take (P.cellsOf e))) (fun cs d ps xs q1 q2=>ih e cs d ps xs q1 q2) _ ys xs (by simpa using a3) hl;have a8:vs.length=m*P.cellsOf e:=IM;have b1:T.flatten=vs:=by
    obtain⟨g1,g2⟩:=iF a2;simp only [HC]at g1;have a7: ∀v∈T,v.length=P.cellsOf e:=by
     intro v hv;obtain⟨i,hi,rfl⟩:=GJ hv;obtain⟨b,V,Y⟩:=g2 i i (by simp [g1,hi]);rw [AA hi]at V;obtain rfl:=Option.some.inj V;have:=Option.some.inj Y;rw [<-this];simp only [AW,CD,a8];have:i*P.cellsOf e+P.cellsOf e<=m*P.cellsOf e:=by
      rw [<-Nat.succ_mul];exact CE _ IM
     omega
    refine DL (fun k=>?_);rcases BC k (m*P.cellsOf e)with hk|hk
    ·have a9:k/P.cellsOf e<m:=(EY hc.2.2.2).2 hk;obtain⟨b,V,Y⟩:=g2 (k/P.cellsOf e) (k/P.cellsOf e) (by rw [GP a9]);have X:=IA k hc.2.2.2;have e1:k/P.cellsOf e*P.cellsOf e+k%P.cellsOf e=k:=by rw [Nat.mul_comm];exact Nat.div_add_mod k _
     have q:=qO a7 (k/P.cellsOf e) (k%P.cellsOf e) b V X;rw [e1]at q;rw [q,<-Option.some.inj Y,DP,if_pos X,DQ,e1]
    ·rw [BG (by rw [qP a7,<-g1];exact hk),BG IM]
   rw [b1]at D;exact D
  ·rename_i j;obtain⟨rfl,rfl⟩:=CO (Option.some.inj h);simp only [j]at hx;cases hx
  ·rename_i j;split at h
   ·obtain⟨rfl,rfl⟩:=CO (Option.some.inj h);simp only [j]at hx;cases hx
   ·obtain⟨y,_,u⟩:=AD.1 h;obtain⟨rfl,rfl⟩:=CO u;simp only [j]at hx;cases hx
   ·cases h
  ·rename_i j;obtain⟨rfl,rfl⟩:=CO (Option.some.inj h);simp only [j,AC]at hx;subst hx;exact oQ .nilmap rfl
  ·rename_i j;split at h
   case h_2=>cases h
   split at h
   case isFalse=>cases h
   obtain⟨y,_,u⟩:=CJ.1 h;split at u
   case isFalse=>cases u
   obtain⟨rfl,rfl⟩:=CO (Option.some.inj u);simp only [j]at hx;cases hx
  all_goals first
   | (rename_i j;obtain⟨rfl,rfl⟩:=CO (Option.some.inj h);simp only [j]at hx;cases hx)
   | (rename_i j;split at h; (obtain⟨rfl,rfl⟩:=CO (Option.some.inj h);simp only [j]at hx;cases hx);cases h)
   |cases h
def a0B(P:Program)(n:Nat)(t:TypeId)(d:DataW H):Option IV:=
 match eN P n t d with
 |some xs=>match P.underlying t with
  |some (.struct _)=>some (.agg xs)
  |some (.array ..)=>some (.agg xs)
  |_=>match xs with
   | [x]=>some x
   |_=>none
 |none=>none
theorem Jz{base:Nat}{t:TypeId}{v:Value}(h:Cell.okWide P W .any base t v):v.cells= #[v]:=by
 cases v<;>first
  |rfl
  | (exfalso;unfold Cell.okWide at h;split at h<;>(first| (rename_i g h2;cases h2)| (unfold Cell.ok at h;split at h<;>first| (rename_i g h2;cases h2)|exact h)))
theorem c2O{base n:Nat}{t:TypeId}{v:Value}{d:DataW H}{p:List MemPlace}{x:IV}(g:Value.okWide P W .any base t v)(h:DataW.Trod enc P W 0 (fun _=>true) true t v d p)(i:a0B P n t d=some x):VR (M0 W) x v:=by
 obtain⟨l,hf⟩:=h;unfold a0B at i;split at i
 case h_2=>cases i
 rename_i xs G;have u:=Do (fun _=>rfl) l n t _ d p xs hf G;unfold Value.okWide at g;split at i
 ·rename_i K j;simp only [j]at g;obtain⟨cs,rfl,z,h2⟩:=g;obtain rfl:=(AX i).symm;simpa using gK (rc:=cs.toList) u
 ·rename_i m e j;simp only [j]at g;obtain⟨cs,rfl,z,h2⟩:=g;obtain rfl:=(AX i).symm;simpa using gK (rc:=cs.toList) u
 ·rename_i A D;split at i
  case h_2=>cases i
  rename_i y;obtain rfl:=(AX i).symm;split at g
  ·rename_i K j;exact absurd j (A K)
  ·rename_i m e j;exact absurd j (D m e)
  ·rw [Jz g]at u;obtain⟨r,rs,e,z,_⟩:=u.1.uncons;simp at e;rw [e.1];exact z
end
end Go.Pv
end
section
namespace Go.Pv
open Go.ChangeShapes Go.RowKit
theorem Wv{E:Env}(l:E.P.follows .mixedOrders=true)(i:wM E.P=true){f:FuncId}(j:aO E f c Heap.empty fun v _=>v= .bool true)
  (W:World) {rs:List Value} (hG:Cp E (M0 W)) (hv:cX (M0 W) c rs):
  Calls E.P f rs.toArray W fun e g=>e= .returned (.bool true)/\Below W.heap.size W g:=by
 obtain⟨n,v,h',p,rfl⟩:=j;exact Zy l i p W hG hv
section
variable {P:Program} {W:World} {base:Nat} {t:TypeId} {v:Value}
theorem T2{k:IntKind}(g:P.underlying t=some (.int k))(h:Value.okWide P W .any base t v): ∃n,v= .int k n/\k.has n:=by
 unfold Value.okWide at h;simp only [g]at h
 cases v<;>simp [Cell.okWide,Cell.ok,g]at h
 rename_i i n;obtain⟨rfl,h2⟩:=h;exact⟨n,rfl,h2⟩
theorem b4H(g:P.underlying t=some .string)(h:Value.okWide P W .any base t v): ∃s,v= .string s/\(s.size:Int)<=IntKind.i64.max:=by
 unfold Value.okWide at h;simp only [g]at h
 cases v<;>simp [Cell.okWide,Cell.ok,g]at h
 exact⟨_,rfl,h⟩
theorem zN{n:Int}(h:IntKind.i64.has n): -9223372036854775808<=n/\n<=9223372036854775807:=by
 simpa [IntKind.has,IntKind.min,IntKind.max,IntKind.bits,IntKind.signed]using h
end
end Go.Pv
end
section
namespace Go.Pv
mutual
inductive OkC(P:Program):TypeId->Y14->Prop
 |bool {t b:_} :P.underlying t=some .bool->OkC P t [.bool b]
 |int {t k z:_} :P.underlying t=some (.int k)->k.has z->OkC P t [.int k z]
 |str {t:_} {l:Y11} :P.underlying t=some .string->l.length<=maxLen->OkC P t [.str l]
 |slice {t e n cs:_} :P.underlying t=some (.slice e)->n<=maxLen->OkE P e n cs->OkC P t [.vslice none 0 n (P.cellsOf e) cs]
 |struct {t fs xs:_} :P.underlying t=some (.struct fs)->OkF P fs.toList xs->OkC P t xs
 |array {t m e xs:_} :P.underlying t=some (.array m e)->OkE P e m xs->OkC P t xs
inductive OkE(P:Program):TypeId->Nat->Y14->Prop
 |nil {e:_} :OkE P e 0 []
 |cons {e n ys xs:_} :OkC P e ys->OkE P e n xs->OkE P e (n+1) (ys++xs)
inductive OkF(P:Program):List Field->Y14->Prop
 |nil:OkF P [] []
 |cons {f fs ys xs:_} :OkC P f.type ys->OkF P fs xs->OkF P (f::fs) (ys++xs)
end
def B4(P:Program)(g:TypeId->Bool):Nat->List Field->Y10
 |off,[]=>some off
 |off,f::fs=>if f.offset=off/\g f.type=true then B4 P g (off+P.cellsOf f.type) fs else none
def mB(P:Program):Nat->TypeId->Bool
 |0,_=>false
 |n+1,t=>match P.underlying t with
  |some .bool=>P.cellsOf t==1
  |some (.int _)=>P.cellsOf t==1
  |some .string=>P.cellsOf t==1
  |some (.slice e)=>P.cellsOf t==1&&decide (0<P.cellsOf e) &&mB P n e
  |some (.struct fs)=>B4 P (mB P n) 0 fs.toList==some (P.cellsOf t)
  |some (.array m e)=>decide (0<P.cellsOf e) &&mB P n e&& (m*P.cellsOf e==P.cellsOf t)
  |_=>false
section
variable {H:Type} {enc:TypeId×Value->H} {P:Program} {W:World} {base:Nat} {sp:Nat->Bool} {hd:Bool}
theorem wQ{α β:Type}{f:α->Option β} : ∀{l:List α}{r:List β},l.mapM f=some r-> ∀y∈r,∃x∈l,f x=some y
 | [],r,h,y,g=>by rw [nJ h]at g;cases g
 |a::l,r,h,y,g=>by
  obtain⟨b,p,i,h2,rfl⟩:=lG h;rcases BQ.1 g with rfl|g
  ·exact⟨a,BJ,i⟩
  ·obtain⟨x,j,e⟩:=wQ h2 y g;exact⟨x,BX _ j,e⟩
theorem a0C{g:DataW H->Option (Y14)}{e:TypeId}{sz:Nat} : ∀{r:List (DataW H)},(∀d∈r,∃i,g d=some i/\OkC P e i/\i.length=sz)->
  ∃j,dl g r=some j/\OkE P e r.length j/\j.length=r.length*sz
 | [],_=>⟨[],rfl,.nil,IP⟩
 |d::r,h=>by
  obtain⟨i,l,h2,p⟩:=h d BJ;obtain⟨j,z,A,D⟩:=a0C (r:=r) fun x u=>h x (BX _ u)
  refine⟨i++j,by simp [dl,l,z],.cons h2 A,?_⟩;rw [AH,p,D,AK,DV,Nat.add_comm]
theorem Qt{g:TypeId->DataW H->Option (Y14)}{pl:TypeId->Bool}{F:Field->Option (DataW H×List MemPlace)}
  (hF: ∀f d ps,pl f.type=true->F f=some (d,ps)-> ∃p,g f.type d=some p/\OkC P f.type p/\p.length=P.cellsOf f.type):
  ∀{l:List Field}{i j:Nat}{xs:List (DataW H×List MemPlace)},B4 P pl i l=some j->l.mapM F=some xs-> ∃u,dfs P g i l (xs.map (·.1))=some u/\OkF P l u/\i+u.length=j
 | [],i,j,xs,h,hm=>by
  rw [nJ hm];exact⟨[],rfl,.nil,by simpa [B4]using h⟩
 |f::l,i,j,xs,h,hm=>by
  obtain⟨b,T,A,h2,rfl⟩:=lG hm;unfold B4 at h;split at h
  case isFalse=>cases h
  rename_i z;obtain⟨p,D,G,K⟩:=hF f b.1 b.2 z.2 A;obtain⟨u,L,m2,O⟩:=Qt hF h h2;refine⟨p++u,?_,.cons G m2,?_⟩
  ·simp only [CF,dfs,if_pos z.1,D,L,K,if_true]
  ·rw [AH];omega
theorem c2P{k:IntKind}{n:Int}(h:(Lit.int k n).wf=true):k.has n:=by
 simpa [Lit.wf,IntKind.has]using h
theorem Qu: ∀(p n:Nat)(t:TypeId)(cs:List Value)(d:DataW H)(ps:List MemPlace),mB P n t=true->DataW.trod enc P W base sp hd p t cs=some (d,ps)->
  ∃xs,eN P n t d=some xs/\OkC P t xs/\xs.length=P.cellsOf t
 |0,_,_,_,_,_,_,h=>by simp [DataW.trod]at h
 |p+1,0,_,_,_,_,hp,_=>by simp [mB]at hp
 |p+1,n+1,t,vs,d,ps,hp,h=>by
  have Y:=Qu p n;simp only [DataW.trod]at h;simp only [mB]at hp;split at h
  ·rename_i j;obtain⟨rfl,rfl⟩:=CO (AX h);simp only [j,beq_iff_eq]at hp;exact⟨_,by simp only [eN,j];rfl,.bool j,hp.symm⟩
  ·rename_i j;split at h
   case isFalse=>cases h
   rename_i O;obtain⟨rfl,rfl⟩:=CO (AX h);simp only [j,beq_iff_eq]at hp;exact⟨[.int _ _],by simp only [eN,j],.int j (c2P O.2),hp.symm⟩
  ·rename_i j;simp only [j]at hp
   cases hp
  ·rename_i s j;split at h
   case isFalse=>cases h
   rename_i O;obtain⟨rfl,rfl⟩:=CO (AX h);simp only [j,beq_iff_eq]at hp;exact⟨_,by simp only [eN,j];rfl,.str j (by simpa using O),hp.symm⟩
  ·rename_i j;simp only [j]at hp
   cases hp
  ·rename_i j;simp only [j]at hp
   cases hp
  ·rename_i j;obtain⟨rfl,rfl⟩:=CO (AX h);simp only [j,beq_iff_eq,AF]at hp;exact⟨[.vslice none 0 0 _ []],by simp only [eN,j],.slice j (AR _) .nil,hp.1.1.symm⟩
  ·rename_i e a len cap j;split at h
   case isFalse=>cases h
   rename_i L;obtain⟨l,z,h2⟩:=CJ.1 h;obtain⟨a0,h3,h4⟩:=AD.1 h2;obtain⟨rfl,rfl⟩:=CO h4;simp only [j,beq_iff_eq,AF,decide_eq_true_eq]at hp;obtain⟨G,K,D,u⟩:=a0C (P:=P) (g:=eN P n e) (e:=e) (sz:=P.cellsOf e) (r:=l.map (·.1)) fun d A=>by
    obtain⟨x,X,rfl⟩:=EI.1 A;obtain⟨i,_,hi⟩:=wQ z x X;obtain⟨cs',_,hc⟩:=CJ.1 hi;exact Y e cs' x.1 x.2 hp.2 hc
   have T:l.length=len:=by
    have:=(iF z).1;simpa using this.symm
   rw [BF]at D u;refine⟨[.vslice none 0 l.length (P.cellsOf e) G],?_,.slice j IM D,hp.1.1.symm⟩;simp only [eN,j,K,BF];rw [if_pos ⟨hp.1.2,u⟩]
  ·rename_i cs' fs j;split at h
   case isFalse=>cases h
   rename_i Z;obtain⟨xs,z,h2⟩:=AD.1 h;obtain⟨rfl,rfl⟩:=CO h2;simp only [j,beq_iff_eq]at hp;obtain⟨G,K,D,u⟩:=Qt (g:=eN P n) (pl:=mB P n) (fun f d ps V hf=>Y f.type _ d ps V hf) hp z;have u:G.length=P.cellsOf t:=IM;exact⟨G,by simp only [eN,j,K,u,if_true],.struct j D,u⟩
  ·rename_i vs xo cs' m e j;split at h
   case isFalse=>cases h
   obtain⟨xs,z,h2⟩:=AD.1 h;obtain⟨rfl,rfl⟩:=CO h2;simp only [j,beq_iff_eq,AF,decide_eq_true_eq]at hp;obtain⟨G,K,D,u⟩:=a0C (P:=P) (g:=eN P n e) (e:=e) (sz:=P.cellsOf e) (r:=xs.map (·.1)) fun d A=>by
    obtain⟨x,X,rfl⟩:=EI.1 A;obtain⟨i,_,hi⟩:=wQ z x X;exact Y e _ x.1 x.2 hp.1.2 hi
   have T:xs.length=m:=by
    have:=(iF z).1;simpa using this.symm
   rw [BF,T]at D u;refine⟨G,?_,.array j D,u.trans hp.2⟩;simp only [eN,j,K,BF];rw [if_pos ⟨u.trans hp.2,u,T,hp.1.1⟩]
  all_goals first
   | (rename_i j;simp only [j]at hp;cases hp;done)
   | (rename_i j;split at h<;>simp only [j]at hp<;>cases hp;done)
   |cases h
def d0V(P:Program)(t:TypeId)(xs:Y14):Option IV:=match P.underlying t with
 |some (.struct _)=>some (.agg xs)
 |some (.array ..)=>some (.agg xs)
 |_=>match xs with
  | [x]=>some x
  |_=>none
theorem a0D{t:TypeId}{v:Value}{d:DataW H}{p:List MemPlace}(n:Nat)(l:mB P n t=true)(i:Value.okWide P W .any base t v)(h:DataW.Trod enc P W 0 (fun _=>true) true t v d p):
  ∃xs,OkC P t xs/\∀x,d0V P t xs=some x->VR (M0 W) x v:=by
 obtain⟨g,hf⟩:=id h;obtain⟨xs,j,h2,_⟩:=Qu g n t _ d p l hf;refine⟨xs,h2,fun x u=>c2O (n:=n) i h ?_⟩;unfold a0B
 rw [j];exact u
end
section
variable {P:Program} {t e:TypeId} {xs:Y14}
theorem OkC.int_inv{k:IntKind}(g:P.underlying t=some (.int k))(h:OkC P t xs): ∃z,xs=[.int k z]/\k.has z:=by
 cases h with
 |int h1 h2=>rw [h1]at g;cases g;exact⟨_,rfl,h2⟩
 |_=>simp_all
theorem OkC.slice_inv(g:P.underlying t=some (.slice e))(h:OkC P t xs): ∃n cs,xs=[.vslice none 0 n (P.cellsOf e) cs]/\n<=maxLen/\OkE P e n cs:=by
 cases h with
 |slice h1 h2 h3=>rw [h1]at g;cases g;exact⟨_,_,rfl,h2,h3⟩
 |_=>simp_all
theorem OkE.list{α:Type}{c:α->Y14}{good:α->Prop}(hc: ∀ys,OkC P e ys-> ∃a,ys=c a/\good a): ∀{n:Nat}{cs:Y14},OkE P e n cs-> ∃l:List α,n=l.length/\cs=l.flatMap c/\∀a∈l,good a
 |_,_,.nil=>⟨[],rfl,rfl,IP⟩
 |_,_,.cons h1 h2=>by
  obtain⟨a,rfl,ha⟩:=hc _ h1;obtain⟨l,rfl,rfl,g⟩:=OkE.list hc h2;exact⟨a::l,rfl,rfl,by simpa using⟨ha,g⟩⟩
theorem OkE.ints{k:IntKind}{n:Nat}{cs:Y14}(j:P.underlying e=some (.int k))(h:OkE P e n cs): ∃l:Y12,n=l.length/\cs=l.map (IV.int k)/\∀a∈l,k.has a:=by
 obtain⟨l,g,h2,i⟩:=h.list (c:=fun a=>[IV.int k a]) (good:=k.has) fun u p=>OkC.int_inv j p
 refine⟨l,g,?_,i⟩;rw [h2];clear g h2 i
 induction l with
 |nil=>rfl
 |cons a l ih=>simpa using ih
end
end Go.Pv
end
section
namespace Go.Proofs.YtkonebkblgemkaaGreat
open Go.Pv
abbrev KT:=IV->Heap->Prop
def tI(n:Int):Option TV:=some (.v (.int .i64 n))
def wW(n:Int):Int:=IntKind.wrap .i64 n
def iI(n:Int):IV:= .int .i64 n
def tab(l:List (Nat×List Nat))(f d:Nat):Nat:=match l.find? (fun p=>p.1==f)with
 |some (_,ds)=>if ds.contains d then 1 else 0
 |none=>0
def d0W(l:List (Nat×Nat×List Nat))(f r:Nat):List Nat:=match l.find? (fun p=>p.1==f&&p.2.1==r)with
 |some (_,_,ds)=>ds
 |none=>[]
def has(l:List (Nat×List Nat))(f d:Nat):Bool:=l.any fun p=>p.1==f&&p.2.contains d
def env:Env where
 P:=Tryz.prog
 G:=fun _=>none
 A:=tab [(5,[70]),(10,[12,28,58,97]),(225,[12]),(33,[73,105]),(204,[64]),(147,[171]),(34,[34])]
 bx:=tab [(11,[43]),(13,[12]),(16,[13]),(17,[11]),(23,[22]),(24,[24]),(31,[12]),(33,[37]),(34,[14]),(55,[5,9,10,11,12]),(61,[20]),(155,[3])]
 fz:=fun f=>([10,31,34,53,225]:List Nat).contains f
 nf:=fun f=>true
 iso:=fun f=>!([39,42,46,47,48,55,56,57,60,77,78,79,80,81,83,84,89,90,92,95,96,97,98,101,103,106,114,115,116,117,118,119,147,148,149,150,151,152,154,160,166,176,184,185,186,187,204,214,215,216,217,221,228,232,233,234]:List Nat).contains f
 an:=d0W [(23,1,[5,6]),(55,2,[10,11]),(55,3,[2,3]),(57,1,[5,11])]
 od:=d0W [(147,24,[0,1,2,3,4,5,6,8,9,10,11,12,7,13,14,15,16])]
 nr:=fun f=>([77,78,79,80,81,147,152,204,221]:List Nat).contains f
 fm:=has [(5,[102])]
 fd:=fun f=>([10]:List Nat).contains f
 ld:=has [(10,[27,49,63,67,71,85,89,95,108]),(96,[22,30]),(47,[107,145]),(94,[2]),(97,[2,48]),(11,[139,143,100]),(76,[51]),(152,[6,93,114,153,146]),(81,[6]),(34,[2,60])]
 ln:=fun f d=>if has [(96,[10,18,29,38]),(84,[7,25]),(13,[23]),(92,[50,63]),(77,[21,29,40,49]),(33,[54,87,124])] f d then 1 else if has [(33,[68,101])] f d then 2 else if has [(92,[39,55]),(55,[26,99,105]),(56,[31]),(23,[41,68,79]),(106,[19])] f d then 3 else if has [(79,[30]),(147,[29,143,170,179,200,208,219]),(204,[37,63,97,136,180]),(34,[37,43,49,55])] f d then 5 else if has [(106,[11])] f d then 6 else if has [(47,[149]),(11,[110,145]),(46,[87]),(43,[39,44,57]),(54,[44]),(23,[85]),(26,[49]),(5,[50])] f d then 9 else 0
theorem a0E:env.P.follows .mixedOrders=true:=Checked.mixed Tryz.checked
theorem d0X:wM env.P=true:=by kernel_rfl
theorem b4I:laidOutB Tryz.prog=true:=by kernel_rfl
theorem own:ownKnob Tryz.prog.godebug=none:=by kernel_rfl
theorem d5V(W:World):Cp env (M0 W):=fun g cs e=>by cases e
end Go.Proofs.YtkonebkblgemkaaGreat
end
section
namespace Go.M15
def aR(n:Int):Prop:= -9223372036854775808<=n/\n<=9223372036854775807
instance (n:Int):Decidable (aR n):=inferInstanceAs (Decidable (_/\_))
def ar(op:Int):Int:=
 if op=1\/op=2\/op=3\/op=26 then 0
 else if op=20\/op=21\/op=24\/op=25 then 1
 else if(4<=op/\op<=19) \/op=23\/op=27\/op=29 then 2
 else if op=22\/op=28 then 3
 else if op=30\/op=31 then-1 else 0
def jW(op:Int):Bool:=decide (1<=op/\op<=31)
def Ka(op:Int):Int:=if op=27\/op=28\/op=29 then 2 else 1
def pN(op k:Int):Int:=if k=0/\(Ka op=2\/op=23\/op=24)then 2 else 1
end Go.M15
namespace Go.Pv
theorem aB{h:Heap}{id:Nat}{cs:Y14}{K:Y14->Prop}(e:h.get id= .cells cs)(g:K cs):aE h id K:=by
 unfold aE;rw [e];exact g
theorem aV{h:Heap}{id m:Nat}{K:Nat->Prop}(e:h.get id= .tip m)(g:K m):cK h id K:=by
 unfold cK;rw [e];exact g
theorem Ww{sz:Nat}{e n:Nat}{cs r:Y14}{K:Y10->Nat->Nat->Y14->Prop}(g:K N e n cs):aX sz (.vslice N e n sz cs::r) 0 K:=by
 unfold aX
 simpa using g
theorem aH{h:Heap}{id:Nat}{x:IObj} :(h.set id x).get id=x:=by rw [Heap.get_set,if_pos rfl]
theorem aG{h:Heap}{id j:Nat}{x:IObj}(g:j≠id):(h.set id x).get j=h.get j:=by rw [Heap.get_set,if_neg g]
theorem aU{h:Heap}{x:IObj} :(h.push x).get h.next=x:=by rw [Heap.get_push,if_pos rfl]
theorem aL{h:Heap}{j:Nat}{x:IObj}(g:j<h.next):(h.push x).get j=h.get j:=by rw [Heap.get_push,if_neg IM]
def HF(id:Nat)(h h':Heap):Prop:=h.next<=h'.next/\∀j,j<h.next->j≠id->h'.get j=h.get j
theorem HF.refl{id:Nat}{h:Heap} :HF id h h:=⟨AJ _,fun _ _ _=>rfl⟩
theorem HF.trans{id:Nat}{a b c:Heap}(x:HF id a b)(y:HF id b c):HF id a c:=
 ⟨BK x.1 y.1,fun j g i=>by rw [y.2 j (AI g x.1) i,x.2 j g i]⟩
theorem HF.set{id:Nat}{h:Heap}{x:IObj} :HF id h (h.set id x):=⟨AJ _,fun j _ g=>aG g⟩
theorem HF.push{id:Nat}{h:Heap}{x:IObj} :HF id h (h.push x):=⟨ED _,fun j g _=>aL g⟩
end Go.Pv
namespace Go.M15
open Go.Pv
theorem c2Q(n:Int):aR (IntKind.i64.wrap n):=by
 unfold aR
 rw [IntKind.wrap_i64];omega
def RD(h:Heap)(id:Nat):Prop:=id<h.next/\∃io e lp,∃l:Y12,(∀x∈l,aR x)/\h.get id= .cells [.vslice io e l.length 1 (l.map (IV.int .i64)),.int .i64 lp]
end Go.M15
namespace Go.Pv
open Go.M15
end Go.Pv
end
end
