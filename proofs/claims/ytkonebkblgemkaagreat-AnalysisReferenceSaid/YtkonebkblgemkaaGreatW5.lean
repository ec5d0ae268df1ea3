/-
  Texts of this proof, one after the other.
  Conditions: none.
-/
import Derived.Test.YtkonebkblgemkaaGreatW4
set_option linter.unusedVariables false
set_option linter.unusedSimpArgs false
set_option maxRecDepth 100000
set_option maxHeartbeats 4000000
noncomputable section
variable{i j m b:Nat}{x y z u v:Int}{h g:Go.Pv.Heap}{c d l:List Go.Pv.IV}{K L:Y12}{s t:Go.Pv.IV}{D:Go.Pv.Meta}{V W:List Go.Value}{T U:Go.TypeId}{o:Bool}{X Y:Go.Value}{r:Y11}{O:Go.Oper}{N:Y10}{H:Array Go.Value}
section
namespace Go.Pv
theorem PT.get_mapv{α:Type}(g:α->α): ∀(t:PT α)(k:Nat),(t.mapv g).get k=(t.get k).map g
 | .nil,k=>rfl
 | .node l v r,k=>by
  unfold PT.mapv PT.get
  split
  .cases v<;>rfl
  .split
   .exact PT.get_mapv g l _
   .exact PT.get_mapv g r _
theorem Ds(F:GF)(d:Option Tmp)(v:Option TV):(F.put d v).ff=F.ff.put d v:=by
 cases d with
 |none=>rfl
 |some t=>
  simp only [GF.put,GF.ff,FF.put]
  congr 1
  funext k;simp only [GF.tmg,PT.get_set]
  by_cases h:k=t<;>simp [h]
theorem b7T(F:GF)(s:Nat):(F.clr s).ff=F.ff.clr s:=by
 simp only [GF.clr,GF.ff,FF.clr]
 congr 1
 funext k;simp only [GF.tmg,PT.get_mapv]
 cases h:F.tm.get k with
 |none=>simp
 |some x=>cases x<;>simp [a7D]
theorem a6T(F:GF)(s:Nat)(cs:Y14):(F.lset s (some cs)).ff=F.ff.lset s cs:=by
 simp only [GF.lset,GF.ff,FF.lset]
 congr 1
 funext k;simp only [GF.lvg,PT.get_set]
 by_cases h:k=s<;>simp [h]
theorem b7S(F:GF)(d:Option Tmp)(e:Ef):(F.app d e).ff=F.ff.app d e:=by
 unfold GF.app FF.app
 cases e.loc with
 |none=>exact Ds _ _ _
 |some q=>
  obtain⟨s,cs⟩:=q
  cases hb:e.box<;>simp only [hb]
  .simp [a6T,Ds]
  .simp [a6T,Ds,b7T]
theorem Ni: ∀(l:List Nat)(F:GF),(F.forget l).ff=F.ff.forget l
 | [],_=>rfl
 |s::r,F=>by
  unfold GF.forget FF.forget
  rw [Ni r]
  congr 1
  have h1:=b7T F s;have g:((F.clr s).lset s none).ff.tm=(F.ff.clr s).tm:=by rw [<-h1];rfl
  have i:((F.clr s).lset s none).ff.lv=λk=>if k=s then none else F.ff.lv k:=by
   funext k;simp only [GF.lset,GF.ff,GF.lvg,PT.get_set,GF.clr]
   by_cases h:k=s<;>simp [h,FF.clr]
  exact FF.ext' (λk=>congrFun g k) (λk=>congrFun i k)
theorem Vk{E:Env}{f:FuncId}{ops:List Oper}(F:GF):(F.start E f ops o).ff=F.ff.start E f ops o:=by
 unfold GF.start FF.start
 cases o with
 |true=>simpa using Ni _ _
 |false=>simp
section
variable {E:Env} {f:FuncId} {C:FuncId->Y14->Heap->(IV->Heap->Prop)->Prop}
theorem bQ{b:Bool}{A:Prop} :(aU C).need b A ↔ b=true/\A:=by cases b<;>simp [aU,aF]
theorem zH{g:CK}{cs:Y14}{K:IV->Prop}(h:ldC (aU C) g cs i K): ∃v,cs[i]?=some v/\K v:=by
 cases g with
 |int k=>
  simp only [ldC,aU,aN]at h;split at h
  .rename_i j n e;split at h
   .rename_i hk;subst hk;exact⟨_,e,h⟩
   .exact h.elim
  .exact h.elim
 |bool=>
  simp only [ldC,aU,kQ]at h;split at h
  .rename_i e;exact⟨_,e,h⟩
  .exact h.elim
 |str=>
  simp only [ldC,aU,dU]at h;split at h
  .rename_i e;exact⟨_,e,h⟩
  .exact h.elim
 |slc sz=>
  simp only [ldC,aU,bM]at h;split at h
  .rename_i e;split at h
   .rename_i hk;subst hk;exact⟨_,e,h⟩
   .exact h.elim
  .exact h.elim
 |any=>
  simp only [ldC,aU,a3K]at h;split at h
  .rename_i e;exact⟨_,e,h⟩
  .exact h.elim
theorem C7: ∀{l:List CK}{cs:Y14}{g:Nat}{K:Y14->Prop},a3L (aU C) l cs g K-> ∃vs,vs.length=l.length/\(∀i,i<l.length->cs[g+i]?=vs[i]?)/\K vs
 | [],cs,g,K,h=>⟨[],rfl,λi j=>by simp at j,h⟩
 |ck::r,cs,g,K,h=>by
  unfold a3L at h;obtain⟨v,h1,h2⟩:=zH h;obtain⟨vs,h3,h4,m⟩:=C7 h2;refine⟨v::vs,by simp [h3],λi j=>?_,m⟩
  cases i with
  |zero=>simpa using h1
  |succ i=>
   have:=h4 i (by simpa using j);rw [show g+(i+1)=g+1+i by omega,this];simp
theorem Wf{l:List CK}{n:Nat}{t:TypeId}{cs:Y14}{K:IV->Prop}(u:iL E.P t=some (true,n+1))(r:l.length=n+1)(h:a3L (aU C) l cs j λvs=>K (.agg vs)):
  ∃v,eM E.P t cs j=some v/\K v:=by
 obtain⟨vs,h1,h2,h3⟩:=C7 h;rw [r]at h1 h2;have g:=h2 n JZ;rw [AB (show n<vs.length by omega)]at g;have m:=(BT.1 g).1;refine⟨.agg vs,?_,h3⟩;unfold eM
 simp only [u];rw [if_pos JZ]
 congr 2
 apply DE;intro i
 by_cases hi:i<n+1
 .rw [DF hi,DS,h2 i hi]
 .rw [BP (by simp;omega),BP JZ]
theorem W4{t:TypeId}{cs:Y14}{K:IV->Prop}(h:ldK (aU C) E t cs i K): ∃v,eM E.P t cs i=some v/\K v:=by
 unfold ldK at h;split at h
 .rename_i n g;obtain⟨v,h1,h2⟩:=zH h;exact⟨v,by unfold eM;simp only [g];exact h1,h2⟩
 .rename_i n g;split at h
  .rename_i j;exact Wf g (AP j) h
  .exact h.elim
 .exact h.elim
theorem b1L{t:TypeId}{r:Y14}{K:IV->Prop}(h:ldE (aU C) E t r K): ∃v,r[0]?=some v/\K v:=by
 unfold ldE at h;split at h
 .rename_i n l;split at h
  .rename_i g;have g:=AP g;simp only [aU,Sd]at h;split at h
   .rename_i xs e;split at h
    .rename_i j;have j:=AP j;obtain⟨vs,h1,h2,h3⟩:=C7 h;rw [g]at h1 h2;have:vs=xs:=by
      apply DE;intro i
      by_cases hi:i<n+1
      .have:=h2 i hi;rw [AY]at this;exact this.symm
      .rw [BP JZ,BP JZ]
     subst this;exact⟨_,e,h3⟩
    .exact h.elim
   .exact h.elim
  .exact zH h
 .exact zH h
theorem Uj: ∀n,(c7M n).length=n
 |0=>rfl
 |n+1=>by simp [c7M,Uj n]
theorem sF{f:FuncId}{d:Option Tmp}{t:TypeId}{cs:Y14}{K:IV->Prop}(h:ldW (aU C) E f d t cs i K): ∃v,eM E.P t cs i=some v/\K v:=by
 unfold ldW at h;split at h
 .split at h
  .split at h
   .rename_i g;simp only [aU,a3K]at h;split at h
    .rename_i v e;exact⟨v,by simp only [eM,g];exact e,h⟩
    .exact h.elim
   .rename_i n g;exact Wf g (Uj _) h
   .exact h.elim
  .split at h
   .exact W4 h
   .split at h
    .rename_i sz g j;simp only [aU,H0]at h;split at h
     .rename_i e;exact⟨_,by simp only [eM,g];exact e,h⟩
     .rename_i e;split at h
      .rename_i hk;subst hk;exact⟨_,by simp only [eM,g];exact e,h⟩
      .exact h.elim
     .exact h.elim
    .exact h.elim
   .split at h
    .rename_i g;simp only [aU,Bd]at h;split at h
     .rename_i e;exact⟨_,by simp only [eM,g];exact e,h⟩
     .exact h.elim
    .exact h.elim
   .split at h
    .rename_i g;simp only [aU,e8G]at h;split at h
     .rename_i e;exact⟨_,by simp only [eM,g];exact e,h⟩
     .exact h.elim
    .exact h.elim
   .split at h
    .rename_i sz g j;simp only [aU,jR]at h;split at h
     .exact h.elim
     .rename_i e;split at h
      .rename_i hk;subst hk;exact⟨_,by simp only [eM,g];exact e,h⟩
      .exact h.elim
     .exact h.elim
    .exact h.elim
   .split at h
    .rename_i g;simp only [aU,Eo]at h;split at h
     .rename_i e;exact⟨_,by simp only [eM,g];exact e,h⟩
     .rename_i e;exact⟨_,by simp only [eM,g];exact e,h⟩
     .exact h.elim
    .exact h.elim
   .split at h
    .rename_i sz g j;simp only [aU,jR]at h;split at h
     .rename_i e;exact⟨_,by simp only [eM,g];exact e,h⟩
     .rename_i e;split at h
      .rename_i hk;subst hk;exact⟨_,by simp only [eM,g];exact e,h⟩
      .exact h.elim
     .exact h.elim
    .exact h.elim
 .exact W4 h
theorem Pb{t:TypeId}{cs:Y14}{v:IV}{K:Y14->Prop}(h:stK (aU C) E t cs i v K): ∃cs',Pe E.P t cs i v=some cs'/\K cs':=by
 unfold stK at h;split at h
 .rename_i n j l;split at h
  .rename_i g;have g:=AP g;obtain⟨h1,h2⟩:=bQ.1 h;refine⟨_,?_,h2⟩;unfold Pe
   simp only [l,j,if_true];rw [if_pos ⟨g,CB h1⟩]
  .exact h.elim
 .exact h.elim
theorem sB{P:Program} : ∀{g:List Field}{xs i:Y14}{b:Bool},uH P g xs i=some b->mO P g xs i=some b
 | [],_,_,_,h=>h
 |f::g,xs,i,b,h=>by
  unfold uH at h;unfold mO
  split at h
  .cases h
  .rename_i j;rw [if_neg j];split at h
   .rename_i d x y h1 h2 h3;simp only [h1,h2,h3];split at h
    .rename_i p q l m;simp only [l];simp only [AC]at h
     cases p with
     |true=>simp only [BD]at h;subst h;exact sB m
     |false=>simp only [CN]at h;subst h;rfl
    .cases h
   .cases h
theorem oF{P:Program} : ∀{g:List Field}{xs l:Y14}{b:Bool},sA P g xs l=some b->nM P g xs l=some b
 | [],_,_,_,h=>h
 |f::g,xs,l,b,h=>by
  unfold sA at h;unfold nM
  split at h
  .cases h
  .rename_i r;rw [if_neg r];split at h
   .rename_i A z;simp only [z];split at h
    case h_2=>cases h
    rename_i D vs h2 h3;simp only [h2,h3];split at h
    .cases h
    rename_i m;rw [if_neg m];split at h
    .rename_i p q i j;simp only [sB i];simp only [AC]at h
     cases p with
     |true=>simp only [BD]at h;subst h;exact oF j
     |false=>simp only [CN]at h;subst h;rfl
    .cases h
   .rename_i d u h1;simp only [h1];split at h
    case h_2=>cases h
    rename_i x y h2 h3;simp only [h2,h3];split at h
    .rename_i p q i j;simp only [i];simp only [AC]at h
     cases p with
     |true=>simp only [BD]at h;subst h;exact oF j
     |false=>simp only [CN]at h;subst h;rfl
    .cases h
   .cases h
theorem Z5{c:Bool}{t:TypeId}{xs g:Y14}{b:Bool}(h:a6L E t xs g=some b):b1A E.P c t (.agg xs) (.agg g)=some b:=by
 unfold a6L at h;unfold b1A
 split at h
 .rename_i j hf;simp only [hf];split at h
  .cases h
  .rename_i i;rw [if_neg (by simp [i])];exact oF h
 .cases h
theorem a0K{op:BinOp}{c:Bool}{t:TypeId}{a b:IV}{K:IV->Prop}(h:d7H (aU C) E op c t a b K): ∃v,qV E.P op c t a b=some v/\K v:=by
 unfold d7H at h;split at h
 .rename_i k x j y;split at h
  .split at h
   .rename_i hk;obtain⟨h1,h2⟩:=bQ.1 h;exact⟨_,by simp [qV,hk,wG,show¬y=0 by simpa using h1],h2⟩
   .exact h.elim
  .split at h
   .rename_i hk;obtain⟨h1,h2⟩:=bQ.1 h;exact⟨_,by simp [qV,hk,wG,show¬y=0 by simpa using h1],h2⟩
   .exact h.elim
  .obtain⟨h1,h2⟩:=bQ.1 h;simp only [decide_eq_true_eq]at h1;exact⟨_,by simp [qV,sM,show¬y<0 by omega],h2⟩
  .obtain⟨h1,h2⟩:=bQ.1 h;simp only [decide_eq_true_eq]at h1;exact⟨_,by simp [qV,sM,show¬y<0 by omega],h2⟩
  .rename_i h1 h2 h3 h4;split at h
   .rename_i v g;refine⟨v,?_,h⟩;unfold qV
    cases op<;>first|exact g|exact absurd rfl h1|exact absurd rfl h2|exact absurd rfl h3|exact absurd rfl h4
   .exact h.elim
 .rename_i x y;split at h
  .obtain⟨h1,h2⟩:=bQ.1 h;simp only [BB]at h1;refine⟨_,?_,h2⟩;simp only [qV,Gb];rw [if_neg JZ]
  .split at h
   .rename_i v g;exact⟨v,by simpa [qV]using g,h⟩
   .exact h.elim
 .rename_i xs l;split at h
  .split at h
   .rename_i b i;exact⟨_,by simp [qV,Z5 i],h⟩
   .exact h.elim
  .split at h
   .rename_i b i;exact⟨_,by simp [qV,Z5 i],h⟩
   .exact h.elim
  .exact h.elim
 .split at h
  .rename_i v g;exact⟨v,g,h⟩
  .exact h.elim
theorem uC{len:Nat}{lo g:Option (Option TV)}{K:Int->Int->Prop}(h:b0S (aU C) len lo g K): ∃(l h':Int),jJ len lo g=some (l.toNat,h'.toNat)/\0<=l/\l<=h'/\h'<=len/\K l h':=by
 unfold b0S at h;unfold jJ
 split at h
 .rename_i l h' h1 h2;obtain⟨h3,h4⟩:=bQ.1 h;simp only [AE,decide_eq_true_eq]at h3;refine⟨l,h',?_,h3.1,h3.2.1,h3.2.2,h4⟩
  cases lo<;>cases g<;>simp only at h1 h2<;>simp [h1,h2]<;>simp_all<;>omega
 .exact h.elim
theorem c9A(cf:FuncId->Y14->Heap->Option (IV×Heap)):Ug e8Q cf:=λg xs h r e=>by cases e
theorem Vb{draw:Bool}{o:Oper}{F:GF}{h:Heap}{K:GF->Ef->Prop}(n:Nat)(hk:Dl E f draw o F h K): ∃e,eJ E f (jU E n) draw o (bC E F.tmg) F.lvg h=some e/\K F e:=by
 unfold Dl at hk;split at hk
 .rename_i e g;exact⟨e,Mv (c9A _) g,hk⟩
 .exact hk.elim
theorem E8{F:GF}{c:Operand}{b:Bool}(h:bC E F.tmg c=some (.v (.bool b))):(Un c F b).ff=F.ff:=by
 unfold Un
 split
 .rename_i t;rw [Ds];refine FF.ext' (λk=>?_) (λk=>rfl);simp only [FF.put]
  by_cases hk:k=t
  .subst hk;simpa [GF.ff,bC]using h.symm
  .simp [hk]
 .rfl
theorem Nv(g:CK)(v:IV):W9 g (W9 g v)=W9 g v:=by
 cases g<;>cases v<;>rfl
theorem Nx: ∀(l:List CK)(vs:Y14),rN l (rN l vs)=rN l vs
 | [],vs=>rfl
 |ck::r,[]=>rfl
 |ck::r,v::vs=>by simp only [rN,Nv,Nx r vs]
theorem b1U(P:Program)(t:TypeId)(v:IV):mV P t (mV P t v)=mV P t v:=by
 have h: ∀v,(∀cs,v≠ .agg cs)->mV P t v=W9 (Qk P t) v:=by
  intro v g;unfold mV
  split
  .rename_i cs;exact absurd rfl (g cs)
  .rfl
 by_cases g: ∃cs,v= .agg cs
 .obtain⟨cs,rfl⟩:=g;simp only [mV,Nx]
 .have i: ∀cs,v≠ .agg cs:=λcs e=>g ⟨cs,e⟩
  rw [h v i,h _ (λcs e=>?_),Nv];unfold W9 at e;split at e
  .cases e
  .cases e
  .exact i cs e
theorem uS(P:Program): ∀(ts:List TypeId)(vs:Y14),dS P ts (dS P ts vs)=dS P ts vs
 | [],vs=>rfl
 |t::ts,[]=>rfl
 |t::ts,v::vs=>by simp only [dS,b1U,uS P ts vs]
theorem wF{h:Heap}{v:IV}{K:IV->Heap->Prop}(hk:Vg (aU C) h v K):K (mH h v).1 (mH h v).2:=by
 unfold Vg at hk;split at hk
 .simp only [aU,aT]at hk;split at hk
  .rename_i cs l;have g:(aU C).need _ _:=hk;obtain⟨h1,h2⟩:=bQ.1 g;simp only [AE]at h1;have i:=CB h1.1;have j:=CB h1.2;simp only [mH,l];rw [if_pos ⟨i,j⟩];exact h2
  .exact hk.elim
 .rename_i m;have:mH h v=(v,h):=by
   unfold mH
   split
   .exact absurd rfl (m _ _ _ _)
   .rfl
  rw [this];exact hk
theorem nO{g:Heap->IV->(IV->Heap->Prop)->Prop}{i:Heap->IV->IV×Heap}(j: ∀h v K,g h v K->K (i h v).1 (i h v).2): ∀{vs:Y14}{h:Heap}{K:Y14->Heap->Prop},Dr g vs h K->K (nN i h vs).1 (nN i h vs).2
 | [],h,K,hk=>hk
 |v::r,h,K,hk=>by
  unfold Dr at hk;have:=j _ _ _ hk;exact nO (vs:=r) j this
theorem Dh{g:FuncId}{xs:Y14}{h:Heap}{Q:IV->Heap->Prop}(i:aM E g (Dg E g xs) h Q):aM E g xs h Q:=by
 unfold Dg at i;split at i
 .rename_i j;split at i
  .rename_i fn hf;obtain⟨n,v,h',h1,h2⟩:=i;refine⟨n,v,h',?_,h2⟩
   cases n with
   |zero=>simp [jU]at h1
   |succ n=>
    rw [iB]at h1⊢;simp only [hf,j,uS]at h1⊢;exact h1
  .exact i
 .rename_i j;split at i
  .exact i
  .rename_i l;split at i
   .rename_i m;split at i
    .rename_i fn hf;obtain⟨n,v,h',h1,h2⟩:=i;refine⟨n,v,h',?_,h2⟩
     cases n with
     |zero=>simp [jU]at h1
     |succ n=>
      rw [iB]at h1⊢;simp only [hf,j,l,X0,m,uS]at h1⊢;exact h1
    .exact i
   .exact i
theorem Wq: ∀{xs:Y14}{h:Heap},I0 xs=true->nN mH h xs=(xs,h)
 | [],h,_=>rfl
 |v::r,h,e=>by
  cases v with
  |hslice _ _ _ _=>simp [I0]at e
  |_=>
   have:=Wq (xs:=r) (h:=h) (by simpa [I0]using e);simp [nN,mH,this]
theorem c9C{g:CK}{v:IV} :(∀a b c d,v≠ .hslice a b c d)-> ∀a b c d,W9 g v≠ .hslice a b c d:=by
 intro i a b c d e;unfold W9 at e;split at e
 .cases e
 .cases e
 .exact i a b c d e
theorem c9D{P:Program}{t:TypeId}{v:IV}(g: ∀a b c d,v≠ .hslice a b c d): ∀a b c d,mV P t v≠ .hslice a b c d:=by
 intro a b c d e;unfold mV at e;split at e
 .cases e
 .exact c9C g a b c d e
theorem Nu{v:IV}{r:Y14} :I0 (v::r)=true ↔ (∀a b c d,v≠ .hslice a b c d)/\I0 r=true:=by
 cases v with
 |hslice a b c d=>exact⟨λh=>by simp [I0]at h,λh=>absurd rfl (h.1 a b c d)⟩
 |_=>simp [I0]
theorem Ws{P:Program} : ∀{ts:List TypeId}{xs:Y14},I0 xs=true->I0 (dS P ts xs)=true
 | [],xs,h=>h
 |t::ts,[],h=>h
 |t::ts,v::r,h=>by
  obtain⟨h1,h2⟩:=Nu.1 h;exact Nu.2 ⟨c9D h1,Ws h2⟩
theorem Z8{h:Heap}{xs:Y14}{K:Y14->Prop}(hk:c0L (aU C) h xs K):I0 (nN mH h xs).1=true/\K (nN mH h xs).1:=
 bQ.1 (nO (K:=λg _=>(aU C).need (I0 g) (K g)) (λ_ _ _ q=>wF q) hk)
theorem Sf{g:FuncId}{xs:Y14}{h:Heap}{Q:IV->Heap->Prop}(i:(!E.iso g&&E.le g)=true)(r:I0 (nN mH h xs).1=true)(j:aM E g (a3M E g (nN mH h xs).1) h Q):aM E g xs h Q:=by
 rw [AE,BS]at i;obtain⟨l,m⟩:=i;obtain⟨n,v,h',h1,h2⟩:=j;refine⟨n,v,h',?_,h2⟩
 cases n with
 |zero=>simp [jU]at h1
 |succ n=>
  rw [iB]at h1⊢;unfold a3M at h1;split at h1
  .rename_i fn hf;simp only [hf,l,m]at h1⊢;rw [Wq (Ws r),uS]at h1;exact h1
  .simp at h1
theorem D9{h:Heap}{sz:Nat}{x:IV}{K:Nat->Y14->Prop}(hk:c4A (aU C) h sz x K): ∃n xs,gO h sz x=some (n,xs)/\K n xs:=by
 unfold c4A at hk;unfold gO
 split at hk
 .exact⟨_,_,rfl,hk⟩
 .split at hk
  .rename_i g;exact⟨_,_,by simp only [AP g,if_true],hk⟩
  .exact hk.elim
 .split at hk
  .rename_i g;simp only [aU,aT]at hk;split at hk
   .rename_i cs j;have i:(aU C).need _ _:=hk;obtain⟨h1,h2⟩:=bQ.1 i;have h1:=CB h1;exact⟨_,_,by simp only [AP g,if_true,j,h1],h2⟩
   .exact hk.elim
  .exact hk.elim
 .split at hk
  .rename_i g;exact⟨_,_,by simp only [AP g,if_true],hk⟩
  .exact hk.elim
 .exact hk.elim
theorem Uk{h:Heap}{g sz bytes:Nat}{s x:IV}{K:IV->Heap->Prop}(hk:b4L (aU C) h g sz bytes s x K): ∃v h',nL h g sz bytes s x=some (v,h')/\K v h':=by
 unfold b4L at hk;split at hk
 .rename_i i;have i:=AP i;subst i;obtain⟨n,xs,h1,hk⟩:=D9 hk;unfold nL
  simp only [h1]
  cases n with
  |zero=>exact hk.elim
  |succ n=>
   rw [if_neg (Nat.succ_ne_zero n)];simp only [aU,dX]at hk;split at hk
   .exact⟨_,_,by simp only [hk.1,if_true,newRow],hk.2⟩
   .exact⟨_,_,by simp only [hk.1,and_self,if_true,newRow],hk.2⟩
   .exact⟨_,_,by simp only [hk.1.2.2,hk.1.1,hk.1.2.1,and_self,if_true],hk.1.1▸hk.2⟩
   .exact hk.elim
 .exact hk.elim
theorem a0H{h:Heap}{j sz bytes:Nat}{s x:IV}{K:IV->Heap->Prop}(hk:d7E (aU C) h j sz bytes s x K): ∃v h',nL h j sz bytes s x=some (v,h')/\K v h':=by
 unfold d7E at hk;obtain⟨n,xs,h1,hk⟩:=D9 hk;unfold nL
 simp only [h1]
 by_cases hn:n=0
 .subst hn;simp only [if_true];have l:Nat.beq 0 0=true:=rfl;simp only [l,aU,aK]at hk;split at hk
  .exact⟨_,_,rfl,hk⟩
  .split at hk
   .rename_i i;exact⟨_,_,by simp only [AP i,if_true],AP i▸hk⟩
   .exact hk.elim
  .split at hk
   .rename_i i;exact⟨_,_,by simp only [AP i,if_true],AP i▸hk⟩
   .exact hk.elim
  .exact hk.elim
 .simp only [hn,if_false];have u:Nat.beq n 0=false:=by
   cases hq:Nat.beq n 0 with
   |false=>rfl
   |true=>exact absurd (AP hq) hn
  simp only [u,aU,aK]at hk;split at hk
  .have g:(aU C).need _ _:=hk;obtain⟨h2,h3⟩:=bQ.1 g;exact⟨_,_,by simp only [CB h2,if_true],h3⟩
  .split at hk
   .rename_i i;have g:(aU C).need _ _:=hk;obtain⟨h2,h3⟩:=bQ.1 g;exact⟨_,_,by simp only [AP i,CB h2,and_self,if_true],h3⟩
   .exact hk.elim
  .split at hk
   .rename_i i;simp only [lL]at hk;split at hk
    .rename_i m r;have g:(aU C).need _ _:=hk;obtain⟨h2,h3⟩:=bQ.1 g;simp only [AE]at h2;exact⟨_,_,by simp only [r,AP h2.1,AP i,CB h2.2,and_self,if_true],h3⟩
    .exact hk.elim
   .exact hk.elim
  .split at hk
   .rename_i i;simp only [aT]at hk;split at hk
    .rename_i cs r;have g:(aU C).need _ _:=hk;obtain⟨h2,h3⟩:=bQ.1 g;simp only [AE]at h2;exact⟨_,_,by simp only [r,AP h2.1,AP i,CB h2.2.1,CB h2.2.2,and_self,if_true],h3⟩
    .exact hk.elim
   .exact hk.elim
  .exact hk.elim
theorem b2C(hC: ∀g xs h Q,C g xs h Q->aM E g xs h Q){draw:Bool}{o:Oper}{F:GF}{h:Heap}{K:GF->Ef->Prop}(hk:opW (aU C) E f draw o F h K):
  ∃n G e,G.ff=F.ff/\eJ E f (jU E n) draw o (bC E F.tmg) F.lvg h=some e/\K G e:=by
 have a0:Dl E f draw o F h K-> ∃n G e,G.ff=F.ff/\eJ E f (jU E n) draw o (bC E F.tmg) F.lvg h=some e/\K G e:=λq=>by
  obtain⟨e,h1,h2⟩:=Vb 0 q;exact⟨0,F,e,rfl,h1,h2⟩
 unfold opW at hk;split at hk
 .rename_i x j;split at hk
  .rename_i hm;split at hk
   .rename_i id T len sz O;simp only [aU,aT]at hk;split at hk
    .rename_i cs Z;have Y:(aU C).need _ _:=hk;obtain⟨h1,h2⟩:=bQ.1 Y;simp only [AE]at h1;have hc:0<sz/\T+len*sz<=cs.length:=⟨CB h1.1,CB h1.2⟩;exact⟨0,F,_,rfl,by simp [eJ,eQ,gI,iX,dR,iM,j,hm,O,Z,hc],h2⟩
    .exact hk.elim
   .exact hk.elim
  .rename_i hm;split at hk
   .rename_i v O;exact⟨0,F,_,rfl,by simp [eJ,eQ,j,hm,O],hk⟩
   .exact hk.elim
 .rename_i c a b j;split at hk
  .rename_i x O
   cases x with
   |true=>
    simp only [aU,aK]at hk;split at hk
    .rename_i v hv;exact⟨0,_,_,E8 O,by simp [eJ,eQ,j,O,hv],hk⟩
    .exact hk.elim
   |false=>
    simp only [aU,aK]at hk;split at hk
    .rename_i v hv;exact⟨0,_,_,E8 O,by simp [eJ,eQ,j,O,hv],hk⟩
    .exact hk.elim
  .exact hk.elim
 .rename_i op t x y u j;split at hk
  .rename_i a b D A;obtain⟨v,h1,h2⟩:=a0K hk;exact⟨0,F,_,rfl,by simp [eJ,eQ,j,D,A,h1],h2⟩
  .exact hk.elim
 .rename_i t a j;split at hk
  .rename_i s T D;split at hk
   .rename_i cs hl;obtain⟨v,h1,h2⟩:=sF hk;exact⟨0,F,_,rfl,by simp [eJ,eQ,gI,j,D,hl,h1],h2⟩
   .exact hk.elim
  .rename_i cs T D;obtain⟨v,h1,h2⟩:=sF hk;exact⟨0,F,_,rfl,by simp [eJ,eQ,j,D,h1],h2⟩
  .rename_i id T D;simp only [aU,aT]at hk;split at hk
   .rename_i cs Z;obtain⟨v,h1,h2⟩:=sF (C:=C) hk;exact⟨0,F,_,rfl,by simp [eJ,eQ,gI,iX,dR,j,D,Z,h1],h2⟩
   .exact hk.elim
  .exact hk.elim
 .rename_i t a x j;split at hk
  .rename_i s T v D O;split at hk
   .rename_i cs hl;obtain⟨cs',h1,h2⟩:=Pb hk;exact⟨0,F,_,rfl,by simp [eJ,eQ,gI,iX,j,D,O,hl,h1],h2⟩
   .exact hk.elim
  .rename_i id T v D O;simp only [aU,aT]at hk;split at hk
   .rename_i cs Z;obtain⟨cs',h1,h2⟩:=Pb (C:=C) hk;exact⟨0,F,_,rfl,by simp [eJ,eQ,gI,iX,dR,iM,j,D,O,Z,h1],h2⟩
   .exact hk.elim
  .exact hk.elim
 .rename_i t x ix j;split at hk
  .rename_i i n e hi L;split at hk
   .rename_i sz a R D;obtain⟨h1,h2⟩:=bQ.1 hk;simp only [AE,decide_eq_true_eq]at h1;split at h2
    .rename_i v hv;exact⟨0,F,_,rfl,by simp [eJ,eQ,j,hi,L,R,D,h1,hv],h2⟩
    .exact h2.elim
   .exact hk.elim
  .rename_i i e hi L;split at hk
   .rename_i sz id en len z cs R D;split at hk
    .rename_i A;have A:=AP A;obtain⟨h1,h2⟩:=bQ.1 hk;simp only [AE,decide_eq_true_eq]at h1;exact⟨0,F,_,rfl,by simp [eJ,eQ,j,hi,L,R,D,h1,A],h2⟩
    .exact hk.elim
   .rename_i sz id T len z R D;split at hk
    .rename_i A;have A:=AP A;obtain⟨h1,h2⟩:=bQ.1 hk;simp only [AE,decide_eq_true_eq]at h1;exact⟨0,F,_,rfl,by simp [eJ,eQ,j,hi,L,R,D,h1,A],h2⟩
    .exact hk.elim
   .exact hk.elim
  .exact hk.elim
 .rename_i t x ix j;split at hk
  .rename_i i n e cs hi L D;split at hk
   .rename_i sz R;obtain⟨h1,h2⟩:=bQ.1 hk;simp only [AE,decide_eq_true_eq]at h1;obtain⟨v,h3,h4⟩:=W4 h2;exact⟨0,F,_,rfl,by simp [eJ,eQ,j,hi,L,R,D,h1,h3],h4⟩
   .exact hk.elim
  .rename_i i s hi L D;obtain⟨h1,h2⟩:=bQ.1 hk;simp only [AE,decide_eq_true_eq]at h1;simp only [aU,b7A]at h2;split at h2
   .rename_i b A;exact⟨0,F,_,rfl,by simp [eJ,eQ,j,hi,L,D,h1,A],h2⟩
   .exact h2.elim
  .exact hk.elim
 .rename_i t x lo hi mx j;split at hk
  .rename_i s L D;obtain⟨l,h',h1,h2,h3,h4,h5⟩:=uC hk;exact⟨0,F,_,rfl,by simp [eJ,eQ,j,uX,L,D,h1],h5⟩
  .rename_i e id en len z cs L D;split at hk
   .rename_i sz R;split at hk
    .rename_i A;have A:=AP A;obtain⟨l,h',h1,h2,h3,h4,h5⟩:=uC hk;exact⟨0,F,_,rfl,by simp [eJ,eQ,j,uX,L,D,h1,R,A],h5⟩
    .exact hk.elim
   .exact hk.elim
  .rename_i e id T len z L D;split at hk
   .rename_i sz R;split at hk
    .rename_i A;have A:=AP A;obtain⟨l,h',h1,h2,h3,h4,h5⟩:=uC hk;exact⟨0,F,_,rfl,by simp [eJ,eQ,j,uX,L,D,h1,R,A],h5⟩
    .exact hk.elim
   .exact hk.elim
  .rename_i n e id T L D;split at hk
   .rename_i sz R;simp only [aU,aT]at hk;split at hk
    .rename_i cs Z;have Y:(aU C).need _ _:=hk;obtain⟨h6,Y⟩:=bQ.1 Y;obtain⟨l,h',h1,h2,h3,h4,h5⟩:=uC Y;have h6:=CB h6;have b0:bC E F.tmg x=some (.v (.ptr id T)):=by
      unfold bH at D;split at D
      .rename_i q;rw [q];cases D;rfl
      .cases D
     exact⟨0,F,_,rfl,by simp [eJ,eQ,gI,iX,dR,j,uX,L,b0,bH,Z,h1,R,h6],h5⟩
    .exact hk.elim
   .exact hk.elim
  .exact a0 hk
 .rename_i t l c j;split at hk
  .rename_i e d li ci L hd hl hc;split at hk
   .rename_i sz bytes z a4 a3 R;split at hk
    .rename_i A;have A:=AP A;obtain⟨h1,h2⟩:=bQ.1 hk;simp only [AE,decide_eq_true_eq]at h1;exact⟨0,F,_,rfl,by simp [eJ,eQ,gI,iX,dR,iM,j,L,hd,hl,hc,a4,a3,R,A,h1],h2⟩
    .exact hk.elim
   .exact hk.elim
  .exact hk.elim
 .rename_i a5 V j;split at hk
  .rename_i t u sx xx a2 a1;split at hk
   .rename_i s x e du d hs O L a7 hd;split at hk
    .rename_i sz bytes z a4 a3 R;split at hk
     .rename_i A;simp only [AE]at A;have a6:=AP A.1;split at hk
      .obtain⟨v,h',h1,h2⟩:=Uk hk;exact⟨0,F,_,rfl,by simp [eJ,eQ,gI,iX,dR,iM,j,a2,a1,hs,O,L,a7,hd,a4,a3,R,a6,A.2,h1],h2⟩
      .obtain⟨v,h',h1,h2⟩:=a0H hk;exact⟨0,F,_,rfl,by simp [eJ,eQ,gI,iX,dR,iM,j,a2,a1,hs,O,L,a7,hd,a4,a3,R,a6,A.2,h1],h2⟩
     .exact hk.elim
    .exact hk.elim
   .exact hk.elim
  .exact hk.elim
 .rename_i a5 V j;split at hk
  .rename_i t ts sx xx a2 a1;split at hk
   .rename_i id T len z x e hs O L;split at hk
    .rename_i sz R;split at hk
     .rename_i A;have A:=AP A;subst A;obtain⟨n,xs,h1,hk⟩:=D9 hk;simp only [aU,aT]at hk;split at hk
      .rename_i cs Z;have Y:(aU C).need _ _:=hk;obtain⟨h6,Y⟩:=bQ.1 Y;have h6:=CB h6;exact⟨0,F,_,rfl,by simp [eJ,eQ,gI,iX,dR,iM,j,a2,a1,hs,O,L,R,Z,h1,h6],Y⟩
      .exact hk.elim
     .exact hk.elim
    .exact hk.elim
   .exact hk.elim
  .exact hk.elim
 .rename_i x a5 V j;split at hk
  .rename_i g a b xs O a8;split at hk
   .obtain⟨n,v,h',h1,h2⟩:=Dh (hC _ _ _ _ hk);exact⟨n,F,_,rfl,by simp [eJ,eQ,gI,iX,dR,iM,dI,j,O,a8,<-List.append_assoc,h1],h2⟩
   .rename_i A;obtain⟨hn,hk⟩:=Z8 hk;obtain⟨n,v,h',h1,h2⟩:=Sf A hn (hC _ _ _ _ hk);exact⟨n,F,_,rfl,by simp [eJ,eQ,gI,iX,dR,iM,dI,j,O,a8,<-List.append_assoc,h1],h2⟩
  .exact hk.elim
 .rename_i t x k ok j;split at hk
  .rename_i kt et id a9 L O X;split at hk
   .rename_i d z hd R;split at hk
    .rename_i hf;simp only [aU,kW]at hk;split at hk
     .rename_i es Z;split at hk
      .rename_i v hv;obtain⟨v',h1,h2⟩:=b1L (C:=C) hk;have h1:v=v':=by simpa using h1
       subst h1;refine⟨0,F,_,rfl,?_,h2⟩
       cases ok<;>simp [eJ,eQ,gI,iX,dR,j,L,O,X,hd,R,hf,Z,hv]
      .rename_i hv;refine⟨0,F,_,rfl,?_,hk⟩
       cases ok<;>simp [eJ,eQ,gI,iX,dR,j,L,O,X,hd,R,hf,Z,hv]
      .exact hk.elim
     .exact hk.elim
    .exact hk.elim
   .exact hk.elim
  .exact a0 hk
 .rename_i t m k x j;split at hk
  .rename_i kt et id a9 v L hm X O;split at hk
   .rename_i d hd;split at hk
    .rename_i hf;simp only [aU,wK]at hk;split at hk
     .rename_i es Z;split at hk
      .rename_i es' hv;exact⟨0,F,_,rfl,by simp [eJ,eQ,gI,iX,dR,iM,j,L,hm,O,X,hd,hf,Z,hv],hk⟩
      .exact hk.elim
     .exact hk.elim
    .exact hk.elim
   .exact hk.elim
  .exact hk.elim
 .rename_i t m k j;split at hk
  .rename_i kt et id a9 L hm X;split at hk
   .rename_i d z hd R;split at hk
    .rename_i hf;simp only [aU,b0Z]at hk;split at hk
     .rename_i es Z;split at hk
      .rename_i r hv;exact⟨0,F,_,rfl,by simp [eJ,eQ,gI,iX,dR,iM,j,L,hm,X,hd,R,hf,Z,hv],hk⟩
      .exact hk.elim
     .exact hk.elim
    .exact hk.elim
   .exact hk.elim
  .exact hk.elim
 .rename_i t m s x j;split at hk
  .rename_i id kd n v hm hs O;simp only [aU,Nt]at hk;split at hk
   .rename_i es Z;exact⟨0,F,_,rfl,by simp [eJ,eQ,gI,iX,dR,iM,j,hm,hs,O,Z,hk.1],hk.2⟩
   .exact hk.elim
  .exact hk.elim
 .rename_i s d x j;split at hk
  .rename_i e id en len cs L hd O;split at hk
   .rename_i he;simp only [aU,e7P]at hk;split at hk
    .rename_i b A;exact⟨0,F,_,rfl,by simp [eJ,eQ,Ql,j,L,hd,O,he,A],hk⟩
    .exact hk.elim
   .exact hk.elim
  .exact a0 hk
 .exact a0 hk
theorem Qu{E:Env}{ops:List Oper}{o:Oper}{F:GF}{m skip:GF->Prop}(hk:a1V (aU C) ops o F m skip):
  ∃G,G.ff=F.ff/\((dK ops F.tmg o=some true/\m G) \/ (dK ops F.tmg o=some false/\skip G)):=by
 unfold a1V at hk;unfold dK
 split at hk
 .rename_i g;exact⟨F,rfl,.inl ⟨by simp [g],hk⟩⟩
 .rename_i j b g;split at hk
  .rename_i d hd;split at hk
   .rename_i x i;have l:=λy (hy:x=y)=>E8 (E:=E) (F:=F) (c:= .tmp d) (b:=y) (by rw [<-hy];exact i)
    cases x with
    |true=>
     refine⟨_,l true rfl,?_⟩
     cases b with
     |true=>exact .inl ⟨by simp [g,hd,i],hk⟩
     |false=>exact .inr ⟨by simp [g,hd,i],hk⟩
    |false=>
     refine⟨_,l false rfl,?_⟩
     cases b with
     |true=>exact .inr ⟨by simp [g,hd,i],hk⟩
     |false=>exact .inl ⟨by simp [g,hd,i],hk⟩
   .rename_i i;exact⟨F,rfl,.inr ⟨by simp [g,hd,i],hk⟩⟩
   .exact hk.elim
  .exact hk.elim
theorem Y2{b:Nat}{h:Heap}{A:Prop} : ∀{ps:Ps},Yp b h A ps->a9M ps b h/\A
 | [],hk=>⟨(λq j=>nomatch j),hk⟩
 |q::r,hk=>by
  unfold Yp at hk;split at hk
  .rename_i i;obtain⟨h1,h2⟩:=Y2 hk;refine⟨λx g=>?_,h2⟩;rcases CD.1 g with rfl|g
   .exact .inl i
   .exact h1 x g
  .obtain⟨h1,h2⟩:=Y2 hk.2;refine⟨λx g=>?_,h2⟩;rcases CD.1 g with rfl|g
   .exact .inr hk.1
   .exact h1 x g
theorem Bo{C:FuncId->Y14->Heap->(IV->Heap->Prop)->Prop}{h:Heap}{n:Nat}{A:Prop}(hk:(aU C).fre h n A):h.get n= .free/\A:=by
 have g:Qr h n A:=hk;unfold Qr at g;split at g
 .rename_i hf;exact⟨hf,g⟩
 .exact g.elim
theorem b2B{n:Nat}{o:Oper}{F:GF}{h:Heap}{K:GF->Ef->Prop}(hk:opA (aU C) E f n o F h K):
  ∃e,(match Bl E f o (bC E F.tmg) n with
   |some (v,none)=>some ⟨.p,v,none,false,h⟩
   |some (v,some x)=>match h.get n with
    | .free=>some ⟨.a,v,none,false,h.set n x⟩
    |_=>none
   |none=>none)=some e/\K F e:=by
 unfold opA at hk;split at hk
 .rename_i t l c j;split at hk
  .rename_i e d li ci X hd hl hc;split at hk
   .rename_i sz bytes z m i Z;split at hk
    .rename_i r;have r:=AP r;obtain⟨h1,h2⟩:=bQ.1 hk;simp only [AE,decide_eq_true_eq]at h1;split at h2
     .rename_i Y;have Y:=AP Y;obtain⟨h3,h4⟩:=bQ.1 h2;have h3:=CB h3;obtain⟨D,G⟩:=Bo h4;refine⟨_,?_,G⟩;simp only [Bl,j,X,hd,hl,hc,m,i,Z];rw [if_pos ⟨h1.1,h1.2.1,h1.2.2.1,h1.2.2.2,r,λ_=>h3⟩];simp only [D]
     .rename_i Y;obtain⟨D,G⟩:=Bo h2;refine⟨_,?_,G⟩;simp only [Bl,j,X,hd,hl,hc,m,i,Z];rw [if_pos ⟨h1.1,h1.2.1,h1.2.2.1,h1.2.2.2,r,λe=>by rw [e]at Y;simp at Y⟩];simp only [D]
    .exact hk.elim
   .exact hk.elim
  .exact hk.elim
 .rename_i a0 L j;split at hk
  .rename_i t u sx xx R O;split at hk
   .rename_i x e du d hs hx X V hd;split at hk
    .rename_i sz bytes z m i Z;split at hk
     .rename_i r;simp only [AE]at r;have T:=AP r.1;split at hk
      .rename_i k xs A;have y:aK (Nat.beq k 0) _ _:=hk
       cases g:Nat.beq k 0 with
       |true=>
        rw [g]at y;have g:=AP g;refine⟨_,?_,y⟩;simp only [Bl,j,R,O,hs,hx,X,V,hd,m,i,Z];rw [if_pos ⟨T,r.2⟩];simp only [A,g,if_true]
       |false=>
        rw [g]at y;obtain⟨h3,h4⟩:=bQ.1 y;have h3:=CB h3;obtain⟨D,G⟩:=Bo h4;refine⟨_,?_,G⟩;simp only [Bl,j,R,O,hs,hx,X,V,hd,m,i,Z];rw [if_pos ⟨T,r.2⟩];simp only [A];rw [if_neg (λe=>by rw [e]at g;simp at g),if_pos h3];simp only [D]
      .exact hk.elim
     .exact hk.elim
    .exact hk.elim
   .exact hk.elim
  .exact hk.elim
 .split at hk
  .rename_i v ha;exact⟨_,by simp only [ha],hk⟩
  .rename_i v x ha;obtain⟨D,G⟩:=Bo hk;exact⟨_,by simp only [ha,D],G⟩
  .exact hk.elim
theorem J0{C:FuncId->Y14->Heap->(IV->Heap->Prop)->Prop}{rs:Nat->Y10}{m:Met}{b:Nat}{id:Y10}{A:Prop} : ∀{i:List Nat},rdK (aU C) rs m b id A i->(i.all λj=>b.testBit j|| (!(m.a.testBit j)|| (match rs j,id with
  |some n,some k=>!(Nat.beq n k)
  |_,_=>true)))=true/\A
 | [],hk=>⟨rfl,hk⟩
 |j::r,hk=>by
  unfold rdK at hk;rw [EZ,AE];split at hk
  .rename_i l;obtain⟨h1,h2⟩:=J0 hk;refine⟨⟨?_,h1⟩,h2⟩;rw [<-Bool.or_assoc,l];rfl
  .have g: ∀{z:Bool},z=true->(b.testBit j|| (!(m.a.testBit j)||z))=true:=λe=>by rw [e];simp
   cases hrs:rs j with
   |none=>
    rw [hrs]at hk;obtain⟨h1,h2⟩:=J0 (id:=id) hk;exact⟨⟨g rfl,h1⟩,h2⟩
   |some n=>
    cases id with
    |none=>
     rw [hrs]at hk;obtain⟨h1,h2⟩:=J0 (id:=none) hk;exact⟨⟨g rfl,h1⟩,h2⟩
    |some k=>
     rw [hrs]at hk;obtain⟨h3,h4⟩:=bQ.1 hk;obtain⟨h1,h2⟩:=J0 h4;exact⟨⟨g h3,h1⟩,h2⟩
theorem Ux{C:FuncId->Y14->Heap->(IV->Heap->Prop)->Prop}{i:List Nat}{rs:Nat->Y10}{m:Met}{ps:Ps}{b:Nat}{id:Y10}{e:Ef}{A:Prop}(hk:d9A (aU C) i rs o m ps b id e A):(o=false\/ ((lS (m.chk e.c) b=true\/e.c= .e/\lS (m.e|||m.a) b=true/\a9M ps b e.h)/\Sr i rs m b id e.c=true))/\A:=by
 unfold d9A at hk;split at hk
 .exact⟨.inl rfl,hk⟩
 .split at hk
  .rename_i h1;unfold e9F at hk;split at hk
   .rename_i g;obtain⟨h3,h4⟩:=J0 hk;exact⟨.inr ⟨.inl h1,by unfold Sr;rw [g];exact h3⟩,h4⟩
   .rename_i g;refine⟨.inr ⟨.inl h1,?_⟩,hk⟩;unfold Sr
    split
    .rename_i h2;exact absurd h2 g
    .rfl
  .split at hk
   .rename_i g;split at hk
    .rename_i j;obtain⟨h1,h2⟩:=Y2 hk;exact⟨.inr ⟨.inr ⟨g,j,h1⟩,by rw [g];rfl⟩,h2⟩
    .exact hk.elim
   .exact hk.elim
theorem pF(L: ∀g xs h Q,C g xs h Q->aM E g xs h Q){ops:List Oper}{draw:Bool}{bef:Nat->Nat}{O:List Nat}{rs:Nat->Y10} : ∀{l:List (Oper×Nat)}{m:Met}{ps:Ps}{F:GF}{h:Heap}{K:GF->Heap->Prop},
  b0T (aU C) E f ops draw bef O rs l m ps F h K->Cl E f ops draw bef O rs l m ps F.ff h λR h'=> ∃G,G.ff=R/\K G h'
 | [],m,ps,F,h,K,hk=>Cl.nil ⟨F,rfl,hk⟩
 | (o,i)::r,m,ps,F,h,K,hk=>by
  unfold b0T at hk;obtain⟨G,A,hk⟩:=Qu (E:=E) hk;have X: ∀{o},dK ops F.ff.tm o=dK ops F.tmg o:=rfl
  have D:G.tmg=F.tmg:=congrArg FF.tm A;have T:G.lvg=F.lvg:=congrArg FF.lv A;rcases hk with⟨z,j⟩| ⟨z,j⟩
  .cases hrs:rs i with
   |none=>
    rw [hrs]at j;obtain⟨n,V,e,h1,h2,h3⟩:=b2C L j;obtain⟨y,h3⟩:=Ux h3;have h4:=pF L h3;rw [D]at y;refine Cl.cons ⟨n,e,?_,y,?_⟩
    .rw [D,T]at h2;rw [hrs];simp only [dJ,C4];rw [show dK ops F.ff.tm o=some true from z];exact h2
    .rw [b7S,h1,A]at h4;exact h4
   |some k=>
    rw [hrs]at j;obtain⟨e,h2,h3⟩:=b2B j;obtain⟨y,h3⟩:=Ux h3;have h4:=pF L h3;rw [D]at y;refine Cl.cons ⟨0,e,?_,y,?_⟩
    .rw [D]at h2;rw [hrs];simp only [dJ];rw [show dK ops F.ff.tm o=some true from z];exact h2
    .rw [b7S,A]at h4;exact h4
  .have h4:=pF L j;refine Cl.cons ⟨0,⟨.p,some .u,none,false,h⟩,?_,.inr ⟨.inl (by simp [Met.chk,lS]),rfl⟩,?_⟩
   .cases rs i<;>simp only [dJ,C4]<;>rw [show dK ops F.ff.tm o=some false from z]
   .rw [Ds,A]at h4;exact h4
theorem Mt{c:Code}{g:GF->Heap->(Ex->GF->Heap->Prop)->Prop}(l: ∀F h K,g F h K->bS E f c F.ff h λx j h'=> ∃G,G.ff=j/\K x G h'):
  ∀{n:Nat}{F:GF}{h:Heap}{K:Ex->GF->Heap->Prop},dUn g n F h K->bS E f (.loop c) F.ff h λx j h'=> ∃G,G.ff=j/\K x G h'
 |0,F,h,K,hk=>hk.elim
 |n+1,F,h,K,hk=>by
  unfold dUn at hk;refine bS.loop ((l _ _ _ hk).mono ?_);rintro x j h' ⟨G,rfl,i⟩
  cases x with
  |normal=>exact Mt l i
  |exit id=>exact⟨G,rfl,i⟩
  |ret=>exact⟨G,rfl,i⟩
theorem Yi: ∀{l:List (Nat×TV)}{F:GF}{A:Prop},B9 F l A->A/\∀k x,(Yh l).get k=some x->x=F.tmg k
 | [],F,A,h=>⟨h,λk x e=>by simp [Yh,PT.get]at e⟩
 | (s,v)::r,F,A,h=>by
  obtain⟨h1,h2⟩:=Yi h.2;refine⟨h1,λk x e=>?_⟩;unfold Yh at e;rw [PT.get_set]at e;split at e
  .rename_i hk;subst hk;simp only [AC]at e;subst e;exact h.1.symm
  .exact h2 k x e
theorem Wl: ∀{l:List (Nat×Y14)}{F:GF}{A:Prop},B8 F l A->A/\∀k x,(Wk l).get k=some x->x=F.lvg k
 | [],F,A,h=>⟨h,λk x e=>by simp [Wk,PT.get]at e⟩
 | (s,v)::r,F,A,h=>by
  obtain⟨h1,h2⟩:=Wl h.2;refine⟨h1,λk x e=>?_⟩;unfold Wk at e;rw [PT.get_set]at e;split at e
  .rename_i hk;subst hk;simp only [AC]at e;subst e;exact h.1.symm
  .exact h2 k x e
theorem nJ{F:GF}{A B:Prop}(g:A->B): ∀{l:List (Nat×TV)},B9 F l A->B9 F l B
 | [],h=>g h
 | (s,v)::r,h=>⟨h.1,nJ g h.2⟩
theorem nI{F:GF}{A B:Prop}(g:A->B): ∀{l:List (Nat×Y14)},B8 F l A->B8 F l B
 | [],h=>g h
 | (s,v)::r,h=>⟨h.1,nI g h.2⟩
theorem a6W{v:Inv1}{x:v.X}{F:GF}{h:Heap}{P:Nat->Prop}(r:B9 F (v.slots x) (B8 F (v.locs x) (h=v.hp x/\v.cond x/\P (v.meas x)))):
  ∃G m,G.ff=F.ff/\P m/\∀K:GF->Heap->Nat->Prop,(∀(x:v.X)(b:FF),v.cond x->K ⟨Yh (v.slots x),Wk (v.locs x),b⟩ (v.hp x) (v.meas x))->K G h m:=by
 obtain⟨h1,h2⟩:=Yi r;obtain⟨⟨h3,h4,i⟩,j⟩:=Wl h1;refine⟨⟨Yh (v.slots x),Wk (v.locs x),F.ff⟩,v.meas x,FF.ext' (λk=>?_) (λk=>?_),i,λK l=>by rw [h3];exact l x F.ff h4⟩
 .simp only [GF.ff,GF.tmg];split
  .rename_i y g;exact h2 k y g
  .rfl
 .simp only [GF.ff,GF.lvg];split
  .rename_i y g;exact j k y g
  .rfl
theorem uJ: ∀{v:Inv'}{F:GF}{h:Heap}{P:Nat->Prop},v.J F h P-> ∃G m,G.ff=F.ff/\P m/\∀K,v.I K->K G h m
 | .one v,F,h,P,g=>by
  unfold Inv'.J at g;split at g
  .exact a6W g
  .exact g.elim
 | .ex v,F,h,P,g=>by
  obtain⟨x,j⟩:=g;exact a6W j
 | .or a b,F,h,P,g=>by
  rcases g with g|g
  .obtain⟨G,m,h1,h2,h3⟩:=uJ g;exact⟨G,m,h1,h2,λK i=>h3 K i.1⟩
  .obtain⟨G,m,h1,h2,h3⟩:=uJ g;exact⟨G,m,h1,h2,λK i=>h3 K i.2⟩
theorem Ck{P i:Nat->Prop}(g: ∀m,P m->i m): ∀{v:Inv'}{F:GF}{h:Heap},v.J F h P->v.J F h i
 | .one v,F,h,hj=>by
  unfold Inv'.J at hj⊢;split at hj
  .exact nJ (λq=>nI (λq=>⟨q.1,q.2.1,g _ q.2.2⟩) q) hj
  .exact hj
 | .ex v,F,h,hj=>by
  obtain⟨x,j⟩:=hj;exact⟨x,nJ (λq=>nI (λq=>⟨q.1,q.2.1,g _ q.2.2⟩) q) j⟩
 | .or a b,F,h,hj=>hj.imp (Ck g) (Ck g)
theorem Ph: ∀{v:Inv'}{F:GF}{h:Heap},(v.J F h λ_=>True)-> ∃m,v.J F h λk=>k<m
 | .one v,F,h,g=>by
  unfold Inv'.J at g⊢;split at g
  .rename_i x i;exact⟨v.meas x+1,nJ (λq=>nI (λq=>⟨q.1,q.2.1,AQ _⟩) q) g⟩
  .exact g.elim
 | .ex v,F,h,g=>by
  obtain⟨x,i⟩:=g;exact⟨v.meas x+1,x,nJ (λq=>nI (λq=>⟨q.1,q.2.1,AQ _⟩) q) i⟩
 | .or a b,F,h,g=>by
  rcases g with g|g
  .obtain⟨m,hm⟩:=Ph g;exact⟨m,.inl hm⟩
  .obtain⟨m,hm⟩:=Ph g;exact⟨m,.inr hm⟩
theorem F0(X: ∀g xs h Q,C g xs h Q->aM E g xs h Q){U:Nat->Nat}{IL IC:Nat->Option Inv'} : ∀{c:Code}{F:GF}{h:Heap}{K:Ex->GF->Heap->Prop},dC (aU C) E f U IL IC c F h K->bS E f c F.ff h λx l h'=> ∃G,G.ff=l/\K x G h':=by
 intro c
 induction c with
 |skip=>intro F h K hk;exact bS.skip ⟨F,rfl,hk⟩
 |exit id=>intro F h K hk;exact bS.exit ⟨F,rfl,hk⟩
 |ret=>intro F h K hk;exact bS.ret ⟨F,rfl,hk⟩
 |region id ops draw=>
  intro F h K hk;unfold dC at hk;split at hk
  .rename_i O;have:=pF X hk;rw [Vk]at this;refine bS.region ?_;rw [O];exact this
  .rename_i j r O;have:=pF X hk;rw [Vk]at this;refine bS.region ?_;rw [O];exact this
 |seq a b iha ihb=>
  intro F h K hk;unfold dC at hk;split at hk
  .split at hk
   .refine bS.seq ((iha hk).mono ?_);rintro x l h' ⟨G,rfl,i⟩
    cases x with
    |normal=>exact ihb i
    |exit id=>exact⟨G,rfl,i⟩
    |ret=>exact⟨G,rfl,i⟩
   .rename_i v T;obtain⟨M,hk⟩:=hk;refine bS.seq ((iha hk.1).mono ?_);rintro x l h' ⟨G,rfl,i⟩
    cases x with
    |normal=>
     obtain⟨u,m,h1,hm,h3⟩:=uJ i;have:=ihb (h3 _ hk.2 hm);rw [h1]at this;exact this
    |exit id=>exact⟨G,rfl,i⟩
    |ret=>exact⟨G,rfl,i⟩
  .rename_i v T;refine bS.seq ((iha hk.1).mono ?_);rintro x l h' ⟨G,rfl,i⟩
   cases x with
   |normal=>
    obtain⟨u,m,h1,_,h3⟩:=uJ i;have:=ihb (h3 _ hk.2);rw [h1]at this;exact this
   |exit id=>exact⟨G,rfl,i⟩
   |ret=>exact⟨G,rfl,i⟩
 |cond c a b iha ihb=>
  intro F h K hk;unfold dC at hk;split at hk
  .rename_i x D
   cases x with
   |true=>
    refine bS.cond (b:=true) D (λ_=>?_) (λe=>by cases e);have:=iha (F:=Un c F true) hk;rw [E8 D]at this;exact this
   |false=>
    refine bS.cond (b:=false) D (λe=>by cases e) (λ_=>?_);have:=ihb (F:=Un c F false) hk;rw [E8 D]at this;exact this
  .exact hk.elim
 |block id c ih=>
  intro F h K hk;refine bS.block ((ih hk).mono ?_);rintro x l h' ⟨G,rfl,i⟩
  cases x with
  |normal=>exact⟨G,rfl,i⟩
  |ret=>exact⟨G,rfl,i⟩
  |exit id'=>
   simp only at i⊢;split at i
   .rename_i L;rw [if_pos (AP L)];exact⟨G,rfl,i⟩
   .rename_i L;rw [if_neg (FE L)];exact⟨G,rfl,i⟩
 |loop c ih=>
  intro F h K hk;unfold dC at hk;split at hk
  .rename_i n Z;exact Mt (λF h K=>ih) hk
  .split at hk
   .rename_i v T;obtain⟨y,R⟩:=hk;have A: ∀(n:Nat)(F:GF)(h:Heap),(v.J F h λm=>m<n)->bS E f (.loop c) F.ff h λx l h'=> ∃G,G.ff=l/\K x G h':=by
     intro n
     induction n with
     |zero=>intro F h y;obtain⟨G,m,_,hm,_⟩:=uJ y;omega
     |succ n ihn=>
      intro F h y;obtain⟨G,m,h1,hm,h3⟩:=uJ y;have:=ih (h3 _ R);rw [<-h1];refine bS.loop (this.mono ?_);rintro x l h' ⟨u,rfl,i⟩
      cases x with
      |normal=>
       refine ihn u h' ?_;have z:v.J u h' λV=>V<m:=i
       exact Ck (λk hk=>JZ) z
      |exit id=>exact⟨u,rfl,i⟩
      |ret=>exact⟨u,rfl,i⟩
    obtain⟨m,hm⟩:=Ph y;exact A m F h hm
   .split at hk
    .rename_i v T;obtain⟨M,y,R⟩:=hk;have A: ∀(n:Nat)(F:GF)(h:Heap),n<=M+1->(v.J F h λm=>m<n)->bS E f (.loop c) F.ff h λx l h'=> ∃G,G.ff=l/\K x G h':=by
      intro n
      induction n with
      |zero=>intro F h _ y;obtain⟨G,m,_,hm,_⟩:=uJ y;omega
      |succ n ihn=>
       intro F h Y y;obtain⟨G,m,h1,hm,h3⟩:=uJ y;have:=ih (h3 _ R JZ);rw [<-h1];refine bS.loop (this.mono ?_);rintro x l h' ⟨u,rfl,i⟩
       cases x with
       |normal=>
        refine ihn u h' JZ ?_;have z:v.J u h' λV=>V<m:=i
        exact Ck (λk hk=>JZ) z
       |exit id=>exact⟨u,rfl,i⟩
       |ret=>exact⟨u,rfl,i⟩
     exact A (M+1) F h (AF _) (Ck (λk hk=>JZ) y)
    .exact hk.elim
 |scope c ih=>intro F h K hk;exact bS.scope (ih hk)
 |_=>intros;rename_i hk;exact hk.elim
theorem a1Q(r: ∀g xs h Q,C g xs h Q->aM E g xs h Q){U:Nat->Nat}{IL IC:Nat->Option Inv'} : ∀{c:Code}{F:GF}{h:Heap}{K:Ex->GF->Heap->Prop},
  a1P (aU C) E f U IL IC c F h K->Di (aU C) E f U IL IC c K->bS E f c F.ff h λx l h'=> ∃G,G.ff=l/\K x G h':=by
 intro c
 induction c with
 |seq a b iha ihb=>
  intro F h K hk j;unfold a1P at hk;unfold Di at j;split at hk
  .rename_i y;simp only [y]at j;refine bS.seq ((F0 r hk).mono ?_);rintro x l h' ⟨G,rfl,i⟩
   cases x with
   |normal=>exact ihb i j
   |exit id=>exact⟨G,rfl,i⟩
   |ret=>exact⟨G,rfl,i⟩
  .rename_i v z;simp only [z]at j;refine bS.seq ((F0 r hk).mono ?_);rintro x l h' ⟨G,rfl,i⟩
   cases x with
   |normal=>
    obtain⟨A,m,h1,_,h3⟩:=uJ i;have:=ihb (h3 _ j.1) j.2;rw [h1]at this;exact this
   |exit id=>exact⟨G,rfl,i⟩
   |ret=>exact⟨G,rfl,i⟩
 |block id c ih=>
  intro F h K hk j;refine bS.block ((ih (K:=c7N id K) hk j).mono ?_);rintro x l h' ⟨G,rfl,i⟩;unfold c7N at i
  cases x with
  |normal=>exact⟨G,rfl,i⟩
  |ret=>exact⟨G,rfl,i⟩
  |exit id'=>
   simp only at i⊢;split at i
   .rename_i u;rw [if_pos (AP u)];exact⟨G,rfl,i⟩
   .rename_i u;rw [if_neg (FE u)];exact⟨G,rfl,i⟩
 |scope c ih=>intro F h K hk j;exact bS.scope (ih hk j)
 |_=>intro F h K hk _;exact F0 r hk
theorem a4C{F:GF}{h:Heap}{K:IV->Prop}{r:ResultVar}(hk:e2I (aU C) E f F h K r){g:Fr}(hf:g.ff=F.ff): ∃v,J2 E.P g h r=some v/\K v:=by
 have l:g.tm.get=F.tmg:=congrArg FF.tm hf;have m:g.lv.get=F.lvg:=congrArg FF.lv hf;unfold e2I at hk;unfold J2
 simp only [l,m];split at hk
 .rename_i t;split at hk
  .rename_i v z;exact⟨v,z,hk⟩
  .exact hk.elim
 .rename_i a t;split at hk
  .rename_i s j i;split at hk
   .rename_i cs y;obtain⟨v,h1,h2⟩:=sF hk;exact⟨v,by simp only [i,y];exact h1,h2⟩
   .exact hk.elim
  .rename_i id j i;simp only [aU,aT]at hk;split at hk
   .rename_i cs u;obtain⟨v,h1,h2⟩:=sF (C:=C) hk;exact⟨v,by simp only [i,u];exact h1,h2⟩
   .exact hk.elim
  .exact hk.elim
theorem wO{F:GF}{h:Heap}{g:Fr}(hf:g.ff=F.ff): ∀{l:List ResultVar}{K:Y14->Prop},Fl (aU C) E f F h l K-> ∃vs,jT E.P g h l=some vs/\K vs
 | [],K,hk=>⟨[],rfl,hk⟩
 |r::rs,K,hk=>by
  unfold Fl at hk;obtain⟨v,h1,h2⟩:=a4C hk hf;obtain⟨vs,h3,h4⟩:=wO hf h2;exact⟨v::vs,by simp only [jT,h1,h3],h4⟩
theorem Do: ∀(g:Y14)(i:Nat)(t:PT TV)(u:PT (Option TV)),(∀k,(match u.get k with|some x=>x|none=>none)=t.get k)->
  ∀k,(match(Qq g i u).get k with|some x=>x|none=>none)=(nG g i t).get k
 | [],i,t,u,h,k=>h k
 |v::r,i,t,u,h,k=>by
  unfold Qq nG
  refine Do r (i+1) _ _ (λk=>?_) k;simp only [PT.get_set]
  by_cases hk:k=i
  .simp [hk]
  .simp only [hk,if_false];exact h k
theorem b1D(g:Y14):(Qp g).ff=Fr.ff ⟨nG g 0 .nil,.nil⟩:=
 FF.ext' (λk=>Do g 0 .nil .nil (λk=>rfl) k) (λk=>rfl)
theorem vZ(i: ∀g xs h Q,C g xs h Q->aM E g xs h Q){U:Nat->Nat}{IL IC:Nat->Option Inv'}{rs:List ResultVar}{c:Code}{h:Heap}{K:Y14->Heap->Prop}
  (hk:Uz (aU C) E f U IL IC rs c d h K): ∃n vs h',iJ E f (jU E n) n rs c d h=some (vs,h')/\K vs h':=by
 unfold Uz at hk;have r:bS E f c (Qp d).ff h λx m h'=> ∃G,G.ff=m/\(λ(x:Ex)(F:GF)(h':Heap)=>match x with
   | .exit _=>False
   |_=>Fl (aU C) E f F h' rs λvs=>K vs h') x G h':=by
  split at hk
  .exact F0 i hk
  .exact a1Q i hk.1 hk.2
 have h1:=r ⟨nG d 0 .nil,.nil⟩ (b1D d).symm;obtain⟨n,x,u,h',l,G,j,h2⟩:=h1
 cases x with
 |exit id=>exact h2.elim
 |normal=>
  obtain⟨vs,h3,h4⟩:=wO j.symm h2;exact⟨n,vs,h',by simp [iJ,l,h3],h4⟩
 |ret=>
  obtain⟨vs,h3,h4⟩:=wO j.symm h2;exact⟨n,vs,h',by simp [iJ,l,h3],h4⟩
theorem Z6{h:Heap}{v:IV}{K:IV->Heap->Prop}(hk:a6R (aU C) h v K):K (Dp h v).1 (Dp h v).2:=by
 unfold a6R at hk;split at hk
 .exact nO (λ_ _ _ q=>wF q) hk
 .rename_i g;have:Dp h v=mH h v:=by
   unfold Dp
   split
   .exact absurd rfl (g _)
   .rfl
  rw [this];exact wF hk
theorem Vh{h:Heap}{v:IV}{K:IV->Heap->Prop}(hk:b7Q (aU C) h v K):K (a1S h v).1 (a1S h v).2:=by
 unfold b7Q at hk;have h1:=Z6 hk;unfold a1S
 generalize Dp h v=y at h1⊢;obtain⟨j,h'⟩:=y;dsimp only at h1⊢;split at h1
 .exact h1 _ _ .mk
 .rename_i i;split
  .rename_i g;simp only [BX]at g;exact absurd g.1 (i _ _ _ _)
  .exact h1
theorem Lx{vs:Y14}{h:Heap}{K:Y14->Prop}(hk:Qt (aU C) E f vs h K):K (Dq E f vs h):=by
 unfold Qt at hk;unfold Dq
 split at hk
 .rename_i g;rw [if_pos g];split at hk
  .rename_i hd;rw [if_pos hd];exact nO (λ_ _ _ q=>Vh q) hk
  .rename_i hd;rw [if_neg (by simp [hd])];exact nO (λ_ _ _ q=>Z6 q) hk
 .rename_i g;rw [if_neg (by simp [g])];exact hk
theorem b7C(j: ∀g xs h Q,C g xs h Q->aM E g xs h Q){U:Nat->Nat}{IL IC:Nat->Option Inv'}{h:Heap}{Q:IV->Heap->Prop}
  (hk:dF (aU C) E f U IL IC d h Q):aM E f d h Q:=by
 unfold dF at hk;split at hk
 case h_2=>exact hk.elim
 rename_i fn hf;split at hk
 case h_2=>exact hk.elim
 rename_i c l;split at hk
 .rename_i i;split at hk
  .rename_i m;obtain⟨n,vs,h',h1,h2⟩:=vZ j hk;refine⟨n+1,(lO E f (eF (X0 E f fn.resultTypes.toList vs)) h').1,(lO E f (eF (X0 E f fn.resultTypes.toList vs)) h').2,?_,?_⟩
   .rw [iB];simp only [hf,l,i,m,h1]
   .split at h2
    .exact h2
    .rename_i u;simpa [lO,u]using h2
  .rename_i m;obtain⟨y,hk⟩:=Z8 hk;obtain⟨r,hk⟩:=bQ.1 hk;obtain⟨n,vs,h',h1,h2⟩:=vZ j hk;obtain⟨h3,h4⟩:=bQ.1 h2;refine⟨n+1,_,h,?_,h4⟩;rw [iB];simp only [hf,l,i,m,r,h1,if_true,a7I,h3,DC]
 .rename_i i;obtain⟨r,hk⟩:=bQ.1 hk;obtain⟨n,vs,h',h1,h2⟩:=vZ j hk;obtain⟨h3,h4⟩:=bQ.1 (Lx h2);refine⟨n+1,_,h,?_,h4⟩;rw [iB];simp only [hf,l,i,r,h1,if_true,Qz,h3,DC]
end
end Go.Pv
namespace Go.Pv
def aS(E:Env)(C:FuncId->Y14->Heap->(IV->Heap->Prop)->Prop):Prop:= ∀g xs h Q,C g xs h Q->aM E g xs h Q
def noC:FuncId->Y14->Heap->(IV->Heap->Prop)->Prop:=λ_ _ _ _=>False
def aV(g:FuncId)(k:Y14->Heap->(IV->Heap->Prop)->Prop)(C:FuncId->Y14->Heap->(IV->Heap->Prop)->Prop):FuncId->Y14->Heap->(IV->Heap->Prop)->Prop:=
 λi xs h K=>match Nat.beq i g with
  |true=>k xs h K
  |false=>C i xs h K
def cC:Nat->Nat:=λ_=>0
def bD:Nat->Option Inv':=λ_=>none
theorem jW(E:Env):aS E noC:=λ_ _ _ _ h=>h.elim
theorem aE{E:Env}{g:FuncId}{k:Y14->Heap->(IV->Heap->Prop)->Prop}{C:FuncId->Y14->Heap->(IV->Heap->Prop)->Prop}(hk: ∀xs h Q,k xs h Q->aM E g xs h Q)(l:aS E C):aS E (aV g k C):=by
 intro j xs h Q i;unfold aV at i;split at i
 .rename_i e;obtain rfl:=AP e;exact hk xs h Q i
 .exact l j xs h Q i
theorem aB{b:Bool}{A B:Prop}(g:b=true->A)(i:b=false->B):aK b A B:=by
 cases b with
 |true=>exact g rfl
 |false=>exact i rfl
theorem aA{b:Bool}{A:Prop}(i:b=true)(g:A):aF b A:=by subst i;exact g
theorem bN{Q:IV->Heap->Prop}{v g:IV}{h:Heap}(hk:Q v h)(e:v=g):Q g h:=e▸hk
theorem e8M{A B:Prop}(e:A=B)(g:B):A:=e▸g
theorem aL{E:Env}{C:FuncId->Y14->Heap->(IV->Heap->Prop)->Prop}(i:aS E C){f:FuncId}{U:Nat->Nat}{IL IC:Nat->Option Inv'}{h:Heap}{Q:IV->Heap->Prop}{g:Prop}
 (e:dF (aU C) E f U IL IC c h Q=g) (hk:g):aM E f c h Q:=b7C i (e8M e hk)
end Go.Pv
namespace Go.Pv
def atC(g:List (Nat×TV))(i:List (Nat×Y14))(h:Heap):Inv':= .one ⟨Unit,λ_=>g,λ_=>i,λ_=>h,λ_=>True,λ_=>0,λ_ _=>some ()⟩
def mJ(n:Nat)(v:Inv'):Nat->Option Inv':=λk=>match Nat.beq k n with
 |true=>some v
 |false=>none
def zE(n:Nat)(v:Inv')(r:Nat->Option Inv'):Nat->Option Inv':=λk=>match Nat.beq k n with
 |true=>some v
 |false=>r k
def atP(p:Prop)(g:List (Nat×TV))(i:List (Nat×Y14))(h:Heap):Inv':= .one ⟨Unit,λ_=>g,λ_=>i,λ_=>h,λ_=>p,λ_=>0,λ_ _=>some ()⟩
def dL(X:Type)(g:X->List (Nat×TV))(i:X->List (Nat×Y14))(l:X->Heap)(cond:X->Prop)(j:X->Nat):Inv':= .ex ⟨X,g,i,l,cond,j,λ_ _=>none⟩
theorem cO{k:IntKind}{l:Y12}{i:Nat}{K:Int->Prop}(h:i<l.length)(hk:K l[i]):aN k (l.map (IV.int k)) i K:=by
 unfold aN
 rw [BJ,AB h];simpa using hk
def icS(r:Nat->Option Inv'):Nat->Option Inv':=zE c3X (atC [] [] Heap.empty) r
theorem bT{a b:Nat} :Nat.beq a b=true ↔ a=b:=⟨AP,λh=>by subst h;exact JR a⟩
theorem Ev{a b:Nat} :Nat.beq a b=false ↔ a≠b:=by rw [<-Bool.not_eq_true,bT]
theorem bL{k:IntKind} : ∀{l:Y12},aQ (l.map (IV.int k))=true
 | []=>rfl
 |_::r=>by simp only [BN,aQ,aY,BD];exact bL
theorem bF: ∀{l m:Y14},aQ (l++m)=(aQ l&&aQ m)
 | [],m=>by simp [aQ]
 |x::r,m=>by simp only [CV,aQ,bF,Bool.and_assoc]
end Go.Pv
end
section
namespace Go.Pv
open Go.ChangeShapes Go.RowKit
def M0(W:World):Meta where
 nid:=0
 loc:=λ_=>none
 tip:=λ_=>0
 cur:=λ_=>(0,0)
 im:=λb o=>W.cell? ⟨b,o,none⟩
 bsz:=λb=>match W.heap[b]? with|some (.cells c _ _)=>some c.size|_=>none
theorem f4M(W:World):Inv (M0 W) Heap.empty W where
 nid:=rfl
 fresh:=λid _=>by simp [Heap.empty,Heap.get,PT.get]
 freshl:=λ_ _=>rfl
 cells:=λid cs e=>by simp [Heap.empty,Heap.get,PT.get]at e
 tips:=λid n e=>by simp [Heap.empty,Heap.get,PT.get]at e
 maps:=λid i e=>by simp [Heap.empty,Heap.get,PT.get]at e
 im:=λb o v e=>e
 bsz:=λb n e=>by
  simp only [M0]at e;split at e
  .rename_i h;exact cQ h
  .simp at e
 one:=λid g b e _=>by simp [Wb,Heap.empty,Heap.get,PT.get]at e
 resv:=λid e=>by simp [Heap.empty,Heap.get,PT.get]at e
theorem b2L{E:Env}(hm:E.P.follows .mixedOrders=true)(j:X2 E.P=true){f:FuncId}{xs:Y14}{v:IV}(l:jU E i f xs Heap.empty=some (v,h))
  (W:World) {rs:List Value} (hG:Ue E (M0 W)) (hv:cU (M0 W) xs rs):
  Calls E.P f rs.toArray W λe g=> ∃r M',e= .returned r/\VR M' v r/\Below W.heap.size W g:=by
 refine((Vi hm j i f xs Heap.empty v h l).2 (M0 W) W rs (f4M W) hG hv).mono ?_;rintro e g ⟨r,M',h1,h2,h3,h4⟩;exact⟨r,M',h1,h2,h4.os,h4.tape,h4.output,h4.size,λk hk=>(h4.keep k hk (by rintro⟨id,e⟩;simp [Wb,Heap.empty,Heap.get,PT.get]at e)).1⟩
theorem c3H{E:Env}(hm:E.P.follows .mixedOrders=true)(j:X2 E.P=true){f:FuncId}{xs:Y14}(l:jU E i f xs Heap.empty=some (.bool true,h))
  (W:World) {rs:List Value} (hG:Ue E (M0 W)) (hv:cU (M0 W) xs rs):
  Calls E.P f rs.toArray W λe g=>e= .returned (.bool true)/\Below W.heap.size W g:=by
 refine(b2L hm j l W hG hv).mono ?_;rintro e g ⟨r,M',h1,h2,h3⟩
 cases h2
 exact⟨h1,h3⟩
section
variable {H:Type} {enc:TypeId×Value->H} {P:Program}
theorem A3(m:laidOutB P=true){W j:World}(l:Below W.heap.size W j)(sp:Nat->Bool):
  ∀{ts:List TypeId}{vs:List Value}{i:List (DataW H)}{ps:List MemPlace},ts.all (λt=>P.readableRec t&&decide (t<P.types.size))=true->DataW.TrodAll enc P W 0 (λ_=>true) true ts vs i ps->
   (∀p∈ps,p.block<W.heap.size)->(∀p∈ps,sp p.block=true)->DataW.TrodAll enc P j 0 sp true ts vs i ps
 | [],vs,i,ps,_,h,_,_=>by
  obtain⟨rfl,rfl,rfl⟩:=trodAll_nil h;exact trodAll_mk0
 |t::ts,vs,i,ps,ht,h,hlt,hsp=>by
  obtain⟨v,u,d,r,p,q,rfl,rfl,rfl,h1,h2⟩:=trodAll_cons h;simp only [EZ,AE,decide_eq_true_eq]at ht;exact⟨p,q,WideElems.Trod_stays m ht.1.1 ht.1.2 h1 (λx g=>l.same (hlt x (by simp [g]))) (λx g=>hsp x (by simp [g])),
   A3 m l sp (by simpa using ht.2) h2 (λx g=>hlt x (by simp [g])) (λx g=>hsp x (by simp [g])),rfl⟩
theorem Ma{f:Func}{s:ChangeSpec}{apart y j u:Bool}{W A:World}{i:Array Value}{r K:List (DataW H)}{g:List MemPlace}{tb:TypeId}
  (hl:laidOutB P=true) (hrd:f.params.toList.all (λt=>P.readableRec t&&decide (t<P.types.size))=true) (hrt:f.resultTypes= #[tb]) (hub:P.underlying tb=some .bool)
  (hW:DataW.Whole enc P f.params.toList s.vars apart W i.toList r K g) (hvars:s.vars=[]) (hb:Below W.heap.size W A)
  (hres:(s.fn H (r++K)).results=[.lit (.bool true)]) (hargs:(s.fn H (r++K)).args=r) (hvs:(s.fn H (r++K)).vars=[]):
  s.post enc P f apart y j u W i (.bool true) A:=by
 have l: ∀p∈g,p.block<W.heap.size:=λp m=>hW.lt p m
 have L:=hW;obtain⟨p,q,X,T,G,hz,Z⟩:=L;rw [hvars]at T;obtain⟨rfl,rfl⟩:=trodVars_none T;rw [CZ]at G;subst G;have r1: ∀(b:Nat)(sp:Nat->Bool)(hd:Bool),DataW.TrodAll enc P A b sp hd f.resultTypes.toList ((Value.bool true).resultList f.resultTypes.size) (s.fn H (r++ [])).results []:=by
  intro b sp hd;rw [hres,hrt];exact trodAll_mk1 (shut_bool hub true)
 have R: ∀sp:Nat->Bool,(∀p∈g,sp p.block=true)->DataW.TrodAll enc P A 0 sp true f.params.toList i.toList (s.fn H (r++ [])).args g:=by
  intro sp O;rw [hargs];exact A3 hl hb sp hrd X l O
 have V: ∀sp:Nat->Bool,DataW.TrodVars enc P A sp s.vars (s.fn H (r++ [])).vars []:=by
  intro sp;rw [hvs,hvars];rfl
 refine⟨r,[],g,[],g,[],hW,r1 _ _ _,R _ (λp m=>by simpa using l p m),V _,World.keptBut_mono (λp m=>⟨m,by simp [m]⟩) (hb.frame (· ∈g)),λ_=>⟨ok_one hrt rfl (okWide_bool_mk hub true),_,_,([]++g)++ [],
  ⟨[]++g,[],trodAll_append (R _ (λ_ _=>rfl)) (r1 _ _ _),V _,rfl,?_,?_⟩,?_⟩⟩
 .intro b z m;have D:MemPlace.cell b z∈g:=by simpa using m
  rw [hb.frozen (p:=⟨b,z,none⟩) (l _ D)];exact hz b z D
 .intro Y;simpa using Z Y
 .intro p m _;simpa using m
end
end Go.Pv
end
section
namespace Go.Pv
section
variable {H:Type}
def dl(g:DataW H->Option (Y14)):List (DataW H)->Option (Y14)
 | []=>some []
 |d::r=>match g d,dl g r with
  |some x,some y=>some (x++y)
  |_,_=>none
def dfs(P:Program)(g:TypeId->DataW H->Option (Y14)):Nat->List Field->List (DataW H)->Option (Y14)
 |off,[],[]=>some []
 |off,f::fs,d::r=>if f.offset=off then match g f.type d,dfs P g (off+P.cellsOf f.type) fs r with
   |some x,some y=>if x.length=P.cellsOf f.type then some (x++y)else none
   |_,_=>none
  else none
 |_,_,_=>none
def fJ(P:Program):Nat->TypeId->DataW H->Option (Y14)
 |0,_,_=>none
 |n+1,t,d=>
  match P.underlying t,d with
  |some .bool,.lit (.bool b)=>some [.bool b]
  |some (.int _),.lit (.int k z)=>some [.int k z]
  |some .string,.lit (.string l)=>some [.str l]
  |some (.pointer _),.nil=>some [.nilptr]
  |some (.slice e),.nil=>some [.vslice none 0 0 (P.cellsOf e) []]
  |some (.map ..),.nil=>some [.nilmap]
  |some (.slice e),.slice elems _=>match dl (fJ P n e) elems with
   |some l=>if 0<P.cellsOf e/\l.length=elems.length*P.cellsOf e then some [.vslice none 0 elems.length (P.cellsOf e) l]else none
   |none=>none
  |some (.struct fs),.agg ds=>match dfs P (fJ P n) 0 fs.toList ds with
   |some l=>if l.length=P.cellsOf t then some l else none
   |none=>none
  |some (.array m e),.agg ds=>match dl (fJ P n e) ds with
   |some l=>if l.length=P.cellsOf t/\l.length=m*P.cellsOf e/\ds.length=m/\0<P.cellsOf e then some l else none
   |none=>none
  |_,_=>none
end
theorem uB{M:Meta}{x:IV}{r:Value}(h:VR M x r)(g:isCell x=true):eP M [x] [r]:=eP.cons h g (eP.nil M)
section
variable {H:Type} {enc:TypeId×Value->H} {P:Program} {W:World} {sp:Nat->Bool} {hd:Bool}
theorem pI{α β:Type}{f:α->Option β}{x:α}{l:List α}{r:List β}(h:(x::l).mapM f=some r): ∃b g,f x=some b/\l.mapM f=some g/\r=b::g:=by
 simp only [JD,Option.bind_eq_bind,CJ,Option.pure_def,AC]at h;obtain⟨b,i,g,j,rfl⟩:=h;exact⟨b,g,i,j,rfl⟩
theorem sH{α β:Type}{f:α->Option β}{r:List β}(h:([]:List α).mapM f=some r):r=[]:=by
 simpa [eq_comm]using h
theorem c7S{g:DataW H->Option (Y14)}{d:DataW H}{r:List (DataW H)}{l:Y14}(h:dl g (d::r)=some l): ∃x y,g d=some x/\dl g r=some y/\l=x++y:=by
 simp only [dl]at h;split at h
 .rename_i x y h1 h2;exact⟨x,y,h1,h2,(AV h).symm⟩
 .cases h
theorem U9{F:List Value->Option (DataW H×List MemPlace)}{g:DataW H->Option (Y14)}(A: ∀cs d ps xs,F cs=some (d,ps)->g d=some xs->eP (M0 W) xs cs)
  {rd:Nat->Option (List Value)} : ∀(m:List Nat)(j:List (DataW H×List MemPlace))(l:Y14),m.mapM (λi=>(rd i).bind F)=some j->dl g (j.map (·.1))=some l->
  ∃r:List (List Value),m.mapM rd=some r/\eP (M0 W) l r.flatten
 | [],j,l,h,hl=>by
  obtain rfl:=sH h;simp only [DT,dl,AC]at hl;subst hl;exact⟨[],rfl,eP.nil _⟩
 |i::m,j,l,h,hl=>by
  obtain⟨b,O,D,G,rfl⟩:=pI h;simp only [BN]at hl;obtain⟨x,y,K,L,rfl⟩:=c7S hl;obtain⟨r,h1,h2⟩:=U9 A m O y G L;obtain⟨cs,z,u⟩:=CJ.1 D;refine⟨cs::r,by simp [z,h1],?_⟩;simp only [GP];exact(A cs b.1 b.2 x u K).append h2
theorem lD{α β:Type}{f:α->Option β} : ∀{l:List α}{r:List β},l.mapM f=some r->l.length=r.length/\∀(i:Nat)(a:α),l[i]?=some a-> ∃b,r[i]?=some b/\f a=some b
 | [],r,h=>by obtain rfl:=sH h;exact⟨rfl,λi a e=>by simp at e⟩
 |x::l,r,h=>by
  obtain⟨b,m,g,j,rfl⟩:=pI h;obtain⟨h1,h2⟩:=lD j;refine⟨by simp [h1],λi a e=>?_⟩
  cases i with
  |zero=>simp at e;subst e;exact⟨b,rfl,g⟩
  |succ i=>exact h2 i a (by simpa using e)
theorem wC{α:Type}{sz:Nat} : ∀{g:List (List α)},(∀v∈g,v.length=sz)-> ∀(i j:Nat)(v:List α),g[i]?=some v->j<sz->g.flatten[i*sz+j]?=v[j]?
 | [],_,i,j,v,h,_=>by simp at h
 |u::g,hl,0,j,v,h,hj=>by
  simp at h;subst h;simp only [GP,FK,AY];rw [BM (by rw [hl u KB];exact hj)]
 |u::g,hl,i+1,j,v,h,hj=>by
  simp only [GP];have l:=hl u KB;rw [BC (by rw [l];rw [ER];omega),l];have:(i+1)*sz+j-sz=i*sz+j:=by rw [ER];omega
  rw [this];exact wC (λx m=>hl x (by simp [m])) i j v (by simpa using h) hj
theorem wD{α:Type}{sz:Nat} : ∀{g:List (List α)},(∀v∈g,v.length=sz)->g.flatten.length=g.length*sz
 | [],_=>KB
 |u::g,hl=>by
  simp only [GP,AI,AS];rw [hl u KB,wD (λx i=>hl x (by simp [i])),ER,JS]
theorem b6Z{a:Addr}{sz n:Nat}{g:List (List Value)}(z:0<sz)(h:(List.range n).mapM (λi=>W.cells? 0 (a.add (i*sz)) sz)=some g):
  g.length=n/\g.flatten.length=n*sz/\(0<n->a.spot=none)/\∀i,i<n*sz-> ∃v,g.flatten[i]?=some v/\W.cell? ⟨a.block,a.off+i,none⟩=some v:=by
 obtain⟨h1,h2⟩:=lD h;simp only [EK]at h1;have r: ∀v∈g,v.length=sz:=by
  intro v u;obtain⟨i,y,rfl⟩:=HK u;obtain⟨b,G,K⟩:=h2 i i (by simp [h1,y]);rw [AB y]at G;obtain rfl:=AV G;exact(World.cells?_some K).2.1
 have D:=wD r;rw [<-h1]at D;have l: ∀i j,i<n->j<sz-> ∃v,g.flatten[i*sz+j]?=some v/\W.cell? ((a.add (i*sz)).add j)=some v:=by
  intro i j y R;obtain⟨b,G,K⟩:=h2 i i (by simp [y]);obtain⟨_,O,V⟩:=World.cells?_some K;refine⟨b[j]'JZ,?_,?_⟩
  .rw [wC r i j b G R,AB]
  .rw [V j R,AB]
 have m:0<n->a.spot=none:=by
  intro L;obtain⟨v,_,u⟩:=l 0 0 L z;simp only [FK,Addr.add,if_true]at u
  cases hs:a.spot with
  |none=>rfl
  |some s=>
   unfold World.cell? at u;rw [hs]at u;simp at u;split at u<;>simp at u
 refine⟨h1.symm,D,m,λi y=>?_⟩;have L:0<n:=by
  rcases GE n with e|e
  .subst e;simp at y
  .exact e
 have A:i/sz<n:=(HA z).2 y;obtain⟨v,T,O⟩:=l (i/sz) (i%sz) A (HZ _ z);have e:i/sz*sz+i%sz=i:=by rw [IN];exact Nat.div_add_mod i sz
 rw [e]at T;refine⟨v,T,?_⟩;obtain⟨b,o,s⟩:=a;have:s=none:=m L;subst this;rw [dB,dB,EY,e]at O;exact O
theorem d7L{b o:Nat}{v:Value}(h:W.cell? ⟨b,o,none⟩=some v): ∃n,(M0 W).bsz b=some n/\o<n:=by
 unfold World.cell? at h;simp only [DD,BA,if_false]at h;simp only [M0];split at h
 .rename_i c i j g;rw [g];exact⟨c.size,rfl,(HU.1 h).1⟩
 .simp at h
theorem b7D{g:TypeId->DataW H->Option (Y14)}{F:TypeId->List Value->Option (DataW H×List MemPlace)}(r: ∀t cs d ps xs,F t cs=some (d,ps)->g t d=some xs->eP (M0 W) xs cs){cs:List Value} :
  ∀(m:List Field)(i:Nat)(xs:List (DataW H×List MemPlace))(l:Y14),m.mapM (λf=>F f.type ((cs.drop f.offset).take (P.cellsOf f.type)))=some xs->dfs P g i m (xs.map (·.1))=some l->
  eP (M0 W) l ((cs.drop i).take l.length)
 | [],i,xs,l,h,hl=>by
  obtain rfl:=sH h;simp only [DT,dfs,AC]at hl;subst hl;exact eP.nil _
 |f::m,i,xs,l,h,hl=>by
  obtain⟨b,G,u,z,rfl⟩:=pI h;simp only [BN,dfs]at hl;split at hl
  case isFalse=>cases hl
  rename_i ho;split at hl
  case h_2=>cases hl
  rename_i x y A D;split at hl
  case isFalse=>cases hl
  rename_i j;obtain rfl:=(AV hl).symm;have h1:=r _ _ b.1 b.2 x u A;have h2:=b7D r m (i+P.cellsOf f.type) G y z D;rw [ho]at h1;have e:(cs.drop i).take (x++y).length=(cs.drop i).take (P.cellsOf f.type)++(cs.drop (i+P.cellsOf f.type)).take y.length:=by
   rw [AI,j,List.take_add,List.drop_drop]
  rw [e];exact h1.append h2
theorem Yj(a6: ∀b,sp b=true): ∀(r n:Nat)(t:TypeId)(cs:List Value)(d:DataW H)(ps:List MemPlace)(xs:Y14),DataW.trod enc P W 0 sp hd r t cs=some (d,ps)->fJ P n t d=some xs->eP (M0 W) xs cs
 |0,_,_,_,_,_,_,h,_=>by simp [DataW.trod]at h
 |r+1,0,_,_,_,_,_,_,hx=>by simp [fJ]at hx
 |r+1,n+1,t,vs,d,ps,xs,h,hx=>by
  have ih:=Yj a6 r n;simp only [DataW.trod]at h;simp only [fJ]at hx;split at h
  .rename_i j;obtain⟨rfl,rfl⟩:=CP (Option.some.inj h);simp only [j,AC]at hx;subst hx;exact uB (.bool _) rfl
  .rename_i j;split at h
   case isFalse=>cases h
   rename_i hk;obtain⟨rfl,rfl⟩:=CP (Option.some.inj h);simp only [j,AC]at hx;subst hx;rw [hk.1];exact uB (.int _ _) rfl
  .rename_i j;split at h
   case isFalse=>cases h
   obtain⟨rfl,rfl⟩:=CP (Option.some.inj h);simp only [j]at hx;cases hx
  .rename_i j;split at h
   case isFalse=>cases h
   obtain⟨rfl,rfl⟩:=CP (Option.some.inj h);simp only [j,AC]at hx;subst hx;exact uB (.str _) rfl
  .rename_i j;obtain⟨rfl,rfl⟩:=CP (Option.some.inj h);simp only [j,AC]at hx;subst hx;exact uB .nilptr rfl
  .rename_i j;obtain⟨x,b9,b5⟩:=AD.1 h;obtain⟨rfl,rfl⟩:=CP b5;simp only [j]at hx;cases hx
  .rename_i j;obtain⟨rfl,rfl⟩:=CP (Option.some.inj h);simp only [j,AC]at hx;subst hx;exact uB .vnil rfl
  .rename_i e a len cap j;split at h
   case isFalse=>cases h
   rename_i Z;obtain⟨G,a0,b0⟩:=CJ.1 h;obtain⟨b6,a5,b4⟩:=AD.1 b0;obtain⟨rfl,rfl⟩:=CP b4;simp only [j]at hx;split at hx
   case h_2=>cases hx
   rename_i l hl;split at hx
   case isFalse=>cases hx
   rename_i O;obtain rfl:=(Option.some.inj hx).symm;obtain⟨R,a2,D⟩:=U9 (F:=DataW.trod enc P W 0 sp hd r e) (g:=fJ P n e) (λcs d ps xs q1 q2=>ih e cs d ps xs q1 q2) _ G l a0 hl;obtain⟨g1,g2,g3,g4⟩:=b6Z O.1 a2;have A:G.length=len:=by
    have:=(lD a0).1;simpa using this.symm
   rw [if_pos (a6 _)]at a5;have a1:cap=0\/ (a.spot=none/\∃m,(M0 W).bsz a.block=some m/\a.off+cap*P.cellsOf e<=m):=by
    rcases GE cap with h0|h0
    .exact .inl h0
    right
    have K: ∀i,i<cap-> ∃vs,W.cells? 0 (a.add (i*P.cellsOf e)) (P.cellsOf e)=some vs:=by
     intro i T;rcases BK i len with q|q
     .obtain⟨b,_,V⟩:=(lD a0).2 i i (by simp [q]);obtain⟨vs,z,_⟩:=CJ.1 V;exact⟨vs,z⟩
     .obtain⟨b,_,V⟩:=(lD a5).2 (i-len) (i-len) (by rw [FU JZ]);obtain⟨vs,z,_⟩:=CJ.1 V;rw [show len+(i-len)=i by omega]at z;exact⟨vs,z⟩
    have L:a.spot=none:=by
     obtain⟨vs,z⟩:=K 0 h0;obtain⟨_,q2,q3⟩:=World.cells?_some z;have:=q3 0 O.1;rw [AB JZ]at this;simp only [FK,Addr.add,if_true]at this
     cases hs:a.spot with
     |none=>rfl
     |some s=>
      unfold World.cell? at this;rw [hs]at this;simp at this;split at this<;>simp at this
    refine⟨L,?_⟩;obtain⟨vs,z⟩:=K (cap-1) JZ;obtain⟨_,q2,q3⟩:=World.cells?_some z;have:=q3 (P.cellsOf e-1) JZ;rw [AB JZ]at this;obtain⟨ab,ao,b7⟩:=a;simp only at L;subst L;rw [dB,dB]at this;obtain⟨m,b3,b8⟩:=d7L this;refine⟨m,b3,?_⟩;have e1:cap*P.cellsOf e=(cap-1)*P.cellsOf e+P.cellsOf e:=by
     rw [<-Nat.succ_mul];congr 1;omega
    show ao+cap*P.cellsOf e<=m;omega
   refine uB ?_ rfl;rw [AX,A];rw [AX,A]at O;refine .vslice a (λi=>R.flatten.getD i undef) O.2 Z.2.1 a1 ?_ ?_ D.2 KB (λ_=> .inl rfl)
   .intro i T;rw [O.2]at T;obtain⟨v,p1,p2⟩:=g4 i T;simp only [M0,AH,p1,p2,FP]
   .intro i T;have a4:i<R.flatten.length:=by rw [<-D.len];exact T
    have:=D.1.2 i T a4;simp only [AH,AB a4,FP];exact this
  .rename_i cs' fs j;split at h
   case isFalse=>cases h
   rename_i A;obtain⟨ys,a3,u⟩:=AD.1 h;obtain⟨rfl,rfl⟩:=CP u;simp only [j]at hx;split at hx
   case h_2=>cases hx
   rename_i l hl;split at hx
   case isFalse=>cases hx
   rename_i b2;obtain rfl:=(Option.some.inj hx).symm;have:=b7D (W:=W) (F:=λt cs=>DataW.trod enc P W 0 sp hd r t cs) (g:=fJ P n) (λt cs d ps xs q1 q2=>ih t cs d ps xs q1 q2) fs.toList 0 ys xs a3 hl;rw [DB,b2,<-A,EC]at this;exact this
  .rename_i vs xo cs' m e j;split at h
   case isFalse=>cases h
   obtain⟨ys,a3,u⟩:=AD.1 h;obtain⟨rfl,rfl⟩:=CP u;simp only [j]at hx;split at hx
   case h_2=>cases hx
   rename_i l hl;split at hx
   case isFalse=>cases hx
   rename_i hc;obtain rfl:=(Option.some.inj hx).symm;obtain⟨R,a2,D⟩:=U9 (F:=DataW.trod enc P W 0 sp hd r e) (g:=fJ P n e) (rd:=λi=>some ((vs.drop (i*P.cellsOf e)).take (P.cellsOf e))) (λcs d ps xs q1 q2=>ih e cs d ps xs q1 q2) _ ys xs (by simpa using a3) hl;have a8:vs.length=m*P.cellsOf e:=JZ;have b1:R.flatten=vs:=by
    obtain⟨g1,g2⟩:=lD a2;simp only [EK]at g1;have a7: ∀v∈R,v.length=P.cellsOf e:=by
     intro v hv;obtain⟨i,T,rfl⟩:=HK hv;obtain⟨b,V,Y⟩:=g2 i i (by simp [g1,T]);rw [AB T]at V;obtain rfl:=Option.some.inj V;have:=Option.some.inj Y;rw [<-this];simp only [AW,DJ,a8];have:i*P.cellsOf e+P.cellsOf e<=m*P.cellsOf e:=by
      rw [<-Nat.succ_mul];exact CE _ JZ
     omega
    refine DE (λk=>?_);rcases BK k (m*P.cellsOf e)with hk|hk
    .have a9:k/P.cellsOf e<m:=(HA hc.2.2.2).2 hk;obtain⟨b,V,Y⟩:=g2 (k/P.cellsOf e) (k/P.cellsOf e) (by rw [FU a9]);have X:=HZ k hc.2.2.2;have e1:k/P.cellsOf e*P.cellsOf e+k%P.cellsOf e=k:=by rw [IN];exact Nat.div_add_mod k _
     have q:=wC a7 (k/P.cellsOf e) (k%P.cellsOf e) b V X;rw [e1]at q;rw [q,<-Option.some.inj Y,DI,if_pos X,DS,e1]
    .rw [BP (by rw [wD a7,<-g1];exact hk),BP JZ]
   rw [b1]at D;exact D
  .rename_i j;obtain⟨rfl,rfl⟩:=CP (Option.some.inj h);simp only [j]at hx;cases hx
  .rename_i j;split at h
   .obtain⟨rfl,rfl⟩:=CP (Option.some.inj h);simp only [j]at hx;cases hx
   .obtain⟨y,_,u⟩:=AD.1 h;obtain⟨rfl,rfl⟩:=CP u;simp only [j]at hx;cases hx
   .cases h
  .rename_i j;obtain⟨rfl,rfl⟩:=CP (Option.some.inj h);simp only [j,AC]at hx;subst hx;exact uB .nilmap rfl
  .rename_i j;split at h
   case h_2=>cases h
   split at h
   case isFalse=>cases h
   obtain⟨y,_,u⟩:=CJ.1 h;split at u
   case isFalse=>cases u
   obtain⟨rfl,rfl⟩:=CP (Option.some.inj u);simp only [j]at hx;cases hx
  all_goals first
   | (rename_i j;obtain⟨rfl,rfl⟩:=CP (Option.some.inj h);simp only [j]at hx;cases hx)
   | (rename_i j;split at h; (obtain⟨rfl,rfl⟩:=CP (Option.some.inj h);simp only [j]at hx;cases hx);cases h)
   |cases h
def b4N(P:Program)(n:Nat)(t:TypeId)(d:DataW H):Option IV:=
 match fJ P n t d with
 |some xs=>match P.underlying t with
  |some (.struct _)=>some (.agg xs)
  |some (.array ..)=>some (.agg xs)
  |_=>match xs with
   | [x]=>some x
   |_=>none
 |none=>none
theorem a1M{base:Nat}{t:TypeId}{v:Value}(h:Cell.okWide P W .any base t v):v.cells= #[v]:=by
 cases v<;>first
  |rfl
  | (exfalso;unfold Cell.okWide at h;split at h<;>(first| (rename_i h1 h2;cases h2)| (unfold Cell.ok at h;split at h<;>first| (rename_i h1 h2;cases h2)|exact h)))
theorem d7F{base n:Nat}{t:TypeId}{v:Value}{d:DataW H}{p:List MemPlace}{x:IV}(g:Value.okWide P W .any base t v)(h:DataW.Trod enc P W 0 (λ_=>true) true t v d p)(i:b4N P n t d=some x):VR (M0 W) x v:=by
 obtain⟨l,hf⟩:=h;unfold b4N at i;split at i
 case h_2=>cases i
 rename_i xs D;have u:=Yj (λ_=>rfl) l n t _ d p xs hf D;unfold Value.okWide at g;split at i
 .rename_i G j;simp only [j]at g;obtain⟨cs,rfl,h1,h2⟩:=g;obtain rfl:=(AV i).symm;simpa using jM (rc:=cs.toList) u
 .rename_i m e j;simp only [j]at g;obtain⟨cs,rfl,h1,h2⟩:=g;obtain rfl:=(AV i).symm;simpa using jM (rc:=cs.toList) u
 .rename_i z A;split at i
  case h_2=>cases i
  rename_i y;obtain rfl:=(AV i).symm;split at g
  .rename_i G j;exact absurd j (z G)
  .rename_i m e j;exact absurd j (A m e)
  .rw [a1M g]at u;obtain⟨r,rs,e,h1,_⟩:=u.1.uncons;simp at e;rw [e.1];exact h1
end
end Go.Pv
end
section
namespace Go.Pv
open Go.ChangeShapes Go.RowKit
theorem b2M{E:Env}(hm:E.P.follows .mixedOrders=true)(i:X2 E.P=true){f:FuncId}{xs:Y14}(j:aM E f xs Heap.empty λv _=>v= .bool true)
  (W:World) {rs:List Value} (hG:Ue E (M0 W)) (hv:cU (M0 W) xs rs):
  Calls E.P f rs.toArray W λe g=>e= .returned (.bool true)/\Below W.heap.size W g:=by
 obtain⟨n,v,h',l,rfl⟩:=j;exact c3H hm i l W hG hv
section
variable {P:Program} {W:World} {base:Nat} {t:TypeId} {v:Value}
theorem a6U{k:IntKind}(g:P.underlying t=some (.int k))(h:Value.okWide P W .any base t v): ∃n,v= .int k n/\k.has n:=by
 unfold Value.okWide at h;simp only [g]at h
 cases v<;>simp [Cell.okWide,Cell.ok,g]at h
 rename_i i n;obtain⟨rfl,h2⟩:=h;exact⟨n,rfl,h2⟩
theorem G1{n:Int}(h:IntKind.i64.has n): -9223372036854775808<=n/\n<=9223372036854775807:=by
 simpa [IntKind.has,IntKind.min,IntKind.max,IntKind.bits,IntKind.signed]using h
end
end Go.Pv
end
section
namespace Go.Pv
mutual
inductive OkC(P:Program):TypeId->Y14->Prop
 |bool {t b:_} :P.underlying t=some .bool->OkC P t [.bool b]
 |int {t k z:_} :P.underlying t=some (.int k)->k.has z->OkC P t [.int k z]
 |str {t:_} {l:Y11} :P.underlying t=some .string->l.length<=maxLen->OkC P t [.str l]
 |slice {t e n cs:_} :P.underlying t=some (.slice e)->n<=maxLen->OkE P e n cs->OkC P t [.vslice none 0 n (P.cellsOf e) cs]
 |struct {t fs xs:_} :P.underlying t=some (.struct fs)->OkF P fs.toList xs->OkC P t xs
 |array {t m e xs:_} :P.underlying t=some (.array m e)->OkE P e m xs->OkC P t xs
inductive OkE(P:Program):TypeId->Nat->Y14->Prop
 |nil {e:_} :OkE P e 0 []
 |cons {e n ys xs:_} :OkC P e ys->OkE P e n xs->OkE P e (n+1) (ys++xs)
inductive OkF(P:Program):List Field->Y14->Prop
 |nil:OkF P [] []
 |cons {f fs ys xs:_} :OkC P f.type ys->OkF P fs xs->OkF P (f::fs) (ys++xs)
end
def Fh(P:Program)(g:TypeId->Bool):Nat->List Field->Y10
 |off,[]=>some off
 |off,f::fs=>if f.offset=off/\g f.type=true then Fh P g (off+P.cellsOf f.type) fs else none
def qZ(P:Program):Nat->TypeId->Bool
 |0,_=>false
 |n+1,t=>match P.underlying t with
  |some .bool=>P.cellsOf t==1
  |some (.int _)=>P.cellsOf t==1
  |some .string=>P.cellsOf t==1
  |some (.slice e)=>P.cellsOf t==1&&decide (0<P.cellsOf e) &&qZ P n e
  |some (.struct fs)=>Fh P (qZ P n) 0 fs.toList==some (P.cellsOf t)
  |some (.array m e)=>decide (0<P.cellsOf e) &&qZ P n e&& (m*P.cellsOf e==P.cellsOf t)
  |_=>false
section
variable {H:Type} {enc:TypeId×Value->H} {P:Program} {W:World} {base:Nat} {sp:Nat->Bool} {hd:Bool}
theorem W7{α β:Type}{f:α->Option β} : ∀{l:List α}{r:List β},l.mapM f=some r-> ∀y∈r,∃x∈l,f x=some y
 | [],r,h,y,g=>by rw [sH h]at g;cases g
 |a::l,r,h,y,g=>by
  obtain⟨b,j,h1,h2,rfl⟩:=pI h;rcases CD.1 g with rfl|g
  .exact⟨a,BG,h1⟩
  .obtain⟨x,i,e⟩:=W7 h2 y g;exact⟨x,CC _ i,e⟩
theorem b7E{g:DataW H->Option (Y14)}{e:TypeId}{sz:Nat} : ∀{r:List (DataW H)},(∀d∈r,∃i,g d=some i/\OkC P e i/\i.length=sz)->
  ∃j,dl g r=some j/\OkE P e r.length j/\j.length=r.length*sz
 | [],_=>⟨[],rfl,.nil,KB⟩
 |d::r,h=>by
  obtain⟨i,h1,h2,h3⟩:=h d BG;obtain⟨j,m,u,y⟩:=b7E (r:=r) λx l=>h x (CC _ l)
  refine⟨i++j,by simp [dl,h1,m],.cons h2 u,?_⟩;rw [AI,h3,y,AS,ER,JS]
theorem a6I{g:TypeId->DataW H->Option (Y14)}{pl:TypeId->Bool}{F:Field->Option (DataW H×List MemPlace)}
  (hF: ∀f d ps,pl f.type=true->F f=some (d,ps)-> ∃m,g f.type d=some m/\OkC P f.type m/\m.length=P.cellsOf f.type):
  ∀{l:List Field}{i j:Nat}{xs:List (DataW H×List MemPlace)},Fh P pl i l=some j->l.mapM F=some xs-> ∃r,dfs P g i l (xs.map (·.1))=some r/\OkF P l r/\i+r.length=j
 | [],i,j,xs,h,hm=>by
  rw [sH hm];exact⟨[],rfl,.nil,by simpa [Fh]using h⟩
 |f::l,i,j,xs,h,hm=>by
  obtain⟨b,L,h1,h2,rfl⟩:=pI hm;unfold Fh at h;split at h
  case isFalse=>cases h
  rename_i u;obtain⟨m,y,z,A⟩:=hF f b.1 b.2 u.2 h1;obtain⟨r,D,G,K⟩:=a6I hF h h2;refine⟨m++r,?_,.cons z G,?_⟩
  .simp only [BN,dfs,if_pos u.1,y,D,A,if_true]
  .rw [AI];omega
theorem d9F{k:IntKind}{n:Int}(h:(Lit.int k n).wf=true):k.has n:=by
 simpa [Lit.wf,IntKind.has]using h
theorem a9I: ∀(u n:Nat)(t:TypeId)(cs:List Value)(d:DataW H)(ps:List MemPlace),qZ P n t=true->DataW.trod enc P W base sp hd u t cs=some (d,ps)->
  ∃xs,fJ P n t d=some xs/\OkC P t xs/\xs.length=P.cellsOf t
 |0,_,_,_,_,_,_,h=>by simp [DataW.trod]at h
 |u+1,0,_,_,_,_,hp,_=>by simp [qZ]at hp
 |u+1,n+1,t,vs,d,ps,hp,h=>by
  have V:=a9I u n;simp only [DataW.trod]at h;simp only [qZ]at hp;split at h
  .rename_i j;obtain⟨rfl,rfl⟩:=CP (AV h);simp only [j,beq_iff_eq]at hp;exact⟨_,by simp only [fJ,j];rfl,.bool j,hp.symm⟩
  .rename_i j;split at h
   case isFalse=>cases h
   rename_i hk;obtain⟨rfl,rfl⟩:=CP (AV h);simp only [j,beq_iff_eq]at hp;exact⟨[.int _ _],by simp only [fJ,j],.int j (d9F hk.2),hp.symm⟩
  .rename_i j;simp only [j]at hp
   cases hp
  .rename_i s j;split at h
   case isFalse=>cases h
   rename_i hk;obtain⟨rfl,rfl⟩:=CP (AV h);simp only [j,beq_iff_eq]at hp;exact⟨_,by simp only [fJ,j];rfl,.str j (by simpa using hk),hp.symm⟩
  .rename_i j;simp only [j]at hp
   cases hp
  .rename_i j;simp only [j]at hp
   cases hp
  .rename_i j;obtain⟨rfl,rfl⟩:=CP (AV h);simp only [j,beq_iff_eq,AE]at hp;exact⟨[.vslice none 0 0 _ []],by simp only [fJ,j],.slice j (AR _) .nil,hp.1.1.symm⟩
  .rename_i e a len cap j;split at h
   case isFalse=>cases h
   rename_i K;obtain⟨l,h1,h2⟩:=CJ.1 h;obtain⟨Y,h3,h4⟩:=AD.1 h2;obtain⟨rfl,rfl⟩:=CP h4;simp only [j,beq_iff_eq,AE,decide_eq_true_eq]at hp;obtain⟨D,G,A,y⟩:=b7E (P:=P) (g:=fJ P n e) (e:=e) (sz:=P.cellsOf e) (r:=l.map (·.1)) λd z=>by
    obtain⟨x,T,rfl⟩:=DU.1 z;obtain⟨i,_,L⟩:=W7 h1 x T;obtain⟨cs',_,Z⟩:=CJ.1 L;exact V e cs' x.1 x.2 hp.2 Z
   have O:l.length=len:=by
    have:=(lD h1).1;simpa using this.symm
   rw [AX]at A y;refine⟨[.vslice none 0 l.length (P.cellsOf e) D],?_,.slice j JZ A,hp.1.1.symm⟩;simp only [fJ,j,G,AX];rw [if_pos ⟨hp.1.2,y⟩]
  .rename_i cs' fs j;split at h
   case isFalse=>cases h
   rename_i X;obtain⟨xs,h1,h2⟩:=AD.1 h;obtain⟨rfl,rfl⟩:=CP h2;simp only [j,beq_iff_eq]at hp;obtain⟨D,G,A,y⟩:=a6I (g:=fJ P n) (pl:=qZ P n) (λf d ps R hf=>V f.type _ d ps R hf) hp h1;have y:D.length=P.cellsOf t:=JZ;exact⟨D,by simp only [fJ,j,G,y,if_true],.struct j A,y⟩
  .rename_i vs xo cs' m e j;split at h
   case isFalse=>cases h
   obtain⟨xs,h1,h2⟩:=AD.1 h;obtain⟨rfl,rfl⟩:=CP h2;simp only [j,beq_iff_eq,AE,decide_eq_true_eq]at hp;obtain⟨D,G,A,y⟩:=b7E (P:=P) (g:=fJ P n e) (e:=e) (sz:=P.cellsOf e) (r:=xs.map (·.1)) λd z=>by
    obtain⟨x,T,rfl⟩:=DU.1 z;obtain⟨i,_,L⟩:=W7 h1 x T;exact V e _ x.1 x.2 hp.1.2 L
   have O:xs.length=m:=by
    have:=(lD h1).1;simpa using this.symm
   rw [AX,O]at A y;refine⟨D,?_,.array j A,y.trans hp.2⟩;simp only [fJ,j,G,AX];rw [if_pos ⟨y.trans hp.2,y,O,hp.1.1⟩]
  all_goals first
   | (rename_i j;simp only [j]at hp;cases hp;done)
   | (rename_i j;split at h<;>simp only [j]at hp<;>cases hp;done)
   |cases h
def e7K(P:Program)(t:TypeId)(xs:Y14):Option IV:=match P.underlying t with
 |some (.struct _)=>some (.agg xs)
 |some (.array ..)=>some (.agg xs)
 |_=>match xs with
  | [x]=>some x
  |_=>none
theorem a0I{t:TypeId}{v:Value}{d:DataW H}{p:List MemPlace}(n:Nat)(j:qZ P n t=true)(i:Value.okWide P W .any base t v)(h:DataW.Trod enc P W 0 (λ_=>true) true t v d p):
  ∃xs,OkC P t xs/\∀x,e7K P t xs=some x->VR (M0 W) x v:=by
 obtain⟨g,hf⟩:=id h;obtain⟨xs,h1,h2,_⟩:=a9I g n t _ d p j hf;refine⟨xs,h2,λx l=>d7F (n:=n) i h ?_⟩;unfold b4N
 rw [h1];exact l
end
section
variable {P:Program} {t e:TypeId} {xs:Y14}
theorem OkC.int_inv{k:IntKind}(g:P.underlying t=some (.int k))(h:OkC P t xs): ∃z,xs=[.int k z]/\k.has z:=by
 cases h with
 |int h1 h2=>rw [h1]at g;cases g;exact⟨_,rfl,h2⟩
 |_=>simp_all
theorem OkC.slice_inv(g:P.underlying t=some (.slice e))(h:OkC P t xs): ∃n cs,xs=[.vslice none 0 n (P.cellsOf e) cs]/\n<=maxLen/\OkE P e n cs:=by
 cases h with
 |slice h1 h2 h3=>rw [h1]at g;cases g;exact⟨_,_,rfl,h2,h3⟩
 |_=>simp_all
theorem OkC.struct_inv{g:Array Field}(i:P.underlying t=some (.struct g))(h:OkC P t xs):OkF P g.toList xs:=by
 cases h with
 |struct h1 h2=>rw [h1]at i;cases i;exact h2
 |_=>simp_all
theorem OkF.cons_inv{f:Field}{g:List Field}(h:OkF P (f::g) xs): ∃ys zs,xs=ys++zs/\OkC P f.type ys/\OkF P g zs:=by
 cases h with
 |cons h1 h2=>exact⟨_,_,rfl,h1,h2⟩
theorem OkF.nil_inv(h:OkF P [] xs):xs=[]:=by cases h;rfl
theorem OkE.list{α:Type}{c:α->Y14}{good:α->Prop}(hc: ∀ys,OkC P e ys-> ∃a,ys=c a/\good a): ∀{n:Nat}{cs:Y14},OkE P e n cs-> ∃l:List α,n=l.length/\cs=l.flatMap c/\∀a∈l,good a
 |_,_,.nil=>⟨[],rfl,rfl,KB⟩
 |_,_,.cons h1 h2=>by
  obtain⟨a,rfl,g⟩:=hc _ h1;obtain⟨l,rfl,rfl,i⟩:=OkE.list hc h2;exact⟨a::l,rfl,rfl,by simpa using⟨g,i⟩⟩
theorem OkE.ints{k:IntKind}{n:Nat}{cs:Y14}(g:P.underlying e=some (.int k))(h:OkE P e n cs): ∃l:Y12,n=l.length/\cs=l.map (IV.int k)/\∀a∈l,k.has a:=by
 obtain⟨l,h1,h2,h3⟩:=h.list (c:=λa=>[IV.int k a]) (good:=k.has) λj i=>OkC.int_inv g i
 refine⟨l,h1,?_,h3⟩;rw [h2];clear h1 h2 h3
 induction l with
 |nil=>rfl
 |cons a l ih=>simpa using ih
end
end Go.Pv
end
section
namespace Go.Proofs.YtkonebkblgemkaaGreat
open Go.Pv
abbrev KT:=IV->Heap->Prop
def tI(n:Int):Option TV:=some (.v (.int .i64 n))
def wW(n:Int):Int:=IntKind.wrap .i64 n
def iI(n:Int):IV:= .int .i64 n
def tab(l:List (Nat×List Nat))(f d:Nat):Nat:=match l.find? (λp=>p.1==f)with
 |some (_,ds)=>if ds.contains d then 1 else 0
 |none=>0
def f1R(l:List (Nat×Nat×List Nat))(f r:Nat):List Nat:=match l.find? (λp=>p.1==f&&p.2.1==r)with
 |some (_,_,ds)=>ds
 |none=>[]
def has(l:List (Nat×List Nat))(f d:Nat):Bool:=l.any λp=>p.1==f&&p.2.contains d
def env:Env where
 P:=Tryz.prog
 G:=λ_=>none
 A:=tab [(5,[70]),(10,[12,28,58,97]),(225,[12]),(33,[73,105]),(204,[64]),(147,[171]),(34,[34]),(27,[120])]
 bx:=tab [(11,[43]),(13,[12]),(16,[13]),(17,[11]),(23,[22]),(24,[24]),(31,[12]),(33,[37]),(34,[14]),(55,[5,9,10,11,12]),(61,[20]),(155,[3])]
 fz:=λf=>([10,31,34,53,225]:List Nat).contains f
 nf:=λf=>true
 iso:=λf=>!([39,42,46,47,48,55,56,57,60,65,66,77,78,79,80,81,83,84,89,90,92,95,96,97,98,101,103,106,114,115,116,117,118,119,147,148,149,150,151,152,154,160,166,176,184,185,186,187,204,214,215,216,217,221,228,232,233,234]:List Nat).contains f
 an:=f1R [(23,1,[5,6]),(55,2,[10,11]),(55,3,[2,3]),(57,1,[5,11])]
 od:=f1R [(147,24,[0,1,2,3,4,5,6,8,9,10,11,12,7,13,14,15,16])]
 nr:=λf=>([77,78,79,80,81,147,152,204,221]:List Nat).contains f
 fm:=has [(5,[102])]
 le:=λf=>([65,66]:List Nat).contains f
 fd:=λf=>([10]:List Nat).contains f
 ld:=has [(10,[27,49,63,67,71,85,89,95,108]),(96,[22,30]),(47,[107,145]),(94,[2]),(97,[2,48]),(11,[139,143,100]),(76,[51]),(152,[6,93,114,153,146]),(81,[6]),(34,[2,60]),(77,[40]),(33,[54,87,124])]
 ln:=λf d=>if has [(96,[10,18,29,38]),(84,[7,25]),(13,[23]),(92,[50,63]),(77,[21,29,49])] f d then 1 else if has [(33,[68,101])] f d then 2 else if has [(92,[39,55]),(55,[26,99,105]),(56,[31]),(23,[41,68,79]),(106,[19])] f d then 3 else if has [(79,[30]),(147,[29,143,170,179,200,208,219]),(204,[37,63,97,136,180]),(34,[37,43,49,55])] f d then 5 else if has [(106,[11])] f d then 6 else if has [(47,[149]),(11,[110,145]),(46,[87]),(43,[39,44,57]),(54,[44]),(23,[85]),(26,[49]),(5,[50]),(32,[157]),(123,[131]),(27,[67,169]),(77,[43]),(33,[61,94,141]),(204,[58,93,125]),(147,[120])] f d then 9 else 0
theorem b7H:env.P.follows .mixedOrders=true:=Checked.mixed Tryz.checked
theorem e8A:X2 env.P=true:=by kernel_rfl
theorem c8J:laidOutB Tryz.prog=true:=by kernel_rfl
theorem own:ownKnob Tryz.prog.godebug=none:=by kernel_rfl
theorem f4H(W:World):Ue env (M0 W):=λg cs e=>by cases e
end Go.Proofs.YtkonebkblgemkaaGreat
end
end
