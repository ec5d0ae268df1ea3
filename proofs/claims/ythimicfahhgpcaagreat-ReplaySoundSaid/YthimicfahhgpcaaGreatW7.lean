/-
  Texts of this proof, one after the other.
  Conditions: none.
-/
import Derived.Test.YthimicfahhgpcaaGreatW6
set_option linter.unusedVariables false
set_option linter.unusedSimpArgs false
set_option maxRecDepth 100000
set_option maxHeartbeats 4000000
noncomputable section
variable{i j k m n b q:Nat}{x y z u w:Int}{h g:Go.Pv.Heap}{d l:List Go.Pv.IV}{A B C:List Go.M15.Nd}{K L:Y12}{p s t:Go.Pv.IV}{D:Go.Pv.Meta}{V W:List Go.Value}{U:Go.TypeId}{o:Bool}{X Y:Go.Value}{r e:Y11}{O:Go.Oper}{N:Y10}{H:Array Go.Value}
section
namespace Go.M10
open Go.M15 Go.Pv
def uO(op:Int):Y12:=if op=22 then [1,1,1]else if op=23\/op=27\/op=29 then [2,1]else if op=28 then [2,1,1]else if op=24 then [2]else if op=25 then [3]else [1,1]
def wP(op:Int)(s:Y12):Bool:=mC op&& (decide ((s.length:Int)=ar op) && (if op=22/\s.getD 1 0=2 then decide (s=[1,2,2])else decide (s=(uO op).take s.length)))
theorem Av{op:Int}(h:mC op=true)(h3:op≠25/\op≠30/\op≠31):(op=1\/op=2\/op=26) \/op=3\/op=22\/op=23\/op=24\/ (op=27\/op=29) \/op=28\/ (4<=op/\op<=19) \/ (op=20\/op=21):=by
 unfold mC at h;rw [decide_eq_true_eq]at h;omega
def Sn(op im:Int)(k:Y12):Int:=if op=26\/op=27\/op=28\/op=29 then 2 else if op=22 then k.getD 1 0 else if op=3 then(if im.tmod 16=0 then 2 else 1)else 1
theorem d6H{k:Y12}(h:(k.length:Int)=0):k=[]:=CS JF
theorem d6I{k:Y12}(h:(k.length:Int)=1): ∃a,k=[a]:=by
 match k,h with
 | [a],_=>exact⟨a,rfl⟩
theorem c9M{k:Y12}(h:(k.length:Int)=2): ∃a b,k=[a,b]:=by
 match k,h with
 | [a,b],_=>exact⟨a,b,rfl⟩
theorem b9G{k:Y12}(h:(k.length:Int)=3): ∃a b c,k=[a,b,c]:=by
 match k,h with
 | [a,b,c],_=>exact⟨a,b,c,rfl⟩
theorem a8O{op im:Int}{k:Y12}(h3:op≠25/\op≠30/\op≠31)(j: ∀x∈k,1<=x/\x<=3):fI op im k=if wP op k=true/\iH op im=true then Sn op im k else 0:=by
 by_cases hi:iH op im=true
 case neg=>
  rw [if_neg (fun e=>hi e.2)];unfold fI
  rw [if_pos (.inr (.inr (by simpa using hi)))]
 by_cases ha:mC op=true
 case neg=>
  rw [if_neg (fun e=>by unfold wP at e;simp [ha]at e)];unfold fI
  rw [if_pos (.inl (by simpa using ha))]
 by_cases hl:(k.length:Int)=ar op
 case neg=>
  rw [if_neg (fun e=>by unfold wP at e;simp [hl]at e)];unfold fI
  rw [if_pos (.inr (.inl hl))]
 rw [Ai h3 ha hl hi];have m:wP op k=(if op=22/\k.getD 1 0=2 then decide (k=[1,2,2])else decide (k=(uO op).take k.length)):=by
  unfold wP
  rw [ha,decide_eq_true hl];rfl
 rw [m,hi];rcases Av ha h3 with h|rfl|rfl|rfl|rfl|h|rfl|h|h
 ·have h0:ar op=0:=by unfold ar;rw [if_pos JF]
  obtain rfl:=d6H (hl.trans h0);rcases h with rfl|rfl|rfl<;>simp [Sn,uO]
 ·obtain rfl:=d6H (hl.trans JG);have l:0<=im:=by
   unfold iH at hi;rw [decide_eq_true_eq]at hi;have:B1 3=255:=JG;omega
  simp [Sn,uO,EM l]
 ·obtain⟨a,b,c,rfl⟩:=b9G (hl.trans JG);have r1:=j a JH;have r2:=j b JH;have r3:=j c JH;simp only [Sn,uO,GY,GZ,AW,BW,List.take,BI,and_true,true_and,reduceIte]
  by_cases hb:b=2
  ·subst hb;simp
   by_cases e1:a=1<;>by_cases e2:c=2<;>simp [e1,e2]<;>omega
  ·simp [hb]
   by_cases e1:a=1<;>by_cases e2:b=1<;>by_cases e3:c=1<;>simp [e1,e2,e3]<;>omega
 ·obtain⟨a,b,rfl⟩:=c9M (hl.trans JG);simp [Sn,uO]
 ·obtain⟨a,rfl⟩:=d6I (hl.trans JG);simp [Sn,uO]
 ·have h0:ar op=2:=by rcases h with rfl|rfl<;>decide
  obtain⟨a,b,rfl⟩:=c9M (hl.trans h0);rcases h with rfl|rfl<;>simp [Sn,uO]
 ·obtain⟨a,b,c,rfl⟩:=b9G (hl.trans JG);simp [Sn,uO]
 ·have h0:ar op=2:=by unfold ar;rw [if_neg JF,if_neg JF,if_pos JF]
  obtain⟨a,b,rfl⟩:=c9M (hl.trans h0);have g:uO op=[1,1]:=by unfold uO;rw [if_neg JF,if_neg JF,if_neg JF,if_neg JF,if_neg JF]
  rw [g];have n:op≠3/\op≠26/\op≠22/\op≠23/\op≠24/\op≠27/\op≠28/\op≠29:=JF;simp [Sn,n]
 ·have h0:ar op=1:=by unfold ar;rw [if_neg JF,if_pos JF]
  obtain⟨a,rfl⟩:=d6I (hl.trans h0);have g:uO op=[1,1]:=by unfold uO;rw [if_neg JF,if_neg JF,if_neg JF,if_neg JF,if_neg JF]
  rw [g];have n:op≠3/\op≠26/\op≠22/\op≠23/\op≠24/\op≠27/\op≠28/\op≠29:=JF;simp [Sn,n]
theorem d0C{op:Int}(h:mC op=true)(h3:op≠25/\op≠30/\op≠31):0<=ar op/\ar op<=((uO op).length:Int):=by
 rcases Av h h3 with h|rfl|rfl|rfl|rfl|h|rfl|h|h
 ·have h0:ar op=0:=by unfold ar;rw [if_pos JF]
  omega
 all_goals try (constructor<;>decide)
 ·rcases h with rfl|rfl<;>(constructor<;>decide)
 ·have h0:ar op=2:=by unfold ar;rw [if_neg JF,if_neg JF,if_pos JF]
  have g:uO op=[1,1]:=by unfold uO;rw [if_neg JF,if_neg JF,if_neg JF,if_neg JF,if_neg JF]
  rw [g,h0];decide
 ·have h0:ar op=1:=by unfold ar;rw [if_neg JF,if_pos JF]
  have g:uO op=[1,1]:=by unfold uO;rw [if_neg JF,if_neg JF,if_neg JF,if_neg JF,if_neg JF]
  rw [g,h0];decide
theorem a0V{op im:Int}{k:Y12}(g: ∀x∈k,1<=x/\x<=3):0<=fI op im k/\fI op im k<=3:=by
 unfold fI
 repeat' split
 all_goals try omega
 rename_i h1 h2 h3 h4 j;have:k.getD 1 0=0\/k.getD 1 0∈k:=by
  rw [AC];rcases BB 1 k.length with q|q
  ·rw [AA q];exact .inr (AH q)
  ·rw [BH q];exact .inl rfl
 rcases this with q|q
 ·omega
 ·have:=g _ q;omega
def lsL(m:Nat):Y12:=2::(List.replicate m 1++2::List.replicate (m-1) 1)
def sI(k:Y12):Bool:=decide (k.length%2=1) && (decide (3<=k.length) && (decide (k.length<=33) &&decide (k=lsL (k.length/2))))
def uM(k:Y12):Bool:=match k with
 | []=>false
 |a::r=>decide (r.length<=6) && (decide (a=2) &&r.all fun x=>decide (x=1))
def bJ(e:Nat)(op im:Int)(k:Y12):Int:=
 if op=31 then(if sI k=true/\iH 31 im=true then 3 else 0)
 else if op=30 then(if uM k=true/\iH 30 im=true then 2 else 0)
 else if op=25 then(if k=[3]/\0<=im/\im<=15/\2*im+3<=e then(if im=0 then 2 else 1)else 0)
 else fI op im k
def eK(l:Y15)(n:Nd):Nat:=(l.getD (n.ks.getD 0 0).toNat default).ks.length
def cA(l:Y15)(g:Y12)(n:Nd):Int:=if n.ks.all (dU g)=true then bJ (eK l n) n.op n.im (n.ks.map fun q=>g.getD q.toNat 0)else 0
def fV:Y15->Y12->Y15->Y12
 |_,out,[]=>out
 |p,out,n::r=>fV (p++ [n]) (out++ [cA p out n]) r
def aE(l:Y15):Y12:=fV [] [] l
theorem F0(n:Nd): ∀(l p:Y15)(g:Y12),fV p g (l++ [n])=fV p g l++ [cA (p++l) (fV p g l) n]
 | [],p,g=>by
  rw [DQ];rfl
 |x::l,p,g=>by
  rw [CO,fV,fV,F0 n l,CI,EK]
theorem jX(l:Y15)(n:Nd):aE (l++ [n])=aE l++ [cA l (aE l) n]:=by
 have:=F0 n l [] []
 rwa [DX]at this
theorem S9: ∀(l p:Y15)(g:Y12),(fV p g l).length=g.length+l.length
 | [],p,g=>rfl
 |x::l,p,g=>by
  rw [fV,S9 l];simp only [AJ,AW,BW];omega
theorem aY(l:Y15):(aE l).length=l.length:=by unfold aE;rw [S9];simp
theorem T0: ∀(l p:Y15)(g:Y12),g<+:fV p g l
 | [],p,g=>DI _
 |x::l,p,g=>(DC _ _).trans (T0 l _ _)
theorem S8: ∀(l r p:Y15)(g:Y12),fV p g (l++r)=fV (p++l) (fV p g l) r
 | [],r,p,g=>by rw [DQ];rfl
 |x::l,r,p,g=>by rw [CO,fV,fV,S8 l r,CI,EK]
theorem lI{l y:Y15}(h:l<+:y):aE l<+:aE y:=by
 obtain⟨r,rfl⟩:=h;unfold aE
 rw [S8];exact T0 _ _ _
theorem bP{l:Y15}{i:Nat}(h:i<l.length):aE (l.take (i+1))=aE (l.take i)++ [cA (l.take i) (aE (l.take i)) l[i]]:=by
 rw [AZ h,jX]
theorem bV{p:Y15}{n:Nd}{q:Int}(g:q∈n.ks)(h:dU K q=false):cA p K n=0:=by
 unfold cA
 rw [if_neg];intro e;rw [BQ.1 e q g]at h
 cases h
def uX(l:Y15)(i j:Nat)(k:Y12):Prop:= ∃n,l[i]?=some n/\(j<=n.ks.length/\k.length=j)/\(n.ks.take j).all (dU (aE (l.take i)))=true/\k=(n.ks.take j).map fun q=>(aE (l.take i)).getD q.toNat 0
theorem uX.zero{l:Y15}{i:Nat}(h:i<l.length):uX l i 0 []:=⟨l[i],AA h,⟨BE _,rfl⟩,rfl,rfl⟩
theorem uX.step{l:Y15}{i j:Nat}{k:Y12}(h:uX l i j k)(m:i<l.length)(g:j<l[i].ks.length)(p:dU (aE (l.take i)) l[i].ks[j]=true):uX l i (j+1) (k++ [(aE (l.take i)).getD (l[i].ks[j]).toNat 0]):=by
 obtain⟨n,h1,h2,h3,h4⟩:=h;obtain rfl:l[i]=n:=by rw [AA m]at h1;exact BF h1
 refine⟨_,h1,⟨g,by simp [h2.2]⟩,?_,?_⟩
 ·rw [AZ g,List.all_append,h3];simp [p]
 ·rw [AZ g,CB,h4];rfl
theorem xO{q:Int}(h:dU K q=true):0<=q/\q<K.length/\K.getD q.toNat 0≠0:=by
 unfold dU at h;simp only [AD,decide_eq_true_eq]at h;exact h
theorem pN{k:Y12}(h:sI k=true):k.length%2=1/\3<=k.length/\k.length<=33/\k=lsL (k.length/2):=by
 unfold sI at h;simp only [AD,decide_eq_true_eq]at h;exact h
theorem Vp{m:Nat}(h:1<=m):(lsL m).length=2*m+1:=by
 unfold lsL
 simp;omega
theorem Vq{m:Nat}(h1:1<=m)(h2:m<=16):sI (lsL m)=true:=by
 unfold sI
 rw [Vp h1,show(2*m+1)/2=m by omega];simp only [AD,decide_eq_true_eq];exact⟨JF,JF,JF,trivial⟩
theorem a0T{op im:Int}{k:Y12} :fI op im k≠3:=by
 unfold fI
 repeat' split
 all_goals omega
theorem Q1{e:Nat}{op im:Int}{k:Y12}(h:bJ e op im k=3):op=31/\sI k=true:=by
 unfold bJ at h;split at h
 ·rename_i c;split at h
  ·rename_i d;exact⟨c,d.1⟩
  ·omega
 ·split at h
  ·split at h<;>omega
  ·split at h
   ·split at h
    ·split at h<;>omega
    ·omega
   ·exact absurd h a0T
theorem uL: ∀{l:Y15}{j:Nat}{n:Nd},l[j]?=some n->(aE l).getD j 0=cA (l.take j) (aE (l.take j)) n:=by
 intro l j n h;obtain⟨g,rfl⟩:=AP.1 h;have e:l.take (j+1)=l.take j++ [l[j]]:=AZ g;have h1:=jX (l.take j) l[j];rw [<-e]at h1;have h2:=tD (lI (ED (j+1) l)) (i:=j) (by rw [aY,AR];omega);rw [h2,h1,AC,BA (by rw [aY,AR];omega),aY,AR,show j-min j l.length=0 by omega];rfl
theorem S6{l:Y15}{q:Nat}(h:(aE l).getD q 0=3):(l.getD q default).ks.length%2=1:=by
 rcases BB q l.length with c|c
 ·have g:=AA c;rw [uL g]at h;unfold cA at h;split at h
  ·have:=pN (Q1 h).2;rw [BG]at this;rw [AC,g];exact this.1
  ·omega
 ·rw [AC,BH (by rw [aY];exact c)]at h
  cases h
theorem pW{l:Y15}{i q:Nat}(h:q<i):(l.take i).getD q default=l.getD q default:=by
 rw [AC,AC,DD h]
theorem uX.last{l:Y15}{i j:Nat}{k:Y12}(h:uX l i j k)(z:i<l.length)(A:l[i].ks.length<=j):
  cA (l.take i) (aE (l.take i)) l[i]=bJ (eK (l.take i) l[i]) l[i].op l[i].im k/\k.length=l[i].ks.length/\(∀q∈l[i].ks,0<=q/\q<i)/\(k=[3]->eK l l[i]%2=1/\eK (l.take i) l[i]=eK l l[i]):=by
 obtain⟨n,h1,h2,h3,h4⟩:=h;obtain rfl:l[i]=n:=by rw [AA z]at h1;exact BF h1
 rw [AM A]at h3 h4;have g: ∀q∈l[i].ks,0<=q/\q<i:=fun q g=>by
  have:=xO (BQ.1 h3 q g);rw [aY,AR]at this;omega
 refine⟨?_,by rw [h4];simp,g,fun e=>?_⟩
 ·unfold cA
  rw [if_pos h3,h4]
 ·rw [e]at h4
  cases hk:l[i].ks with
  |nil=>rw [hk]at h4;cases h4
  |cons q r=>
   rw [hk,BP,BI]at h4;have D:=g q (by rw [hk];exact AY);have y:=S6 h4.1.symm;have m:eK (l.take i) l[i]=((l.take i).getD q.toNat default).ks.length:=by unfold eK;rw [hk];rfl
   have p:eK l l[i]=(l.getD q.toNat default).ks.length:=by unfold eK;rw [hk];rfl
   rw [pW JF]at y m;exact⟨by rw [p];exact y,by rw [m,p]⟩
theorem d5L{k:Y12}(h:(k.all fun x=>decide (x=1))=true):k=List.replicate k.length 1:=List.eq_replicate_iff.2 ⟨rfl,fun x g=>by simpa using BQ.1 h x g⟩
theorem b9H{k:Y12}{m:Nat}(y:k.length=2*m+1)(h1:1<=m)(h2:m<=16)(h3:k[0]?=some 2)(h4:(((k.drop 1).take m).all fun x=>decide (x=1))=true)(j:k[m+1]?=some 2)(q:((k.drop (m+2)).all fun x=>decide (x=1))=true):sI k=true:=by
 cases k with
 |nil=>cases h3
 |cons a t=>
  simp only [AW]at y;rw [List.getElem?_cons_zero,AB]at h3;rw [FW]at j;rw [EB,CZ]at h4;rw [show m+2=(m+1)+1 by omega,EB]at q;have g:m<t.length:=JF;have hd:t.drop m=2::t.drop (m+1):=by
   rw [List.drop_eq_getElem_cons g];rw [AA g,AB]at j;rw [j]
  have l:=d5L h4;have p:=d5L q;rw [AR,GI JF]at l;rw [DM,show t.length- (m+1)=m-1 by omega]at p;have r:t=List.replicate m 1++2::List.replicate (m-1) 1:=by
   rw [<-l,<-p,<-hd,List.take_append_drop]
  rw [r,h3];exact Vq h1 h2
theorem c9P{k:Y12}(h:sI k=true):k[0]?=some 2/\(((k.drop 1).take (k.length/2)).all fun x=>decide (x=1))=true/\k[k.length/2+1]?=some 2/\((k.drop (k.length/2+2)).all fun x=>decide (x=1))=true:=by
 obtain⟨h1,h2,h3,h4⟩:=pN h;generalize k.length/2=m at h4;subst h4;unfold lsL
 refine⟨rfl,?_,?_,?_⟩
 ·simp
 ·simp
 ·rw [EB,HR];simp
theorem Q2{e g:Nat}{op im:Int}{k:Y12}(h:k=[3]->e=g):bJ e op im k=bJ g op im k:=by
 unfold bJ
 by_cases c:k=[3]
 ·rw [h c]
 ·simp [c]
theorem uX.lst{l:Y15}{i j:Nat}{k:Y12}(h:uX l i j k)(g:i<l.length)(m:l[i].ks.length<=j):
  cA (l.take i) (aE (l.take i)) l[i]=bJ (eK l l[i]) l[i].op l[i].im k/\k.length=l[i].ks.length/\(∀q∈l[i].ks,0<=q/\q<l.length)/\(k=[3]->eK l l[i]%2=1):=by
 obtain⟨h1,h2,h3,h4⟩:=h.last g m;exact⟨h1.trans (Q2 fun e=>(h4 e).2),h2,fun q p=>by have:=h3 q p;omega,fun e=>(h4 e).1⟩
theorem Rj{e:Nat}{op im:Int}{k:Y12}(g: ∀x∈k,1<=x/\x<=3):0<=bJ e op im k/\bJ e op im k<=3:=by
 unfold bJ
 repeat' split
 all_goals first|omega|exact a0V g
theorem Sm{p:Y15}{n:Nd}(h: ∀x∈K,0<=x/\x<=3):0<=cA p K n/\cA p K n<=3:=by
 unfold cA
 split
 ·rename_i j;refine Rj fun x m=>?_
  obtain⟨q,l,rfl⟩:=DR.1 m;obtain⟨y,z,r⟩:=xO (BQ.1 j q l);have g:q.toNat<K.length:=JF;have e:K.getD q.toNat 0=K[q.toNat]:=by rw [AC,AA g];rfl
  have:=h _ (AH g);rw [e]at r⊢;omega
 ·omega
theorem T1: ∀(l p:Y15)(g:Y12),(∀x∈g,0<=x/\x<=3)-> ∀x∈fV p g l,0<=x/\x<=3
 | [],p,g,h=>h
 |n::r,p,g,h=>by
  rw [fV];refine T1 r _ _ fun x j=>?_
  rcases BU.1 j with j|j
  ·exact h x j
  ·rw [BN.1 j];exact Sm h
theorem S7(l:Y15): ∀x∈aE l,0<=x/\x<=3:=T1 l [] [] (fun x h=>by cases h)
theorem uX.rng{l:Y15}{i j:Nat}{k:Y12}(h:uX l i j k): ∀x∈k,1<=x/\x<=3:=by
 obtain⟨n,h1,h2,h3,h4⟩:=h;intro x m;rw [h4]at m;obtain⟨q,p,rfl⟩:=DR.1 m;obtain⟨y,z,r⟩:=xO (BQ.1 h3 q p);have g:q.toNat< (aE (l.take i)).length:=JF;have e:(aE (l.take i)).getD q.toNat 0=(aE (l.take i))[q.toNat]:=by rw [AC,AA g];rfl
 have:=S7 _ _ (AH g);rw [e]at r⊢;omega
theorem C3{l:Y15}{q:Nat}(h:(aE l).getD q 0=3):q<l.length/\3<=(l.getD q default).ks.length/\(l.getD q default).ks.length<=33:=by
 rcases BB q l.length with c|c
 ·have g:=AA c;rw [uL g]at h;unfold cA at h;split at h
  ·have:=pN (Q1 h).2;rw [BG]at this;rw [AC,g];exact⟨c,this.2.1,this.2.2.1⟩
  ·omega
 ·rw [AC,BH (by rw [aY];exact c)]at h
  cases h
def T5(op:Int)(s:Y12):Bool:=if op=31 then sI s else if op=25 then decide (s=[3])else wP op s
def yJ(e:Nat)(op im:Int):Bool:=if op=25 then decide (0<=im/\2*im+3<=e)else iH op im
def H0(op im:Int)(k:Y12):Int:=if op=31 then 3 else if op=25 then(if im=0 then 2 else 1)else Sn op im k
theorem a0S{e:Nat}{op im:Int}{k:Y12}(g:op≠30)(l: ∀x∈k,1<=x/\x<=3)(j:k=[3]->e<=33):bJ e op im k=if T5 op k=true/\yJ e op im=true then H0 op im k else 0:=by
 unfold bJ T5 yJ H0
 by_cases o31:op=31
 ·subst o31;simp
 by_cases o25:op=25
 ·subst o25;simp only [show¬ ((25:Int)=31) by decide,show¬ ((25:Int)=30) by decide,if_false,if_true]
  by_cases c:k=[3]
  ·have:=j c
   by_cases d:0<=im/\2*im+3<=(e:Int)
   ·rw [if_pos (show k=[3]/\0<=im/\im<=15/\2*im+3<=(e:Int)from⟨c,d.1,JF,d.2⟩),if_pos (show decide (k=[3])=true/\decide (0<=im/\2*im+3<=(e:Int))=true from⟨by simp [c],by simp [d]⟩)]
   ·rw [if_neg (fun q=>d ⟨q.2.1,q.2.2.2⟩),if_neg (fun q=>d (by simpa using q.2))]
  ·rw [if_neg (fun q=>c q.1),if_neg (fun q=>c (by simpa using q.1))]
 rw [if_neg o31,if_neg g,if_neg o25,if_neg o31,if_neg o25,if_neg o25,if_neg o31,if_neg o25];exact a8O ⟨o25,g,o31⟩ l
inductive E where
 |mk (k n:Int) (nm:Y11) (op:Int) (ks:List E)
 deriving Inhabited
def e0:E:= .mk 0 0 [] 0 []
theorem a0M{cs:Y14}{K:Y11->Prop}{b:Y11}(e:cs[i]?=some (.str b))(g:K b):W7 cs i K:=by
 unfold W7;rw [e];exact g
theorem dN{k:IntKind}{cs:Y14}{K:Int->Prop}{n:Int}(e:cs[i]?=some (.int k n))(g:K n):aG k cs i K:=by
 unfold aG;rw [e];simpa using g
theorem a8F{sz:Nat}{cs:Y14}{K:Y10->Nat->Nat->Y14->Prop}{i:Y10}{a n:Nat}{c:Y14}(e:cs[j]?=some (.vslice i a n sz c))(g:K i a n c):aZ sz cs j K:=by
 unfold aZ;rw [e];simpa using g
theorem e1B{a b:Prop}[Decidable a][Decidable b](h:a/\b):(decide a&&decide b)=true:=by
 rw [AD,decide_eq_true_eq,decide_eq_true_eq];exact h
theorem gO{p:Prop}[Decidable p]{A B:Prop}(a:p->A)(b: ¬p->B):aI (decide p) A B:=aB (fun c=>a (of_decide_eq_true c)) (fun c=>b (of_decide_eq_false c))
theorem aW{p q:Prop}[Decidable p][Decidable q]{A:Prop}(h:p/\q)(a:A):aC (decide p&&decide q) A:=aA (e1B h) a
def SK(g:Y15)(s k:Int):Prop:=0<=k/\k<g.length/\(aE g).getD k.toNat 0=s
theorem SK.mono{k s:Int}(h:SK A s k)(g:A<+:B):SK B s k:=by
 obtain⟨h1,h2,h3⟩:=h;refine⟨h1,Int.lt_of_lt_of_le h2 (by have:=g.length_le;omega),?_⟩;rw [tD (lI g) (by rw [aY];omega),h3]
def zJ(g:Y15):Y12->Y12->Prop
 | [],[]=>True
 |k::ks,s::ss=>(SK g s k/\s≠0)/\zJ g ks ss
 |_,_=>False
theorem zJ.map{g:Y15} : ∀{ks ss:Y12},zJ g ks ss->ks.all (dU (aE g))=true/\ks.map (fun q=>(aE g).getD q.toNat 0)=ss/\∀k∈ks,0<=k/\k<g.length
 | [],[],_=>⟨rfl,rfl,fun k h=>by cases h⟩
 |k::ks,s::ss,h=>by
  obtain⟨⟨⟨h1,h2,h3⟩,h4⟩,l⟩:=h;obtain⟨m,p,r⟩:=zJ.map l;refine⟨?_,?_,?_⟩
  ·rw [EL,m,AL];unfold dU
   simp only [AD,decide_eq_true_eq];exact⟨h1,by rw [aY];exact h2,by rw [h3];exact h4⟩
  ·rw [BP,p,h3]
  ·intro q j;rcases CD.1 j with rfl|j
   ·exact⟨h1,h2⟩
   ·exact r q j
 | [],_::_,h=>h.elim
 |_::_,[],h=>h.elim
theorem zJ.mono(g:A<+:B): ∀{ks ss:Y12},zJ A ks ss->zJ B ks ss
 | [],[],_=>trivial
 |k::ks,s::ss,h=>⟨⟨h.1.1.mono g,h.1.2⟩,zJ.mono g h.2⟩
 | [],_::_,h=>h.elim
 |_::_,[],h=>h.elim
theorem zJ.append : ∀{ks ss k2 j:Y12},zJ A ks ss->zJ A k2 j->zJ A (ks++k2) (ss++j)
 | [],[],_,_,_,h=>h
 |k::ks,s::ss,_,_,h,g=>⟨h.1,zJ.append h.2 g⟩
 | [],_::_,_,_,h,_=>h.elim
 |_::_,[],_,_,h,_=>h.elim
theorem zJ.one{k s:Int}(h:SK A s k)(g:s≠0):zJ A [k] [s]:=⟨⟨h,g⟩,trivial⟩
theorem rO{op im:Int}{ks ss:Y12}(h:zJ A ks ss):cA A (aE A) ⟨op,im,ks⟩=bJ (eK A ⟨op,im,ks⟩) op im ss:=by
 obtain⟨h1,h2,_⟩:=h.map;unfold cA
 rw [if_pos h1,h2]
theorem bt{b:Bool}{A B:Prop}(h:b=true)(a:A):aI b A B:=by subst h;exact a
theorem bf{b:Bool}{A B:Prop}(h:b=false)(x:B):aI b A B:=by subst h;exact x
theorem nsG{e:Nat}{op im:Int}{k:Y12}(h:op≠31/\op≠30/\op≠25):bJ e op im k=fI op im k:=by
 unfold bJ
 rw [if_neg h.1,if_neg h.2.1,if_neg h.2.2]
theorem a8M{e:Nat} :bJ e 1 x []=1:=by
 rw [nsG JG];simp [fI,mC,ar,iH]
theorem a8N{e:Nat} :bJ e 26 0 []=2:=by
 rw [nsG JG];simp [fI,mC,ar,iH,B1]
theorem b9T{e:Nat}{m:Nat}(h:0<=x/\x<=15)(h1:1<=m)(h2:m<=16):bJ e 31 x (lsL m)=3:=by
 unfold bJ
 rw [if_pos rfl,if_pos];refine⟨Vq h1 h2,?_⟩;simp [iH,B1];omega
def rZ(op:Int)(s:Y12):Bool:=if op=30 then uM s else T5 op s
def So(op im:Int)(k:Y12):Int:=if op=30 then 2 else H0 op im k
theorem Xt{op im:Int}{k:Y12}(h:op≠30):So op im k=H0 op im k:=if_neg h
theorem Rk{e:Nat}{op im:Int}{k:Y12}(j: ∀x∈k,1<=x/\x<=3)(g:k=[3]->e<=33):bJ e op im k=if rZ op k=true/\yJ e op im=true then So op im k else 0:=by
 by_cases h30:op=30
 ·subst h30;unfold bJ rZ yJ So
  simp
 ·unfold rZ So
  rw [if_neg h30,if_neg h30];exact a0S h30 j g
theorem uX.finH{l:Y15}{i j:Nat}{k:Y12}(h:uX l i j k)(y:i<l.length)(z:l[i].ks.length<=j):
  cA (l.take i) (aE (l.take i)) l[i]=(if rZ l[i].op k=true/\yJ (eK l l[i]) l[i].op l[i].im=true then So l[i].op l[i].im k else 0)/\k.length=l[i].ks.length/\(rZ l[i].op k=true->l[i].op=25-> ∃q:Int,l[i].ks=[q]/\(0<=q/\q<l.length)/\3<=(l.getD q.toNat default).ks.length/\(l.getD q.toNat default).ks.length<=33):=by
 have L:=h.rng;obtain⟨h1,h2,h3,h4⟩:=h.lst y z;have m:k=[3]-> ∃q:Int,l[i].ks=[q]/\(0<=q/\q<l.length)/\3<=(l.getD q.toNat default).ks.length/\(l.getD q.toNat default).ks.length<=33:=fun e=>by
  obtain⟨n,p,A,D,g⟩:=h;obtain rfl:l[i]=n:=by rw [AA y]at p;exact BF p
  rw [AM z,e]at g;have K:l[i].ks.length=1:=by rw [<-h2,e];rfl
  match hks:l[i].ks,K with
  | [q],_=>
   rw [hks,BP,BI]at g;have G:=h3 q (by rw [hks];exact AY);have r:=C3 g.1.symm;rw [pW (by have:=r.1;rw [AR]at this;omega)]at r;exact⟨q,rfl,G,r.2⟩
 refine⟨?_,h2,fun v o=>?_⟩
 ·rw [h1];refine Rk L fun e=>?_
  obtain⟨q,p,A,D,g⟩:=m e;show(l.getD (l[i].ks.getD 0 0).toNat default).ks.length<=33;rw [p];exact g
 ·unfold rZ T5 at v;rw [o,if_neg JG,if_neg JG,if_pos rfl,decide_eq_true_eq]at v;exact m v
def SPH(h:Heap)(id:Nat)(l:Y15)(i:Nat)(k0:Y12):Prop:=(i<l.length/\(∀x∈l,x.ks.length<=1000000/\True)/\l.length<=1000000)/\h.get id= .cells (k0.map (IV.int .i64))/\id<h.next/\k0.length=l.length/\k0.take i=aE (l.take i)
def mE(n k:Nat):Y12:=(n:Int)::List.replicate k ((n:Int)+1)++(n:Int)::List.replicate (k-1) ((n:Int)+1)
def jM(n k:Nat):Y15:=[⟨26,0,[]⟩,⟨1,0,[]⟩,⟨31,0,mE n k⟩]
def Keep.loopC(n k:Nat):Y14:=(jM n k).flatMap cN
theorem P9{n k:Nat}(h:1<=k):(mE n k).length=2*k+1:=by
 unfold mE
 simp only [AJ,AW,EJ];omega
theorem Ac{n k:Nat}{ks:Y12}(h:1<=k)(e:ks=(n:Int)::List.replicate (k-1) ((n:Int)+1)):mE n k=(ks++ [(n:Int)+1])++ks:=by
 have g:(n:Int)::List.replicate k ((n:Int)+1)=ks++ [(n:Int)+1]:=by
  rw [e,CO,<-List.replicate_succ',show k-1+1=k by omega]
 unfold mE
 rw [g,<-e]
theorem tB{l:Y15}{k:Nat} :(l++jM l.length k).flatMap cN=l.flatMap cN++ [.int .i64 26,.int .i64 0,.vslice none 0 0 1 [],.int .i64 1,.int .i64 0,.vslice none 0 0 1 []]++ [.int .i64 31,.int .i64 0,.vslice none 0 (mE l.length k).length 1 ((mE l.length k).map (IV.int .i64))]:=by
 rw [CG,CI];rfl
theorem zJ.rep{k:Int}(h:SK A 1 k): ∀m:Nat,zJ A (List.replicate m k) (List.replicate m 1)
 |0=>trivial
 |m+1=>⟨⟨h,JG⟩,zJ.rep h m⟩
theorem Rf{n k:Nat}(h1:SK A 2 (n:Int))(h2:SK A 1 ((n:Int)+1)):zJ A (mE n k) (lsL k):=by
 have a:zJ A ((n:Int)::List.replicate k ((n:Int)+1)) (2::List.replicate k 1):=⟨⟨h1,JG⟩,zJ.rep h2 k⟩;have b:zJ A ((n:Int)::List.replicate (k-1) ((n:Int)+1)) (2::List.replicate (k-1) 1):=⟨⟨h1,JG⟩,zJ.rep h2 (k-1)⟩;exact a.append b
theorem tJ{l:Y15}{n:Nd} :(aE (l++ [n])).getD l.length 0=cA l (aE l) n:=by
 rw [jX,AC,BA (by rw [aY];exact AG _),aY,GQ];rfl
theorem Fh{l:Y15}{k:Nat}(h1:1<=k)(h2:k<=16):aE (l++jM l.length k)=aE l++ [2,1,3]:=by
 have m:aE (l++ [⟨26,0,[]⟩])=aE l++ [2]:=by
  rw [jX]
  congr 2
 have g:aE ((l++ [⟨26,0,[]⟩])++ [⟨1,0,[]⟩])=(aE l++ [2])++ [1]:=by
  rw [jX,m]
  congr 2
 have j:(aE l).length=l.length:=aY l;have r:zJ ((l++ [⟨26,0,[]⟩])++ [⟨1,0,[]⟩]) (mE l.length k) (lsL k):=by
  refine Rf ⟨JF,by simp only [AJ,AW,BW];omega,?_⟩ ⟨JF,by simp only [AJ,AW,BW];omega,?_⟩
  ·rw [g,AK,AC,CI,BA JF,j,GQ];rfl
  ·rw [g,show((l.length:Int)+1).toNat=l.length+1 by omega,AC,CI,BA JF,j,EU];rfl
 have p:aE (((l++ [⟨26,0,[]⟩])++ [⟨1,0,[]⟩])++ [⟨31,0,mE l.length k⟩])=((aE l++ [2])++ [1])++ [3]:=by
  rw [jX,g]
  congr 2
  rw [<-g];exact(rO r).trans (b9T JG h1 h2)
 have q:l++jM l.length k=((l++ [⟨26,0,[]⟩])++ [⟨1,0,[]⟩])++ [⟨31,0,mE l.length k⟩]:=by
  rw [CI,CI];rfl
 rw [q,p,CI,CI];rfl
def uN(l:Y15)(p:Int×Nat):Y15:=if p.1=1 then l++ [⟨1,0,[]⟩]else if p.1=2 then l++ [⟨26,0,[]⟩]else l++jM l.length p.2
def J5(l:Y15)(p:Int×Nat):Nat:=if p.1=1\/p.1=2 then l.length else l.length+2
theorem Ut{l:Y15}{p:Int×Nat}(h:(p.1=1\/p.1=2\/p.1=3)/\(1<=p.2/\p.2<=16)):l<+:uN l p/\SK (uN l p) p.1 (J5 l p:Int)/\(p.1=3->((uN l p).getD (J5 l p) default).ks.length=2*p.2+1):=by
 obtain⟨s,m⟩:=p;obtain⟨g,h1,h2⟩:=h;dsimp only at g h1 h2;have j:(aE l).length=l.length:=aY l;rcases g with rfl|rfl|rfl
 ·refine⟨DC _ _,⟨JF,?_,?_⟩,fun q=>absurd q (by dsimp only;decide)⟩
  ·show((l.length:Nat):Int)< ((l++ [⟨1,0,[]⟩]:Y15).length:Int);rw [AJ];simp only [AW,BW];omega
  ·show(aE (l++ [⟨1,0,[]⟩])).getD ((l.length:Nat):Int).toNat 0=1;rw [AK,tJ];exact(rO (ks:=[]) (ss:=[]) trivial).trans a8M
 ·refine⟨DC _ _,⟨JF,?_,?_⟩,fun q=>absurd q (by dsimp only;decide)⟩
  ·show((l.length:Nat):Int)< ((l++ [⟨26,0,[]⟩]:Y15).length:Int);rw [AJ];simp only [AW,BW];omega
  ·show(aE (l++ [⟨26,0,[]⟩])).getD ((l.length:Nat):Int).toNat 0=2;rw [AK,tJ];exact(rO (ks:=[]) (ss:=[]) trivial).trans a8N
 ·refine⟨DC _ _,⟨JF,?_,?_⟩,fun _=>?_⟩
  ·show((l.length+2:Nat):Int)< ((l++jM l.length m).length:Int);rw [AJ];show((l.length+2:Nat):Int)< ((l.length+3:Nat):Int);omega
  ·show(aE (l++jM l.length m)).getD ((l.length+2:Nat):Int).toNat 0=3;rw [AK,Fh h1 h2,AC,BA JF,j,EU];rfl
  ·show((l++jM l.length m).getD (l.length+2) default).ks.length=2*m+1;rw [AC,BA JF,EU];exact P9 h1
def iW(a:Y15×Y12)(ps:List (Int×Nat)):Y15×Y12:=ps.foldl (fun a p=>(uN a.1 p,a.2++ [(J5 a.1 p:Int)])) a
def okP(p:Int×Nat):Prop:=(p.1=1\/p.1=2\/p.1=3)/\(1<=p.2/\p.2<=16)
theorem Uu: ∀(ps:List (Int×Nat))(l:Y15)(ks ss:Y12),zJ l ks ss->(∀p∈ps,okP p)->zJ (iW (l,ks) ps).1 (iW (l,ks) ps).2 (ss++ps.map Prod.fst)/\l<+:(iW (l,ks) ps).1/\ks<+:(iW (l,ks) ps).2
 | [],l,ks,ss,h,_=>by
  rw [DJ,DQ];exact⟨h,DI _,DI _⟩
 |p::r,l,ks,ss,h,hp=>by
  have h0:=hp p AY;obtain⟨j,y,_⟩:=Ut h0;have g:p.1≠0:=by
   have:=h0.1;omega
  obtain⟨m,z,A⟩:=Uu r (uN l p) (ks++ [(J5 l p:Int)]) (ss++ [p.1]) ((h.mono j).append (zJ.one y g)) fun q D=>hp q (BK _ D)
  rw [CI]at m;exact⟨m,j.trans z,(DC _ _).trans A⟩
theorem a5Z{ps:List (Int×Nat)}(g: ∀p∈ps,okP p)(op im:Int)(e:Nat)(m: ∀p,ps=[p]->p.1=3->e=2*p.2+1):
  cA (iW ([],[]) ps).1 (aE (iW ([],[]) ps).1) ⟨op,im,(iW ([],[]) ps).2⟩=bJ e op im (ps.map Prod.fst):=by
 have j:=(Uu ps [] [] [] trivial g).1;rw [DX]at j;rw [rO j];refine Q2 fun q=>?_
 clear j
 match ps,q,m,g with
 | [],q,_,_=>cases q
 |_::_::_,q,_,_=>exact absurd q JH
 | [p],q,m,g=>
  have h3:p.1=3:=by simpa using q
  obtain⟨_,_,r⟩:=Ut (l:=[]) (g p AY);rw [m p rfl h3];exact r h3
def wH(l:Y15)(k0:Y12)(q:Int):Int×Nat:=(k0.getD q.toNat 0,if k0.getD q.toNat 0=3 then((l.getD q.toNat default).ks.length-1)/2 else 1)
def lW(l:Y15)(i j:Nat)(k0:Y12):List (Int×Nat):=((l.getD i default).ks.take j).map (wH l k0)
structure NGP(l:Y15)(i:Nat)(k0:Y12):Prop where
 hi:i<l.length
 hll:l.length<=100000
 hks: ∀n∈l,n.ks.length<=40
 hkl:k0.length=l.length
 hkt:k0.take i=aE (l.take i)
 hko:(l.getD i default).ks.all (dU (aE (l.take i)))=true
theorem NGP.kid{l:Y15}{i:Nat}(h:NGP l i K){q:Int}(m:q∈ (l.getD i default).ks):(0<=q/\q<i)/\q.toNat<K.length/\K.getD q.toNat 0=(aE (l.take i)).getD q.toNat 0/\(K.getD q.toNat 0=1\/K.getD q.toNat 0=2\/K.getD q.toNat 0=3)/\(K.getD q.toNat 0=3->(l.getD q.toNat default).ks.length%2=1/\3<=(l.getD q.toNat default).ks.length/\(l.getD q.toNat default).ks.length<=33):=by
 obtain⟨p,r,y⟩:=xO (BQ.1 h.hko q m);have A:=h.hkl;have z:=h.hi;rw [aY,AR]at r;have e:K.getD q.toNat 0=(aE (l.take i)).getD q.toNat 0:=by
  rw [<-h.hkt,AC,AC,DD JF]
 have g:q.toNat< (aE (l.take i)).length:=by rw [aY,AR];omega
 have j:(aE (l.take i)).getD q.toNat 0=(aE (l.take i))[q.toNat]:=by rw [AC,AA g];rfl
 have D:=S7 _ _ (AH g);refine⟨⟨p,JF⟩,JF,e,by rw [e];rw [j]at y⊢;omega,fun h3=>?_⟩;rw [e]at h3;have a:=S6 h3;have b:=C3 h3;rw [pW JF]at a b;exact⟨a,b.2⟩
theorem NGP.okp{l:Y15}{i:Nat}(h:NGP l i K){q:Int}(g:q∈ (l.getD i default).ks):okP (wH l K q):=by
 obtain⟨_,_,_,a,b⟩:=h.kid g;refine⟨a,?_⟩;unfold wH
 dsimp only;split
 ·rename_i c;have:=b c;omega
 ·omega
theorem NGP.ps{l:Y15}{i:Nat}(h:NGP l i K)(j:Nat): ∀p∈lW l i j K,okP p:=by
 intro p g;unfold lW at g;obtain⟨q,m,rfl⟩:=DR.1 g;exact h.okp (FK m)
theorem Zw(a:Y15×Y12)(ps:List (Int×Nat))(p:Int×Nat):iW a (ps++ [p])=(uN (iW a ps).1 p,(iW a ps).2++ [(J5 (iW a ps).1 p:Int)]):=by
 unfold iW
 rw [List.foldl_append];rfl
theorem b0F{l:Y15}{i j:Nat}(g:j< (l.getD i default).ks.length):lW l i (j+1) K=lW l i j K++ [wH l K (l.getD i default).ks[j]]:=by
 unfold lW
 rw [AZ g,CB];rfl
theorem M7{l:Y15}{i j:Nat}(g:j< (l.getD i default).ks.length){few:Y15}{kids:Y12}(e:(few,kids)=iW ([],[]) (lW l i j K)):(uN few (wH l K (l.getD i default).ks[j]),kids++ [(J5 few (wH l K (l.getD i default).ks[j]):Int)])=iW ([],[]) (lW l i (j+1) K):=by
 rw [b0F g,Zw,<-e]
theorem Y4{l:Y15}{i j:Nat}(g:j< (l.getD i default).ks.length){few:Y15}{kids:Y12}(e:(few,kids)=iW ([],[]) (lW l i j K))(s:K.getD ((l.getD i default).ks[j]).toNat 0=1):(few++ [⟨1,0,[]⟩],kids++ [(few.length:Int)])=iW ([],[]) (lW l i (j+1) K):=by
 rw [<-M7 g e];have a:uN few (wH l K (l.getD i default).ks[j])=few++ [⟨1,0,[]⟩]:=if_pos s;have b:J5 few (wH l K (l.getD i default).ks[j])=few.length:=if_pos (.inl s);rw [a,b]
theorem Y5{l:Y15}{i j:Nat}(g:j< (l.getD i default).ks.length){few:Y15}{kids:Y12}(e:(few,kids)=iW ([],[]) (lW l i j K))(s:K.getD ((l.getD i default).ks[j]).toNat 0=2):(few++ [⟨26,0,[]⟩],kids++ [(few.length:Int)])=iW ([],[]) (lW l i (j+1) K):=by
 rw [<-M7 g e];have a:uN few (wH l K (l.getD i default).ks[j])=few++ [⟨26,0,[]⟩]:=(if_neg (fun c=>by have:K.getD ((l.getD i default).ks[j]).toNat 0=1:=c;omega)).trans (if_pos s);have b:J5 few (wH l K (l.getD i default).ks[j])=few.length:=if_pos (.inr s);rw [a,b]
theorem Y6{l:Y15}{i j:Nat}(g:j< (l.getD i default).ks.length){few:Y15}{kids:Y12}(e:(few,kids)=iW ([],[]) (lW l i j K))(s:K.getD ((l.getD i default).ks[j]).toNat 0=3):(few++jM few.length (((l.getD ((l.getD i default).ks[j]).toNat default).ks.length-1)/2),kids++ [((few.length+2:Nat):Int)])=iW ([],[]) (lW l i (j+1) K):=by
 rw [<-M7 g e];have m:(wH l K (l.getD i default).ks[j]).2=((l.getD ((l.getD i default).ks[j]).toNat default).ks.length-1)/2:=if_pos s;have a:uN few (wH l K (l.getD i default).ks[j])=few++jM few.length (wH l K (l.getD i default).ks[j]).2:=(if_neg (fun c=>by have:K.getD ((l.getD i default).ks[j]).toNat 0=1:=c;omega)).trans (if_neg (fun c=>by have:K.getD ((l.getD i default).ks[j]).toNat 0=2:=c;omega));have b:J5 few (wH l K (l.getD i default).ks[j])=few.length+2:=if_neg (fun c=>by have:K.getD ((l.getD i default).ks[j]).toNat 0=1\/K.getD ((l.getD i default).ks[j]).toNat 0=2:=c;omega);rw [a,b,m]
theorem a6A: ∀(ps:List (Int×Nat))(a:Y15×Y12),(iW a ps).1.length<=a.1.length+3*ps.length/\(iW a ps).2.length=a.2.length+ps.length
 | [],a=>⟨AG _,rfl⟩
 |p::r,a=>by
  obtain⟨h1,h2⟩:=a6A r (uN a.1 p,a.2++ [(J5 a.1 p:Int)]);have h3:(uN a.1 p).length<=a.1.length+3:=by
   unfold uN
   split
   ·simp
   split
   ·simp
   ·simp [jM]
  have e:iW a (p::r)=iW (uN a.1 p,a.2++ [(J5 a.1 p:Int)]) r:=rfl;rw [e];simp only [AJ,AW,BW]at h1 h2⊢;exact⟨JF,JF⟩
theorem b8M{l:Y15}{p:Int×Nat}(j:okP p)(h: ∀x∈l,x.ks.length<=1000000): ∀x∈uN l p,x.ks.length<=1000000:=by
 intro x g;unfold uN at g;split at g
 ·rcases BU.1 g with g|g
  ·exact h x g
  ·rw [BN.1 g];simp
 split at g
 ·rcases BU.1 g with g|g
  ·exact h x g
  ·rw [BN.1 g];simp
 ·rcases BU.1 g with g|g
  ·exact h x g
  ·unfold jM at g;simp only [CD,DU,or_false]at g;have:=j.2;rcases g with rfl|rfl|rfl
   ·simp
   ·simp
   ·show(mE _ _).length<=_;rw [P9 this.1];omega
theorem a5Y: ∀(ps:List (Int×Nat))(a:Y15×Y12),(∀p∈ps,okP p)->(∀x∈a.1,x.ks.length<=1000000)-> ∀x∈ (iW a ps).1,x.ks.length<=1000000
 | [],a,_,h=>h
 |p::r,a,hp,h=>a5Y r _ (fun q g=>hp q (BK _ g)) (b8M (hp p AY) h)
theorem NGP.sz{l:Y15}{i:Nat}(h:NGP l i K){j:Nat}(q:j<=(l.getD i default).ks.length){few:Y15}{kids:Y12}(e:(few,kids)=iW ([],[]) (lW l i j K)):few.length<=120/\kids.length=j/\j<=40/\∀x∈few,x.ks.length<=1000000:=by
 obtain⟨h1,h2⟩:=a6A (lW l i j K) ([],[]);have h3:=a5Y (lW l i j K) ([],[]) (h.ps j) (fun x p=>(DU p).elim);rw [<-e]at h1 h2 h3;have m:(l.getD i default) ∈l:=by
  rw [AC,AA h.hi];exact AH h.hi
 have:=h.hks _ m;have g:(lW l i j K).length=j:=by
  unfold lW
  rw [BG,AR];omega
 rw [g]at h1 h2;simp only [BW]at h1 h2;exact⟨JF,JF,JF,h3⟩
theorem NGP.fin{l:Y15}{i:Nat}(h:NGP l i K){few:Y15}{kids:Y12}(e:(few,kids)=iW ([],[]) (lW l i (l.getD i default).ks.length K)):
  (aE (few++ [⟨(l.getD i default).op,(l.getD i default).im,kids⟩])).getD few.length 0=cA (l.take i) (aE (l.take i)) (l.getD i default):=by
 have h1:=a5Z (h.ps (l.getD i default).ks.length) (l.getD i default).op (l.getD i default).im (eK (l.take i) (l.getD i default)) fun p g j=>by
  unfold lW at g;rw [DH]at g;have m:(l.getD i default).ks.length=1:=by have:=congrArg List.length g;rw [BG]at this;exact this
  match hk:(l.getD i default).ks,m with
  | [q],_=>
   rw [hk,BP,DJ,BI]at g;obtain⟨a,b,c,d,f⟩:=h.kid (q:=q) (by rw [hk];exact AY);have h3:K.getD q.toNat 0=3:=by rw [<-g.1]at j;exact j
   have:=f h3;rw [<-g.1];unfold eK wH
   rw [hk];dsimp only;rw [if_pos h3];show((l.take i).getD q.toNat default).ks.length=_;rw [pW JF];omega
 rw [<-e]at h1;rw [tJ];dsimp only at h1;rw [h1];unfold cA
 rw [if_pos h.hko]
 congr 1
 unfold lW
 rw [DH,List.map_map];refine ET fun q r=>?_
 exact(h.kid r).2.2.1
end Go.M10
end
section
namespace Go.M14
open Go.Pv Go.M13
abbrev IvL:=List (Int×Int)
def cR(r:Int×Int):Y14:=[.int .i64 r.1,.int .i64 r.2]
theorem a4D: ∀{H:List (Int×Int)}{j:Nat}(h:j<H.length),(H.flatMap cR)[j*2]?=some (.int .i64 H[j].1)/\(H.flatMap cR)[j*2+1]?=some (.int .i64 H[j].2)
 |r::H,0,_=>⟨rfl,rfl⟩
 |r::H,j+1,h=>by
  have q:=a4D (H:=H) (j:=j) (by simpa using h);have e: ∀k,((r::H).flatMap cR)[k+2]?=(H.flatMap cR)[k]?:=fun k=>by
   show(cR r++H.flatMap cR)[k+2]?=_;rw [BA (by simp [cR])];simp [cR]
  rw [show(j+1)*2=j*2+2 by omega,show j*2+2+1=(j*2+1)+2 by omega,e,e];exact q
theorem yD: ∀H:List (Int×Int),aP (H.flatMap cR)=true
 | []=>rfl
 |r::H=>by
  have:=yD H;simp only [BD,cR,CO,DX,aP,bG,this,AL]
def St(H:List (Int×Int))(n:Int):Bool:=!(decide (n<1)||decide (n>H.length))
def vr(H:List (Int×Int))(n:Int):Int×Int:=if St H n then H.getD (n-1).toNat (0,0)else(0,0)
def holds(k a b n:Int)(H:List (Int×Int))(L:Y12):Bool:=
 if St H a=false then false
 else if k=1 then !contains (vr H a).1 (vr H a).2 0
 else if k=2 then decide (n<=(vr H a).1)
 else if k=3 then decide ((vr H a).2<=n)
 else if k=4 then St H b&&!pP (vr H a).1 (vr H a).2 (vr H b).1 (vr H b).2
 else if k=5 then decide (1<=b) && (decide (b<=L.length) && (decide (0<=(vr H a).1) &&decide ((vr H a).2<L.getD (b-1).toNat 0)))
 else false
theorem c6E{H:List (Int×Int)}{n:Int}(h1:1<=n)(h2:n<=H.length):St H n=true:=by
 unfold St;simp;omega
theorem Yb{H:List (Int×Int)}{n:Int}(h:n<1\/n>H.length):St H n=false:=by
 unfold St;simp;omega
theorem c6F{H:List (Int×Int)}{n:Int}(h:St H n=false):vr H n=(0,0):=by
 unfold vr;rw [h];rfl
theorem ldH{H:List (Int×Int)}{n:Int}{K:Int->Int->Prop}(h1:1<=n)(h2:n<=H.length)(r:H.length<=9223372036854775807)(g:K (vr H n).1 (vr H n).2):
  aC (decide (0<=IntKind.i64.wrap (n-1)) &&decide (IntKind.i64.wrap (n-1)< (H.length:Int))) (aG .i64 (H.flatMap cR) ((IntKind.i64.wrap (n-1)).toNat*2) fun l=>aG .i64 (H.flatMap cR) ((IntKind.i64.wrap (n-1)).toNat*2+1) fun m=>K l m):=by
 rw [AF _ JF];have j:(n-1).toNat<H.length:=JF;obtain⟨p,q⟩:=a4D j;have e:vr H n=H[(n-1).toNat]:=by
  unfold vr
  rw [c6E h1 h2,AC,AA j];rfl
 rw [e]at g;refine aA (by simp;omega) ?_;unfold aG
 rw [p,q];simp only [if_true];exact g
end Go.M14
end
section
namespace Go.M14
open Go.Pv Go.M13 Go.M15 Go.M10
def jK(r:Int×Int):Prop:=inR r.1/\inR r.2
theorem dX:jK (lG,mF):=by unfold jK inR lG mF;omega
theorem M6{a p:Int}(h:inR a)(g:0<p):inR (a.fdiv p):=by
 rw [sR a g];have:=qT (s:=a) g;unfold inR at*
 rcases FC a 0 with q|q
 ·have:=this.2 q;omega
 ·have:=this.1 q;omega
theorem a1W(b:Bool):inR (fL b):=by unfold fL inR;cases b<;>simp
theorem b0I{a b:Int}(h:inR a):inR (nO a b):=by
 unfold nO
 repeat' split
 ·unfold inR;omega
 ·exact bW _
 ·exact bW _
theorem T9{o a b:Int}(h:inR a):inR (oG o a b):=by
 unfold oG
 repeat' split
 all_goals first|exact bW _|exact b0I h| (unfold inR;omega)|exact Ib _ _|exact Vc _ _|exact Ii _ _|skip
 unfold vF
 repeat' split
 all_goals first|exact bW _|exact a1W _| (exact M6 h (JE JF))| (unfold inR;omega)
theorem N4(a:Int):inR (Ic a):=bW _
theorem Fx(o a:Int):inR (F4 o a):=by
 unfold F4
 repeat' split
 ·exact bW _
 ·exact N4 _
 ·unfold inR;omega
theorem Hc(x y:Int):jK (M13.V8 x y):=by
 unfold M13.V8
 split
 ·rename_i h;unfold jL at h;simp only [AD,decide_eq_true_eq]at h;unfold jK inR
  exact h
 ·exact dX
theorem Iy{a b c d:Int}(g:inR a)(j:inR b)(l:inR c)(hd:inR d):inR (Ix a b c d)/\inR (Iw a b c d):=by
 unfold Ix Iw inR at*;omega
theorem Fs{s b:Int}(g:inR s)(j:1<=b):inR (s.tdiv b):=by
 rw [<-Ft g JF JF];exact bW _
theorem b0A{m:Int}(h0:0<=m)(h1:m<=9223372036854775807):inR (Fl m):=by
 rw [<-Xd h0 h1];exact bW _
theorem b1U(b c:Bool):jK (W1 b c):=by
 unfold W1
 repeat' split
 all_goals (unfold jK inR;simp)
theorem Z5{o a b c d:Int}(g:inR a)(m:inR b)(q:inR c)(hd:inR d):jK (pH o a b c d):=by
 unfold pH
 split
 ·exact dX
 split
 ·exact⟨T9 g,T9 g⟩
 split
 ·exact Hc _ _
 split
 ·exact Hc _ _
 split
 ·unfold W6
  split
  ·rename_i h;unfold jL at h;simp only [AD,decide_eq_true_eq]at h;exact Iy h.1.1.1 h.1.1.2 h.1.2 h.2
  ·exact dX
 split
 ·unfold W5
  split
  ·exact dX
  ·have j:1<=c:=JF;have l:1<=d:=JF;exact Iy (Fs g j) (Fs g l) (Fs m j) (Fs m l)
 split
 ·unfold G6
  split
  ·exact dX
  ·unfold jK inR at*
   simp only
   repeat' split
   all_goals omega
 split
 ·unfold mG
  split
  ·repeat' split
   all_goals first|exact dX| (unfold jK inR at*;simp only;omega)
  ·split
   ·exact dX
   ·have h1:inR (Fl (max b d)):=b0A JF (by unfold inR at*;omega);refine⟨?_,h1⟩;unfold inR at*
    simp only;split<;>omega
 split
 ·have p: ∀k:Nat,(0:Int)<2^k:=fun k=>JE JF
  unfold vX
  repeat' split
  all_goals first|exact dX|exact⟨bW _,bW _⟩|exact⟨M6 g (p _),M6 m (p _)⟩|exact⟨g,m⟩| (refine⟨?_,bW _⟩;unfold inR;omega)| (unfold jK inR at*;simp only;omega)
 ·unfold Dp
  repeat' split
  all_goals first|exact b1U _ _| (unfold jK inR;simp)
theorem Ih{o a b:Int}(g:inR a)(j:inR b):jK (V9 o a b):=by
 unfold V9
 repeat' split
 all_goals first|exact dX|exact⟨Fx _ _,Fx _ _⟩|exact⟨N4 _,N4 _⟩|exact⟨bW _,bW _⟩
theorem Z8{a b c d e f:Int}(g:inR c)(hd:inR d)(j:inR e)(hf:inR f):jK (mO a b c d e f):=by
 unfold mO
 repeat' split
 all_goals first|exact dX|exact⟨j,hf⟩|exact⟨g,hd⟩| (unfold jK inR at*;simp only;omega)
theorem Xo{a b c d e f s t u:Int}(h1:a<=s)(h2:s<=b)(h3:c<=t)(h4:t<=d)(g:e<=u)(j:u<=f):fG (mO a b c d e f) (if s≠0 then t else u):=by
 unfold mO
 rw [if_neg JF];unfold contains
 split
 ·rw [if_neg JF];exact⟨g,j⟩
 ·simp only [AD,decide_eq_true_eq];split
  ·split<;>(unfold fG;simp only;omega)
  ·rw [if_pos JF];exact⟨h3,h4⟩
def c6J(l:Y15):Prop:= ∀(i:Nat)(n:Nd),l[i]?=some n-> ∀k∈n.ks,0<=k/\k<i
def nk(op:Int):Nat:=if 4<=op/\op<=19 then 2 else if op=20\/op=21 then 1 else if op=22 then 3 else 0
def Nf(R:List (Int×Int))(n:Nd):Int×Int:=
 if n.op=1 then(n.im,n.im)
 else if n.op=22 then mO (R.getD (n.ks.getD 0 0).toNat (0,0)).1 (R.getD (n.ks.getD 0 0).toNat (0,0)).2 (R.getD (n.ks.getD 1 0).toNat (0,0)).1 (R.getD (n.ks.getD 1 0).toNat (0,0)).2 (R.getD (n.ks.getD 2 0).toNat (0,0)).1 (R.getD (n.ks.getD 2 0).toNat (0,0)).2
 else if n.op=20\/n.op=21 then V9 n.op (R.getD (n.ks.getD 0 0).toNat (0,0)).1 (R.getD (n.ks.getD 0 0).toNat (0,0)).2
 else if 4<=n.op/\n.op<=19 then pH n.op (R.getD (n.ks.getD 0 0).toNat (0,0)).1 (R.getD (n.ks.getD 0 0).toNat (0,0)).2 (R.getD (n.ks.getD 1 0).toNat (0,0)).1 (R.getD (n.ks.getD 1 0).toNat (0,0)).2
 else(lG,mF)
theorem Hn: ∀R:List (Int×Int),(R.flatMap cR).length=R.length*2
 | []=>rfl
 |r::R=>by
  rw [BD,AJ,Hn R,AW];show 2+_=_;omega
theorem d1R: ∀{R:List (Int×Int)}{i:Nat}{a b:Int},i<R.length->(R.flatMap cR).take (i*2)++ [IV.int .i64 a,IV.int .i64 b]++(R.flatMap cR).drop (i*2+2)=(R.set i (a,b)).flatMap cR
 |r::R,0,a,b,_=>rfl
 |r::R,i+1,a,b,h=>by
  have g:=d1R (R:=R) (i:=i) (a:=a) (b:=b) (by simpa using h);rw [IT,BD,BD,<-g,show(i+1)*2=i*2+2 by omega];simp [cR]
theorem ldR{R:List (Int×Int)}{k o:Nat}{K:Int->Int->Prop}(h:k<R.length)(j:o=k*2)(g:K R[k].1 R[k].2):aG .i64 (R.flatMap cR) o fun a=>aG .i64 (R.flatMap cR) (o+1) fun b=>K a b:=by
 subst j;obtain⟨l,m⟩:=a4D h;unfold aG
 rw [l,m];simpa using g
theorem R5(n:Nat):dY n [IV.bool false]=(List.replicate n false).map IV.bool:=by
 induction n with
 |zero=>rfl
 |succ n ih=>rw [GW,BP,<-ih];rfl
theorem c0M(n:Nat):dY n [IV.int .i64 0,IV.int .i64 0]=(List.replicate n ((0:Int),(0:Int))).flatMap cR:=by
 induction n with
 |zero=>rfl
 |succ n ih=>rw [GW,BD,<-ih];rfl
theorem Z0{h:Heap}{n:Nat}{A:Prop}(e:h.get n= .free)(a:A):Pg h n A:=by unfold Pg;rw [e];exact a
theorem A7{cs:Y14}{K:Bool->Prop}{b:Bool}(e:cs[i]?=some (.bool b))(g:K b):rE cs i K:=by
 unfold rE;rw [e];exact g
theorem fD{a b:Prop}[Decidable a][Decidable b](h:a/\b):(decide a&&decide b)=true:=by
 rw [AD,decide_eq_true_eq,decide_eq_true_eq];exact h
def V7(g:Heap)(id:Nat)(b:Y13):Prop:=g.get id= .cells (b.map IV.bool)/\id<g.next
def zI(l:Y15)(j g:Nat)(b:Y13):Prop:=g<=j+1/\b.length=j+1/\b[j]?=some true/\∀(p:Nat)(n:Nd),l[p]?=some n->g<=p->p<=j->b[p]?=some true-> ∀k∈n.ks,b[k.toNat]?=some true
theorem c6C{b:Y13}{q:Nat}(h:q<b.length):(b.map IV.bool).take q++ [IV.bool true]++(b.map IV.bool).drop (q+1)=(b.set q true).map IV.bool:=by
 rw [DF,if_pos h];simp
theorem S0{b:Y13}{q k:Nat}(h:b[k]?=some true):(b.set q true)[k]?=some true:=by
 rw [List.getElem?_set];split
 ·have:=(AP.1 h).1
  subst_vars
  rw [if_pos this]
 ·exact h
theorem zI.set{l:Y15}{j g q:Nat}{b:Y13}(h:zI l j g b)(D:q<g):zI l j g (b.set q true):=
 ⟨h.1,by rw [BX];exact h.2.1,S0 h.2.2.1,fun p n r y z m k A=>S0 (h.2.2.2 p n r y z (by rw [IJ JF]at m;exact m) k A)⟩
def iB(b:Y13)(q:Nat):Y12:=((List.range q).filter fun p=>b[p]?==some true).map fun(p:Nat)=>(p:Int)
theorem c6B{b:Y13}{q:Nat}(h:b[q]?=some true):iB b (q+1)=iB b q++ [(q:Int)]:=by
 unfold iB
 rw [List.range_succ,List.filter_append,CB]
 congr 1
 simp [h]
theorem c6A{b:Y13}{q:Nat}(h:b[q]?=some false):iB b (q+1)=iB b q:=by
 unfold iB
 rw [List.range_succ,List.filter_append,CB];simp [h]
theorem xW{b:Y13}{q:Nat}{x:Int} :x∈iB b q ↔ ∃p:Nat,x=p/\p<q/\b[p]?=some true:=by
 unfold iB
 rw [DR]
 constructor
 ·rintro⟨p,g,rfl⟩;rw [GJ,FB,beq_iff_eq]at g;exact⟨p,rfl,g⟩
 ·rintro⟨p,rfl,h1,h2⟩;exact⟨p,by rw [GJ,FB,beq_iff_eq];exact⟨h1,h2⟩,rfl⟩
theorem Sg(b:Y13)(q:Nat):(iB b q).Pairwise (· < ·):=by
 unfold iB
 rw [List.pairwise_map];exact(List.Pairwise.filter _ List.pairwise_lt_range).imp (fun h=>JF)
theorem Xp(b:Y13)(q:Nat):(iB b q).length<=q:=by
 unfold iB
 rw [BG];have:=List.length_filter_le (fun p=>b[p]?==some true) (List.range q)
 rwa [HJ]at this
def uV(l:Y15)(j:Nat)(c:Y12):Prop:=(∀x∈c,0<=x/\x<=j)/\(∀(q:Nat)(x:Int)(n:Nd),c[q]?=some x->l[x.toNat]?=some n-> ∀k∈n.ks,∃p:Nat,p<q/\c[p]?=some k)/\(∃p:Nat,c[p]?=some (j:Int))/\c.length<=j+1
theorem zI.dep{l:Y15}{j:Nat}{b:Y13}(h:zI l j 0 b)(R:c6J l):uV l j (iB b (j+1)):=by
 obtain⟨_,h2,h3,h4⟩:=h;refine⟨fun x G=>?_,fun q x n O r k K=>?_,?_⟩
 ·obtain⟨p,rfl,D,_⟩:=xW.1 G;omega
 ·obtain⟨L,e⟩:=AP.1 O;have G:x∈iB b (j+1):=by rw [<-e];exact AH L
  obtain⟨p,rfl,D,X⟩:=xW.1 G;rw [AK]at r;have V:=R p n r k K;have z:=h4 p n r (BE _) JF X k K;have A:k∈iB b (j+1):=xW.2 ⟨k.toNat,JF,JF,z⟩;obtain⟨m,g,y⟩:=CT.1 A;refine⟨m,?_,by rw [AA g,y]⟩;rcases BB m q with c|c
  ·exact c
  ·exfalso;rcases BB q m with d|d
   ·have:=(HO.1 (Sg b (j+1))) q m L g d;rw [e,y]at this;omega
   ·obtain rfl:m=q:=JF;rw [e]at y;omega
 ·have:(j:Int) ∈iB b (j+1):=xW.2 ⟨j,rfl,AV _,h3⟩;obtain⟨p,D,e⟩:=CT.1 this;exact⟨⟨p,by rw [AA D,e]⟩,Xp b (j+1)⟩
theorem uV.len{l:Y15}{j:Nat}{c:Y12}(h:uV l j c):c.length<=j+1:=h.2.2.2
theorem a8I{b:Y13}{q:Nat}(h:q<b.length){x:Bool}(e:b[q]=x):(b.map IV.bool)[0+q*1]?=some (.bool x):=by
 rw [AX,AO,BL,AA h,e];rfl
theorem Ko{q:Nat}{v:Int}(h:q<K.length):(K.map (IV.int .i64)).take q++ [IV.int .i64 v]++(K.map (IV.int .i64)).drop (q+1)=(K.set q v).map (IV.int .i64):=by
 rw [DF,if_pos h];simp
end Go.M14
end
section
namespace Go.M14
open Go.Pv
variable {α:Type}
def cM(e:α->IV)(g:List (Int×α)):List (IV×IV):=g.map fun p=>(.int .i64 p.1,e p.2)
def zK(k:Int):List (Int×α)->Option α
 | []=>none
 | (x,v)::r=>if k=x then some v else zK k r
def upM(k:Int)(v:α):List (Int×α)->List (Int×α)
 | []=>[(k,v)]
 | (x,u)::r=>if k=x then(k,v)::r else(x,u)::upM k v r
theorem c5Z(k x:Int):dH (.int .i64) (.int .i64 k) (.int .i64 x)=some (decide (k=x)):=by
 simp only [dH];rfl
theorem Di(e:α->IV)(k:Int): ∀es,fE (.int .i64) (.int .i64 k) (cM e es)=some ((zK k es).map e)
 | []=>rfl
 | (x,v)::r=>by
  have g:=Di e k r;unfold cM at g⊢;rw [BP,fE,c5Z,zK]
  by_cases h:k=x
  ·rw [if_pos h,decide_eq_true h];rfl
  ·rw [if_neg h,decide_eq_false h];exact g
theorem T4(e:α->IV)(k:Int)(v:α): ∀es,nT (.int .i64) (.int .i64 k) (e v) (cM e es)=some (cM e (upM k v es))
 | []=>rfl
 | (x,u)::r=>by
  have g:=T4 e k v r;unfold cM at g⊢;rw [BP,nT,c5Z,upM]
  by_cases h:k=x
  ·rw [if_pos h,decide_eq_true h];rfl
  ·rw [if_neg h,decide_eq_false h];show Option.map _ (nT _ _ _ _)=_;rw [g];rfl
theorem Re(j k:Int)(v:α): ∀es,zK j (upM k v es)=if j=k then some v else zK j es
 | []=>rfl
 | (x,u)::r=>by
  have g:=Re j k v r;rw [upM]
  by_cases h:k=x
  ·subst h;rw [if_pos rfl,zK,zK]
   by_cases q:j=k
   ·rw [if_pos q,if_pos q]
   ·rw [if_neg q,if_neg q,if_neg q]
  ·rw [if_neg h,zK,g,zK]
   by_cases q:j=x
   ·rw [if_pos q,if_pos q,if_neg JF]
   ·rw [if_neg q,if_neg q]
theorem qV{e:α->IV}{k:Int}{g:List (Int×α)}{v:α}(h:zK k g=some v):fE (.int .i64) (.int .i64 k) (cM e g)=some (some (e v)):=by rw [Di,h];rfl
theorem qU{e:α->IV}{k:Int}{g:List (Int×α)}(h:zK k g=none):fE (.int .i64) (.int .i64 k) (cM e g)=some none:=by rw [Di,h];rfl
theorem a8E{cs:Y14}{A:Prop}{K:Nat->Prop}(e:cs[i]?=some .nilmap)(g:A):P7 cs i A K:=by
 unfold P7;rw [e];exact g
theorem a8D{cs:Y14}{g i:Nat}{A:Prop}{K:Nat->Prop}(e:cs[g]?=some (.map i))(j:K i):P7 cs g A K:=by
 unfold P7;rw [e];exact j
theorem c9J{n:Nat}{cs xs:Y14}{K:Y14->Prop}(e:cs[i]?=some (.agg xs))(j:Nat.beq xs.length n=true)(g:K xs):Im n cs i K:=by
 unfold Im;rw [e];simp only [j];exact g
end Go.M14
end
section
namespace Go.M14
open Go.Pv Go.M13 Go.M15 Go.M10
abbrev Iv:=Int×Int
def aM:Iv:=(lG,mF)
def ijn(a b:Iv):Iv:=(min a.1 b.1,max a.2 b.2)
structure LV where
 v:Int
 f:Int
 n:Int
 d:Int
def bI(x:Nd)(j:Nat):LV:=⟨16*x.im+j,x.ks.getD j 0,x.ks.getD ((x.ks.length-1)/2+1+j) 0,x.ks.getD ((x.ks.length-1)/2) 0⟩
def gR(R:List Iv)(q:Int):Iv:=R.getD q.toNat (0,0)
def gU(U:Y13)(q:Int):Bool:=U.getD q.toNat false
def sG(l:Y15)(n:Nd):Nd:=l.getD (n.ks.getD 0 0).toNat default
def R9(l:Y15)(s:Int)(g:Int->Option Iv)(R:List Iv)(n:Nd):Iv:=
 if s≠1 then aM
 else if n.op=3 then(g n.im).getD aM
 else if n.op=25 then ijn (gR R (bI (sG l n) n.im.toNat).f) (gR R (bI (sG l n) n.im.toNat).n)
 else Nf R n
def Ni(l:Y15)(s:Int)(g:Int->Bool)(U:Y13)(n:Nd):Bool:=
 if s≠1 then false
 else if n.op=3 then g n.im
 else if n.op=25 then gU U (bI (sG l n) n.im.toNat).f||gU U (bI (sG l n) n.im.toNat).n
 else decide (4<=n.op/\n.op<=22) &&n.ks.any (gU U)
def rP(l:Y15)(g:Int->Option Iv):Nat->List Iv
 |0=>[]
 |i+1=>rP l g i++ [R9 l ((aE l).getD i 0) g (rP l g i) (l.getD i default)]
def uP(l:Y15)(g:Int->Bool):Nat->Y13
 |0=>[]
 |i+1=>uP l g i++ [Ni l ((aE l).getD i 0) g (uP l g i) (l.getD i default)]
def rG(l:Y15)(g:Int->Option Iv):List Iv:=rP l g l.length
def uG(l:Y15)(g:Int->Bool):Y13:=uP l g l.length
theorem pC(l:Y15)(g:Int->Option Iv): ∀i,(rP l g i).length=i
 |0=>rfl
 |i+1=>by rw [rP,AJ,pC l g i];rfl
theorem Rt(l:Y15)(g:Int->Option Iv):(rG l g).length=l.length:=pC l g _
theorem Rv(l:Y15)(g:Int->Option Iv)(i j:Nat):rP l g i<+:rP l g (i+j):=by
 induction j with
 |zero=>exact DI _
 |succ j ih=>exact ih.trans (by show _<+:rP l g (i+j)++_;exact DC _ _)
theorem Rq{α:Type}{l y:List α}{z:α}(h:l<+:y){q:Nat}(hq:q<l.length):y.getD q z=l.getD q z:=by
 obtain⟨t,rfl⟩:=h;simp only [AC];rw [BJ hq]
theorem J1{α:Type}{l:List α}{z:α}{i q:Nat}(h:q<i):(l.take i).getD q z=l.getD q z:=by
 simp only [AC];rw [DD h]
theorem bH{α:Type}{l:List α}{z:α}{q:Nat}(h:q<l.length):l.getD q z=l[q]:=by
 rw [AC,AA h];rfl
theorem kC{l:Y15}{i:Nat}(y:i<l.length)(h:(aE l).getD i 0≠0):(∀q∈l[i].ks,0<=q/\q<i/\(aE l).getD q.toNat 0≠0)/\(aE l).getD i 0=bJ (eK l l[i]) l[i].op l[i].im (l[i].ks.map fun q=>(aE l).getD q.toNat 0):=by
 have e:=uL (AA y);unfold cA at e;split at e
 ·rename_i p;have j: ∀q∈l[i].ks,0<=q/\q<i/\(aE (l.take i)).getD q.toNat 0≠0:=fun q g=>by
   have:=xO (BQ.1 p q g);rw [aY,AR]at this;exact⟨this.1,JF,this.2.2⟩
  have m: ∀q∈l[i].ks,(aE (l.take i)).getD q.toNat 0=(aE l).getD q.toNat 0:=fun q g=>by
   have:=j q g;exact(tD (lI (ED i l)) (by rw [aY,AR];omega)).symm
  have z:(l[i].ks.map fun q=>(aE (l.take i)).getD q.toNat 0)=l[i].ks.map fun q=>(aE l).getD q.toNat 0:=ET m
  refine⟨fun q g=>⟨(j q g).1,(j q g).2.1,by rw [<-m q g];exact(j q g).2.2⟩,?_⟩;rw [e,z];refine Q2 fun h3=>?_
  unfold eK
  have:l[i].ks≠[]:=fun h0=>by rw [h0]at h3;cases h3
  have g:l[i].ks.getD 0 0∈l[i].ks:=by
   match hk:l[i].ks,this with
   |a::r,_=>exact AY
  have:=j _ g;rw [pW JF]
 ·exact absurd e h
theorem Q3{op im:Int}{k:Y12}(h:fI op im k≠0):mC op=true/\(k.length:Int)=ar op/\iH op im=true:=by
 unfold fI at h;split at h
 ·exact absurd rfl h
 ·rename_i c;simp only [not_or,Bool.not_eq_false,ne_eq,HK]at c;exact c
structure LpOk(l:Y15)(i:Nat):Prop where
 lt:i<l.length
 ks: ∀q∈ (l.getD i default).ks,0<=q/\q<i/\(aE l).getD q.toNat 0≠0
 op:(l.getD i default).op=31
 im:0<=(l.getD i default).im/\(l.getD i default).im<=15
 odd:(l.getD i default).ks.length%2=1/\3<=(l.getD i default).ks.length/\(l.getD i default).ks.length<=33
 ss:((l.getD i default).ks.map fun q=>(aE l).getD q.toNat 0)=lsL ((l.getD i default).ks.length/2)
theorem xT{l:Y15}{i:Nat}(h:(aE l).getD i 0=3):LpOk l i:=by
 have g:=C3 h;have j:=g.1;obtain⟨h1,h2⟩:=kC j JF;rw [h]at h2;obtain⟨h3,h4⟩:=Q1 h2.symm;have m:=pN h4;rw [BG]at m;rw [bH j]at g;refine⟨j,?_,?_,?_,?_,?_⟩
 all_goals rw [bH j]
 ·exact h1
 ·exact h3
 ·unfold bJ at h2;rw [if_pos h3]at h2;split at h2
  ·rename_i c;have:=c.2;unfold iH at this;rw [decide_eq_true_eq]at this;have e:B1 31=15:=JG;omega
  ·omega
 ·exact⟨m.1,g.2⟩
 ·exact m.2.2.2
theorem T7{l:Y15}{i:Nat}(r:i<l.length)(h:(aE l).getD i 0=1):(∀q∈l[i].ks,0<=q/\q<i/\(aE l).getD q.toNat 0≠0)/\
  ((l[i].op=25/\∃q:Int,l[i].ks=[q]/\(0<=q/\q<i)/\(aE l).getD q.toNat 0=3/\1<=l[i].im/\l[i].im<=15/\2*l[i].im+3<=((l.getD q.toNat default).ks.length:Int)) \/
   (l[i].op≠25/\l[i].op≠30/\l[i].op≠31/\(l[i].ks.length:Int)=ar l[i].op/\iH l[i].op l[i].im=true)):=by
 obtain⟨h1,h2⟩:=kC r JF;refine⟨h1,?_⟩;rw [h]at h2;unfold bJ at h2;split at h2
 ·split at h2<;>omega
 split at h2
 ·split at h2<;>omega
 split at h2
 ·rename_i m j g;split at h2
  ·rename_i c;have y:l[i].ks.length=1:=by have:=congrArg List.length c.1;rw [BG]at this;exact this
   match hk:l[i].ks,y with
   | [q],_=>
    have p:=h1 q (by rw [hk];exact AY);rw [hk]at c;have e:eK l l[i]=(l.getD q.toNat default).ks.length:=by unfold eK;rw [hk];rfl
    rw [e]at c;have z:(aE l).getD q.toNat 0=3:=by
     have:=c.1;rw [BP,DJ,BI]at this;exact this.1
    refine .inl ⟨g,q,rfl,⟨p.1,p.2.1⟩,z,?_,c.2.2.1,c.2.2.2⟩;split at h2
    ·omega
    ·have:=c.2.1;omega
  ·omega
 ·rename_i m j g;have:=Q3 (show fI l[i].op l[i].im _≠0 by rw [<-h2];decide);rw [BG]at this;exact .inr ⟨g,j,m,this.2.1,this.2.2⟩
theorem Ss{l:Y15}{i:Nat}(g:i<l.length)(h:(aE l).getD i 0=1):nk l[i].op<=l[i].ks.length:=by
 rcases(T7 g h).2 with⟨o,_⟩| ⟨j,m,p,h1,_⟩
 ·unfold nk;rw [if_neg JF,if_neg JF,if_neg JF];exact BE _
 ·unfold ar at h1;unfold nk
  split
  ·rw [if_neg JF,if_neg JF,if_pos JF]at h1;omega
  split
  ·rw [if_neg JF,if_pos JF]at h1;omega
  split
  ·rw [if_neg JF,if_neg JF,if_neg JF,if_pos JF]at h1;omega
  ·exact BE _
theorem N1{l:Y12}{j:Nat}{z:Int}(h:j<l.length):l.getD j z∈l:=by rw [bH h];exact AH h
theorem Vr{l:Y15}{q j:Nat}(h:LpOk l q)(r:j< (l.getD q default).ks.length/2):(0<=(bI (l.getD q default) j).f/\(bI (l.getD q default) j).f<q)/\(0<=(bI (l.getD q default) j).n/\(bI (l.getD q default) j).n<q)/\(0<=(bI (l.getD q default) j).d/\(bI (l.getD q default) j).d<q):=by
 have h2:=h.odd;have g: ∀m,m< (l.getD q default).ks.length->0<=(l.getD q default).ks.getD m 0/\(l.getD q default).ks.getD m 0<q:=fun m p=>by
  have:=h.ks _ (N1 (z:=0) p);exact⟨this.1,this.2.1⟩
 exact⟨g _ JF,g _ JF,g _ JF⟩
theorem a0D{R S:List Iv}{n:Nd}{i:Nat}(p: ∀q∈n.ks,0<=q/\q<i)(l:nk n.op<=n.ks.length)(h: ∀q,q<i->R.getD q (0,0)=S.getD q (0,0)):Nf R n=Nf S n:=by
 have g: ∀j,j<n.ks.length->R.getD (n.ks.getD j 0).toNat (0,0)=S.getD (n.ks.getD j 0).toNat (0,0):=fun j m=>by
  have:=p _ (N1 (z:=0) m);exact h _ JF
 unfold nk at l;unfold Nf
 split
 ·rfl
 split
 ·rw [if_neg JF,if_neg JF,if_pos JF]at l;rw [g 0 JF,g 1 JF,g 2 JF]
 split
 ·rw [if_neg JF,if_pos JF]at l;rw [g 0 JF]
 split
 ·rw [if_pos JF]at l;rw [g 0 JF,g 1 JF]
 ·rfl
theorem Bd{l:Y15}{i:Nat}(r:i<l.length){y:Int->Option Iv}{R S:List Iv}(h: ∀q,q<i->R.getD q (0,0)=S.getD q (0,0)):R9 l ((aE l).getD i 0) y R l[i]=R9 l ((aE l).getD i 0) y S l[i]:=by
 unfold R9
 by_cases hs:(aE l).getD i 0=1
 ·rw [if_neg (show¬ ((aE l).getD i 0≠1)from fun c=>c hs),if_neg (show¬ ((aE l).getD i 0≠1)from fun c=>c hs)];obtain⟨h1,h2⟩:=T7 r hs;split
  ·rfl
  split
  ·rename_i p;rcases h2 with⟨_,q,e,g,h3,D,G,K⟩| ⟨m,_⟩
   ·have z:sG l l[i]=l.getD q.toNat default:=by unfold sG;rw [e];rfl
    have A:=(xT h3).odd;obtain⟨a,b,_⟩:=Vr (j:=l[i].im.toNat) (xT h3) JF;rw [z];unfold gR
    rw [h _ JF,h _ JF]
   ·exact absurd p m
  ·exact a0D (i:=i) (fun q g=>⟨(h1 q g).1,(h1 q g).2.1⟩) (Ss r hs) h
 ·rw [if_pos (show(aE l).getD i 0≠1 from hs),if_pos (show(aE l).getD i 0≠1 from hs)]
theorem a1X{l:Y15}{i:Nat}(A:i<l.length){z:Int->Bool}{U V:Y13}(h: ∀q,q<i->U.getD q false=V.getD q false):Ni l ((aE l).getD i 0) z U l[i]=Ni l ((aE l).getD i 0) z V l[i]:=by
 unfold Ni
 by_cases hs:(aE l).getD i 0=1
 ·rw [if_neg (show¬ ((aE l).getD i 0≠1)from fun c=>c hs),if_neg (show¬ ((aE l).getD i 0≠1)from fun c=>c hs)];obtain⟨h1,h2⟩:=T7 A hs;split
  ·rfl
  split
  ·rename_i p;rcases h2 with⟨_,q,e,g,h3,K,L,O⟩| ⟨m,_⟩
   ·have D:sG l l[i]=l.getD q.toNat default:=by unfold sG;rw [e];rfl
    have G:=(xT h3).odd;obtain⟨a,b,_⟩:=Vr (j:=l[i].im.toNat) (xT h3) JF;rw [D];unfold gU
    rw [h _ JF,h _ JF]
   ·exact absurd p m
  ·congr 1
   have: ∀x:Y12,(∀q∈x,0<=q/\q<i)->x.any (gU U)=x.any (gU V):=fun x=>by
    induction x with
    |nil=>intro _;rfl
    |cons a r ih=>
     intro y;rw [IQ,IQ,ih fun q g=>y q (BK _ g)]
     congr 1
     have:=y a AY;exact h _ JF
   exact this _ fun q g=>⟨(h1 q g).1,(h1 q g).2.1⟩
 ·rw [if_pos (show(aE l).getD i 0≠1 from hs),if_pos (show(aE l).getD i 0≠1 from hs)]
theorem d6S{l:Y15}{g:Int->Option Iv}{i:Nat}(j:i<l.length):(rG l g).getD i (0,0)=R9 l ((aE l).getD i 0) g (rG l g) l[i]:=by
 have m:rP l g (i+1)<+:rG l g:=by
  have:=Rv l g (i+1) (l.length- (i+1))
  rwa [show i+1+(l.length- (i+1))=l.length by omega]at this
 have r:rP l g i<+:rG l g:=(by have:=Rv l g i 1;exact this:rP l g i<+:rP l g (i+1)).trans m;rw [Rq m (by rw [pC];omega),rP,AC,BA (by rw [pC];exact AG _),pC,GQ,bH j];exact Bd j fun q p=>(Rq r (by rw [pC];exact p)).symm
def Hj(p:Int×Iv):Y14:=[.int .i64 p.1,.int .i64 p.2.1,.int .i64 p.2.2]
def eI(r:Iv):IV:= .agg [.int .i64 r.1,.int .i64 r.2]
def eV(x:LV):IV:= .agg [.int .i64 x.v,.int .i64 x.f,.int .i64 x.n,.int .i64 x.d]
theorem Ay: ∀L:List (Int×Iv),aP (L.flatMap Hj)=true
 | []=>rfl
 |x::r=>by
  rw [BD,eO,Ay r,AL];rfl
theorem Cj: ∀{L:List (Int×Iv)}{i:Nat}(h:i<L.length)(j:Nat),j<3->(L.flatMap Hj)[i*3+j]?=(Hj L[i])[j]?
 |x::r,0,_,j,hj=>by
  rw [BD,BJ (by show 0*3+j<3;omega)];simp
 |x::r,i+1,h,j,hj=>by
  rw [BD,BA (by show 3<=(i+1)*3+j;omega)];have:(i+1)*3+j- (Hj x).length=i*3+j:=by show(i+1)*3+j-3=_;omega
  rw [this,Cj (by simpa using h) j hj];rfl
abbrev IvC:=List (Int×Iv)
def vZ(C:List (Int×Iv))(k:Int):Option Iv:=match C.find? (fun p=>decide (p.1=k))with
 |some p=>if p.2.1<=p.2.2 then some p.2 else none
 |none=>none
def sE(C:List (Int×Iv))(k:Int):Bool:=C.any fun p=>decide (p.1=k)
theorem zY(k:Int): ∀C:List (Int×Iv),(C.find? (fun p=>decide (p.1=k))).isSome=sE C k
 | []=>rfl
 |p::r=>by
  have g:=zY k r;unfold sE at g⊢;rw [List.find?_cons,IQ]
  cases decide (p.1=k)
  ·rw [DZ,<-g]
  ·rfl
theorem Ik(C:List (Int×Iv))(p:Int×Iv)(k:Int):vZ (C++ [p]) k=if sE C k=true then vZ C k else if p.1=k/\p.2.1<=p.2.2 then some p.2 else none:=by
 unfold vZ
 rw [List.find?_append,<-zY]
 cases h:C.find? (fun p=>decide (p.1=k))with
 |some q=>rfl
 |none=>
  rw [Option.none_or,List.find?_cons];simp only [CV,AU,if_false]
  by_cases e:p.1=k
  ·rw [decide_eq_true e];simp only [e,true_and]
  ·rw [decide_eq_false e];simp only [e,false_and,if_false];rfl
theorem Zz(C:List (Int×Iv))(p:Int×Iv)(k:Int):sE (C++ [p]) k=(sE C k||decide (p.1=k)):=by
 unfold sE
 rw [List.any_append];simp
theorem Ij{C:List (Int×Iv)}{k:Int}(h:sE C k=false):vZ C k=none:=by
 rw [<-zY]at h;unfold vZ
 cases e:C.find? (fun p=>decide (p.1=k))with
 |none=>rfl
 |some q=>rw [e]at h;cases h
theorem a7Q{C:List (Int×Iv)}{p:Int×Iv}{j:List (Int×Iv)}(h: ∀k,zK k j=vZ C k)(g:sE C p.1=true\/ ¬p.2.1<=p.2.2): ∀k,zK k j=vZ (C++ [p]) k:=fun k=>by
 rw [h,Ik]
 cases e:sE C k
 ·rw [if_neg JG,Ij e,if_neg];rintro⟨rfl,q⟩;rcases g with g|g
  ·rw [g]at e;cases e
  ·exact g q
 ·rw [if_pos rfl]
theorem a0F{C:List (Int×Iv)}{p:Int×Iv}{g:List (Int×Iv)}(h: ∀k,zK k g=vZ C k)(h1:sE C p.1=false)(h2:p.2.1<=p.2.2): ∀k,zK k (upM p.1 p.2 g)=vZ (C++ [p]) k:=fun k=>by
 rw [Re,h,Ik]
 by_cases e:k=p.1
 ·rw [if_pos e,e,h1,if_neg JG,if_pos ⟨rfl,h2⟩]
 ·rw [if_neg e]
  cases e2:sE C k
  ·rw [if_neg JG,Ij e2,if_neg (fun q=>e q.1.symm)]
  ·rw [if_pos rfl]
theorem Z3{C:List (Int×Iv)}{p:Int×Iv}{g:List (Int×Bool)}(h: ∀k,zK k g=if sE C k=true then some true else none): ∀k,zK k (upM p.1 true g)=if sE (C++ [p]) k=true then some true else none:=fun k=>by
 rw [Re,h,Zz]
 by_cases e:k=p.1
 ·rw [if_pos e,decide_eq_true e.symm,DO,if_pos rfl]
 ·rw [if_neg e,decide_eq_false (fun q=>e q.symm),EA]
def KOk(g:Int->Option Iv):Prop:= ∀v r,g v=some r->r.1<=r.2/\jK r
theorem c8G{R:List Iv}{n:Nd}(D:inR n.im)(p:nk n.op<=n.ks.length)(h: ∀j,j<n.ks.length->(R.getD (n.ks.getD j 0).toNat (0,0)).1<=(R.getD (n.ks.getD j 0).toNat (0,0)).2/\jK (R.getD (n.ks.getD j 0).toNat (0,0))):(Nf R n).1<=(Nf R n).2/\jK (Nf R n):=by
 have hf:lG<=mF/\jK (lG,mF):=⟨by unfold lG mF;omega,dX⟩;have z: ∀{r:Iv}{x:Int},fG r x->r.1<=r.2:=fun q=>Int.le_trans q.1 q.2
 unfold nk at p;unfold Nf
 split
 ·exact⟨DW _,D,D⟩
 split
 ·rw [if_neg JF,if_neg JF,if_pos JF]at p;obtain⟨m,g⟩:=h 0 JF;obtain⟨y,l⟩:=h 1 JF;obtain⟨G,A⟩:=h 2 JF;exact⟨z (Xo (DW _) m (DW _) y (DW _) G),Z8 l.1 l.2 A.1 A.2⟩
 split
 ·rename_i c;rw [if_neg JF,if_pos JF]at p;obtain⟨m,g⟩:=h 0 JF;exact⟨z (c6D c (DW _) m g.1 g.2),Ih g.1 g.2⟩
 split
 ·rename_i c;rw [if_pos JF]at p;obtain⟨m,g⟩:=h 0 JF;obtain⟨y,l⟩:=h 1 JF;exact⟨z (a3P c (DW _) m (DW _) y g.1 g.2 l.1 l.2),Z5 g.1 g.2 l.1 l.2⟩
 ·exact hf
theorem c8D{a b:Iv}(g:a.1<=a.2/\jK a)(j:b.1<=b.2/\jK b):(ijn a b).1<=(ijn a b).2/\jK (ijn a b):=by
 unfold ijn jK inR at*
 dsimp only;omega
theorem d6U{l:Y15}{g:Int->Option Iv}(G: ∀n∈l,inR n.im)(p:KOk g): ∀i,i<l.length->((rG l g).getD i (0,0)).1<=((rG l g).getD i (0,0)).2/\jK ((rG l g).getD i (0,0)):=by
 intro i
 induction i using Nat.strongRecOn with
 |ind i ih=>
  intro m;have hf:aM.1<=aM.2/\jK aM:=⟨by show lG<=mF;unfold lG mF;omega,dX⟩;rw [d6S m];unfold R9
  by_cases hs:(aE l).getD i 0=1
  case neg=>rw [if_pos hs];exact hf
  rw [if_neg (show¬ ((aE l).getD i 0≠1)from fun c=>c hs)];obtain⟨h1,h2⟩:=T7 m hs;split
  ·cases e:g l[i].im with
   |none=>exact hf
   |some r=>exact p _ _ e
  split
  ·rename_i A;rcases h2 with⟨_,q,e,L,h3,O,R,V⟩| ⟨y,_⟩
   ·have p:sG l l[i]=l.getD q.toNat default:=by unfold sG;rw [e];rfl
    have K:=(xT h3).odd;obtain⟨a,b,_⟩:=Vr (j:=l[i].im.toNat) (xT h3) JF;rw [p];exact c8D (ih _ JF JF) (ih _ JF JF)
   ·exact absurd A y
  ·refine c8G (G _ (AH m)) (Ss m hs) fun j D=>?_
   have:=h1 _ (N1 (z:=0) D);exact ih _ JF JF
theorem d6V{l:Y15}{g:Int->Option Iv}{i q:Nat}(m:i<=l.length)(j:q<i):(rP l g i).getD q (0,0)=(rG l g).getD q (0,0):=by
 have:=Rv l g i (l.length-i);rw [show i+(l.length-i)=l.length by omega]at this;exact(Rq this (by rw [pC];exact j)).symm
def IVg(l:Y15)(r:Int->Option Iv)(y:Int->Bool)(i:Nat)(g:Heap)(m p:Nat)(R:List Iv)(U:Y13)(h:Heap):Prop:=
 (i<=l.length/\R.length=l.length/\U.length=l.length/\R.take i=rP l r i/\U.take i=uP l y i/\∀q,i<=q->U.getD q false=false)/\
 (g.get m= .cells (R.flatMap cR)/\g.get p= .cells (U.map IV.bool))/\(h.next<=m/\h.next<=p/\m≠p/\m<g.next/\p<g.next)/\∀j,j<h.next->g.get j=h.get j
theorem C1{α:Type}{L:List α}{i q:Nat}{x z:α}(h:q≠i):(L.set i x).getD q z=L.getD q z:=by
 simp only [AC];rw [IJ JF]
theorem IVg.step{l:Y15}{G:Int->Option Iv}{K:Int->Bool}{i:Nat}{g:Heap}{R:List Iv}{U:Y13}{h:Heap}(hv:IVg l G K i g k m R U h)(p:i<l.length){x r:Iv}{y:Heap}{A:List Iv}{D:Y13}
  (eR:y.get k= .cells (A.flatMap cR)) (eU:y.get m= .cells (D.map IV.bool)) (h2R:A=R.set i r) (h2U:D=U.set i o) (er:r=R9 l ((aE l).getD i 0) G (R.set i x) l[i]) (eu:o=Ni l ((aE l).getD i 0) K U l[i]) (nx:y.next=g.next) (fr: ∀j,j≠k->j≠m->y.get j=g.get j):IVg l G K (i+1) y k m A D h:=by
 obtain⟨⟨a1,L,O,V,X,Y⟩,⟨b1,b2⟩,⟨c1,c2,Z,c4,c5⟩,d⟩:=hv;refine⟨⟨p,by rw [h2R,BX];exact L,by rw [h2U,BX];exact O,?_,?_,fun q z=>?_⟩,⟨eR,eU⟩,⟨c1,c2,Z,by rw [nx];exact c4,by rw [nx];exact c5⟩,fun j hj=>(fr j JF JF).trans (d j hj)⟩
 ·rw [h2R,rP,<-V,AZ (by rw [BX];omega),FE,HA (AG _),bH p,er]
  congr 2
  exact Bd p fun q z=>by rw [C1 JF,J1 z]
 ·rw [h2U,uP,<-X,AZ (by rw [BX];omega),FE,HA (AG _),bH p,eu]
  congr 2
  exact a1X p fun q z=>by rw [J1 z]
 ·rw [h2U,C1 JF];exact Y q JF
theorem e3W{U:Y13}{i:Nat}{b:Bool}(h:i<U.length):(U.map IV.bool).take i++ [IV.bool b]++(U.map IV.bool).drop (i+1)=(U.set i b).map IV.bool:=by
 rw [DF,if_pos h,CB,BP,HI,FL,CI,EK]
theorem e4A{U:Y13}{k:Nat}(h:k<U.length):(U.map IV.bool)[k]?=some (.bool U[k]):=by
 rw [BL,AA h];rfl
theorem Io{R:List Iv}{q:Int}{o:Nat}{K:Int->Int->Prop}(h:0<=q/\q< (R.length:Int))(l:o=q.toNat*2)(g:K (gR R q).1 (gR R q).2):aG .i64 (R.flatMap cR) o fun a=>aG .i64 (R.flatMap cR) (o+1) fun b=>K a b:=by
 have j:q.toNat<R.length:=JF;have e:gR R q=R[q.toNat]:=bH j;rw [e]at g;exact ldR j l g
theorem Ip{U:Y13}{q:Int}{o:Nat}{K:Bool->Prop}(h:0<=q/\q< (U.length:Int))(l:o=q.toNat)(g:K (gU U q)):rE (U.map IV.bool) o K:=by
 have j:q.toNat<U.length:=JF;have e:gU U q=U[q.toNat]:=bH j;rw [e]at g;exact A7 (by rw [l];exact e4A j) g
theorem P5{ks:Y12}{j o:Nat}{K:Int->Prop}(h:j<ks.length)(l:o=j)(g:K (ks.getD j 0)):aG .i64 (ks.map (IV.int .i64)) o K:=by
 rw [bH h]at g;exact bB (by rw [l,BL,AA h];rfl) g
theorem e1C{ks:Y12}(h:ks.length=1)(p:Int->Bool):ks.any p=p (ks.getD 0 0):=by
 match ks,h with
 | [a],_=>simp
theorem e1D{ks:Y12}(h:ks.length=2)(p:Int->Bool):ks.any p=(p (ks.getD 0 0)||p (ks.getD 1 0)):=by
 match ks,h with
 | [a,b],_=>simp
theorem e1E{ks:Y12}(h:ks.length=3)(p:Int->Bool):ks.any p=(p (ks.getD 0 0)|| (p (ks.getD 1 0)||p (ks.getD 2 0))):=by
 match ks,h with
 | [a,b,c],_=>simp
theorem a1T{U:Y13}{i:Nat}(h:i<U.length)(e:U.getD i false=false):U.set i false=U:=by
 rw [bH h]at e;rw [<-e];exact List.set_getElem_self h
theorem c9B{C:List (Int×Iv)}(h: ∀p∈C,jK p.2):KOk (vZ C):=by
 intro v r e;unfold vZ at e
 cases z:C.find? (fun p=>decide (p.1=v))with
 |none=>rw [z]at e;cases e
 |some p=>
  rw [z]at e;dsimp only at e;split at e
  ·rename_i c;rw [<-Option.some.inj e];exact⟨c,h p (List.mem_of_find?_eq_some z)⟩
  ·cases e
end Go.M14
end
end
