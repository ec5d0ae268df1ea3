/-
  Texts of this proof, one after the other.
  Conditions: none.
-/
import Derived.Test.YtkonebkblgemkaaGreatX5
set_option linter.unusedVariables false
set_option linter.unusedSimpArgs false
set_option maxRecDepth 100000
set_option maxHeartbeats 4000000
noncomputable section
section
namespace Go.M10
open Go.M15 Go.Pv
def tS(op:Int):List Int:=if op=22 then [1,1,1]else if op=23\/op=27\/op=29 then [2,1]else if op=28 then [2,1,1]else if op=24 then [2]else if op=25 then [3]else [1,1]
def vC(op:Int)(s:List Int):Bool:=oU op&& (decide ((s.length:Int)=ar op) && (if op=22/\s.getD 1 0=2 then decide (s=[1,2,2])else decide (s=(tS op).take s.length)))
theorem a8M{op:Int}(h:oU op=true)(h3:op≠25/\op≠30/\op≠31):(op=1\/op=2\/op=26) \/op=3\/op=22\/op=23\/op=24\/ (op=27\/op=29) \/op=28\/ (4<=op/\op<=19) \/ (op=20\/op=21):=by
 unfold oU at h;rw [decide_eq_true_eq]at h;omega
def svo(op im:Int)(k:List Int):Int:=if op=26\/op=27\/op=28\/op=29 then 2 else if op=22 then k.getD 1 0 else if op=3 then(if im.tmod 16=0 then 2 else 1)else 1
theorem g0W{k:List Int}(h:(k.length:Int)=0):k=[]:=h3X (by omega)
theorem g0X{k:List Int}(h:(k.length:Int)=1): ∃a,k=[a]:=by
 match k,h with
 | [a],_=>exact⟨a,rfl⟩
theorem f2T{k:List Int}(h:(k.length:Int)=2): ∃a b,k=[a,b]:=by
 match k,h with
 | [a,b],_=>exact⟨a,b,rfl⟩
theorem f2U{k:List Int}(h:(k.length:Int)=3): ∃a b c,k=[a,b,c]:=by
 match k,h with
 | [a,b,c],_=>exact⟨a,b,c,rfl⟩
theorem d4T{op im:Int}{k:List Int}(h3:op≠25/\op≠30/\op≠31)(i: ∀x∈k,1<=x/\x<=3):fH op im k=if vC op k=true/\lB op im=true then svo op im k else 0:=by
 by_cases hi:lB op im=true
 case neg=>
  rw [if_neg (fun e=>hi e.2)];unfold fH
  rw [if_pos (.inr (.inr (by simpa using hi)))]
 by_cases ha:oU op=true
 case neg=>
  rw [if_neg (fun e=>by unfold vC at e;simp [ha]at e)];unfold fH
  rw [if_pos (.inl (by simpa using ha))]
 by_cases hl:(k.length:Int)=ar op
 case neg=>
  rw [if_neg (fun e=>by unfold vC at e;simp [hl]at e)];unfold fH
  rw [if_pos (.inr (.inl hl))]
 rw [d0X h3 ha hl hi];have l:vC op k=(if op=22/\k.getD 1 0=2 then decide (k=[1,2,2])else decide (k=(tS op).take k.length)):=by
  unfold vC
  rw [ha,decide_eq_true hl];rfl
 rw [l,hi];rcases a8M ha h3 with h|rfl|rfl|rfl|rfl|h|rfl|h|h
 ·have g:ar op=0:=by unfold ar;rw [if_pos (by omega)]
  obtain rfl:=g0W (hl.trans g);rcases h with rfl|rfl|rfl<;>simp [svo,tS]
 ·obtain rfl:=g0W (hl.trans (by decide));have m:0<=im:=by
   unfold lB at hi;rw [decide_eq_true_eq]at hi;have:mxI 3=255:=by decide
   omega
  simp [svo,tS,h3N m]
 ·obtain⟨a,b,c,rfl⟩:=f2U (hl.trans (by decide));have r1:=i a (by simp);have p:=i b (by simp);have r:=i c (by simp);simp only [svo,tS,List.getD_cons_zero,List.getD_cons_succ,h1O,h1U,List.take,h2I,and_true,true_and,reduceIte]
  by_cases hb:b=2
  ·subst hb;simp
   by_cases e1:a=1<;>by_cases e2:c=2<;>simp [e1,e2]<;>omega
  ·simp [hb]
   by_cases e1:a=1<;>by_cases e2:b=1<;>by_cases e3:c=1<;>simp [e1,e2,e3]<;>omega
 ·obtain⟨a,b,rfl⟩:=f2T (hl.trans (by decide));simp [svo,tS]
 ·obtain⟨a,rfl⟩:=g0X (hl.trans (by decide));simp [svo,tS]
 ·have g:ar op=2:=by rcases h with rfl|rfl<;>decide
  obtain⟨a,b,rfl⟩:=f2T (hl.trans g);rcases h with rfl|rfl<;>simp [svo,tS]
 ·obtain⟨a,b,c,rfl⟩:=f2U (hl.trans (by decide));simp [svo,tS]
 ·have g:ar op=2:=by unfold ar;rw [if_neg (by omega),if_neg (by omega),if_pos (by omega)]
  obtain⟨a,b,rfl⟩:=f2T (hl.trans g);have j:tS op=[1,1]:=by unfold tS;rw [if_neg (by omega),if_neg (by omega),if_neg (by omega),if_neg (by omega),if_neg (by omega)]
  rw [j];have n:op≠3/\op≠26/\op≠22/\op≠23/\op≠24/\op≠27/\op≠28/\op≠29:=by omega
  simp [svo,n]
 ·have g:ar op=1:=by unfold ar;rw [if_neg (by omega),if_pos (by omega)]
  obtain⟨a,rfl⟩:=g0X (hl.trans g);have j:tS op=[1,1]:=by unfold tS;rw [if_neg (by omega),if_neg (by omega),if_neg (by omega),if_neg (by omega),if_neg (by omega)]
  rw [j];have n:op≠3/\op≠26/\op≠22/\op≠23/\op≠24/\op≠27/\op≠28/\op≠29:=by omega
  simp [svo,n]
theorem f2V{op:Int}(h:oU op=true)(h3:op≠25/\op≠30/\op≠31):0<=ar op/\ar op<=((tS op).length:Int):=by
 rcases a8M h h3 with h|rfl|rfl|rfl|rfl|h|rfl|h|h
 ·have g:ar op=0:=by unfold ar;rw [if_pos (by omega)]
  omega
 all_goals try (constructor<;>decide)
 ·rcases h with rfl|rfl<;>(constructor<;>decide)
 ·have g:ar op=2:=by unfold ar;rw [if_neg (by omega),if_neg (by omega),if_pos (by omega)]
  have i:tS op=[1,1]:=by unfold tS;rw [if_neg (by omega),if_neg (by omega),if_neg (by omega),if_neg (by omega),if_neg (by omega)]
  rw [i,g];decide
 ·have g:ar op=1:=by unfold ar;rw [if_neg (by omega),if_pos (by omega)]
  have i:tS op=[1,1]:=by unfold tS;rw [if_neg (by omega),if_neg (by omega),if_neg (by omega),if_neg (by omega),if_neg (by omega)]
  rw [i,g];decide
theorem d0Z{op im:Int}{k:List Int}(g: ∀x∈k,1<=x/\x<=3):0<=fH op im k/\fH op im k<=3:=by
 unfold fH
 repeat' split
 all_goals try omega
 rename_i h1 h2 h3 h4 i;have:k.getD 1 0=0\/k.getD 1 0∈k:=by
  rw [h1A];rcases h2D 1 k.length with q|q
  ·rw [h0U q];exact .inr (h1B q)
  ·rw [h2E q];exact .inl rfl
 rcases this with q|q
 ·omega
 ·have:=g _ q;omega
def lsL(m:Nat):List Int:=2::(List.replicate m 1++2::List.replicate (m-1) 1)
def a3G(k:List Int):Bool:=decide (k.length%2=1) && (decide (3<=k.length) && (decide (k.length<=33) &&decide (k=lsL (k.length/2))))
def a1H(k:List Int):Bool:=match k with
 | []=>false
 |a::r=>decide (r.length<=6) && (decide (a=2) &&r.all fun x=>decide (x=1))
def bQ(e:Nat)(op im:Int)(k:List Int):Int:=
 if op=31 then(if a3G k=true/\lB 31 im=true then 3 else 0)
 else if op=30 then(if a1H k=true/\lB 30 im=true then 2 else 0)
 else if op=25 then(if k=[3]/\0<=im/\im<=15/\2*im+3<=e then(if im=0 then 2 else 1)else 0)
 else fH op im k
def eK(l:List Nd)(n:Nd):Nat:=(l.getD (n.ks.getD 0 0).toNat default).ks.length
def cC(l:List Nd)(g:List Int)(n:Nd):Int:=if n.ks.all (dL g)=true then bQ (eK l n) n.op n.im (n.ks.map fun q=>g.getD q.toNat 0)else 0
def gL:List Nd->List Int->List Nd->List Int
 |_,out,[]=>out
 |p,out,n::r=>gL (p++ [n]) (out++ [cC p out n]) r
def aG(l:List Nd):List Int:=gL [] [] l
theorem a0S(n:Nd): ∀(l p:List Nd)(g:List Int),gL p g (l++ [n])=gL p g l++ [cC (p++l) (gL p g l) n]
 | [],p,g=>by
  rw [h3V];rfl
 |x::l,p,g=>by
  rw [h3E,gL,gL,a0S n l,h2V,h6T]
theorem gM(l:List Nd)(n:Nd):aG (l++ [n])=aG l++ [cC l (aG l) n]:=by
 have:=a0S n l [] []
 rwa [h3U]at this
theorem a3H: ∀(l p:List Nd)(g:List Int),(gL p g l).length=g.length+l.length
 | [],p,g=>rfl
 |x::l,p,g=>by
  rw [gL,a3H l];simp only [h1E,h1O,h1U];omega
theorem bD(l:List Nd):(aG l).length=l.length:=by unfold aG;rw [a3H];simp
theorem a3I: ∀(l p:List Nd)(g:List Int),g<+:gL p g l
 | [],p,g=>h4F _
 |x::l,p,g=>(h3Y _ _).trans (a3I l _ _)
theorem a3J: ∀(l r p:List Nd)(g:List Int),gL p g (l++r)=gL (p++l) (gL p g l) r
 | [],r,p,g=>by rw [h3V];rfl
 |x::l,r,p,g=>by rw [h3E,gL,gL,a3J l r,h2V,h6T]
theorem jZ{l y:List Nd}(h:l<+:y):aG l<+:aG y:=by
 obtain⟨r,rfl⟩:=h;unfold aG
 rw [a3J];exact a3I _ _ _
theorem b5L{l:List Nd}{i:Nat}(h:i<l.length):aG (l.take (i+1))=aG (l.take i)++ [cC (l.take i) (aG (l.take i)) l[i]]:=by
 rw [h1J h,gM]
theorem kF{p:List Nd}{g:List Int}{n:Nd}{q:Int}(i:q∈n.ks)(h:dL g q=false):cC p g n=0:=by
 unfold cC
 rw [if_neg];intro e;rw [h2L.1 e q i]at h
 cases h
def SIG(l:List Nd)(i j:Nat)(k:List Int):Prop:= ∃n,l[i]?=some n/\(j<=n.ks.length/\k.length=j)/\(n.ks.take j).all (dL (aG (l.take i)))=true/\k=(n.ks.take j).map fun q=>(aG (l.take i)).getD q.toNat 0
theorem SIG.zero{l:List Nd}{i:Nat}(h:i<l.length):SIG l i 0 []:=⟨l[i],h0U h,⟨h1N _,rfl⟩,rfl,rfl⟩
theorem SIG.step{l:List Nd}{i j:Nat}{k:List Int}(h:SIG l i j k)(m:i<l.length)(g:j<l[i].ks.length)(p:dL (aG (l.take i)) l[i].ks[j]=true):SIG l i (j+1) (k++ [(aG (l.take i)).getD (l[i].ks[j]).toNat 0]):=by
 obtain⟨n,h1,h2,h3,h4⟩:=h;obtain rfl:l[i]=n:=by rw [h0U m]at h1;exact h1M h1
 refine⟨_,h1,⟨g,by simp [h2.2]⟩,?_,?_⟩
 ·rw [h1J g,List.all_append,h3];simp [p]
 ·rw [h1J g,h3O,h4];rfl
theorem qF{g:List Int}{q:Int}(h:dL g q=true):0<=q/\q<g.length/\g.getD q.toNat 0≠0:=by
 unfold dL at h;simp only [h0Y,decide_eq_true_eq]at h;exact h
theorem sD{k:List Int}(h:a3G k=true):k.length%2=1/\3<=k.length/\k.length<=33/\k=lsL (k.length/2):=by
 unfold a3G at h;simp only [h0Y,decide_eq_true_eq]at h;exact h
theorem c6C{m:Nat}(h:1<=m):(lsL m).length=2*m+1:=by
 unfold lsL
 simp;omega
theorem e5S{m:Nat}(h1:1<=m)(h2:m<=16):a3G (lsL m)=true:=by
 unfold a3G
 rw [c6C h1,show(2*m+1)/2=m by omega];simp only [h0Y,decide_eq_true_eq];exact⟨by omega,by omega,by omega,trivial⟩
theorem d1A{op im:Int}{k:List Int} :fH op im k≠3:=by
 unfold fH
 repeat' split
 all_goals omega
theorem a3K{e:Nat}{op im:Int}{k:List Int}(h:bQ e op im k=3):op=31/\a3G k=true:=by
 unfold bQ at h;split at h
 ·rename_i c;split at h
  ·rename_i d;exact⟨c,d.1⟩
  ·omega
 ·split at h
  ·split at h<;>omega
  ·split at h
   ·split at h
    ·split at h<;>omega
    ·omega
   ·exact absurd h d1A
theorem mH: ∀{l:List Nd}{j:Nat}{n:Nd},l[j]?=some n->(aG l).getD j 0=cC (l.take j) (aG (l.take j)) n:=by
 intro l j n h;obtain⟨g,rfl⟩:=h2B.1 h;have e:l.take (j+1)=l.take j++ [l[j]]:=h1J g;have h1:=gM (l.take j) l[j];rw [<-e]at h1;have h2:=sC (jZ (h5S (j+1) l)) (i:=j) (by rw [bD,h1Y];omega);rw [h2,h1,h1A,h1V (by rw [bD,h1Y];omega),bD,h1Y,show j-min j l.length=0 by omega];rfl
theorem a3L{l:List Nd}{q:Nat}(h:(aG l).getD q 0=3):(l.getD q default).ks.length%2=1:=by
 rcases h2D q l.length with c|c
 ·have g:=h0U c;rw [mH g]at h;unfold cC at h;split at h
  ·have:=sD (a3K h).2;rw [h1P]at this;rw [h1A,g];exact this.1
  ·omega
 ·rw [h1A,h2E (by rw [bD];exact c)]at h
  cases h
theorem oV{l:List Nd}{i q:Nat}(h:q<i):(l.take i).getD q default=l.getD q default:=by
 rw [h1A,h1A,h3L h]
theorem SIG.last{l:List Nd}{i j:Nat}{k:List Int}(h:SIG l i j k)(y:i<l.length)(z:l[i].ks.length<=j):
  cC (l.take i) (aG (l.take i)) l[i]=bQ (eK (l.take i) l[i]) l[i].op l[i].im k/\k.length=l[i].ks.length/\(∀q∈l[i].ks,0<=q/\q<i)/\(k=[3]->eK l l[i]%2=1/\eK (l.take i) l[i]=eK l l[i]):=by
 obtain⟨n,h1,h2,h3,h4⟩:=h;obtain rfl:l[i]=n:=by rw [h0U y]at h1;exact h1M h1
 rw [h1H z]at h3 h4;have g: ∀q∈l[i].ks,0<=q/\q<i:=fun q g=>by
  have:=qF (h2L.1 h3 q g);rw [bD,h1Y]at this;omega
 refine⟨?_,by rw [h4];simp,g,fun e=>?_⟩
 ·unfold cC
  rw [if_pos h3,h4]
 ·rw [e]at h4
  cases hk:l[i].ks with
  |nil=>rw [hk]at h4;cases h4
  |cons q r=>
   rw [hk,h2H,h2I]at h4;have A:=g q (by rw [hk];exact h2C);have m:=a3L h4.1.symm;have p:eK (l.take i) l[i]=((l.take i).getD q.toNat default).ks.length:=by unfold eK;rw [hk];rfl
   have u:eK l l[i]=(l.getD q.toNat default).ks.length:=by unfold eK;rw [hk];rfl
   rw [oV (by omega)]at m p;exact⟨by rw [u];exact m,by rw [p,u]⟩
theorem a3M{e g:Nat}{op im:Int}{k:List Int}(h:k=[3]->e=g):bQ e op im k=bQ g op im k:=by
 unfold bQ
 by_cases c:k=[3]
 ·rw [h c]
 ·simp [c]
theorem SIG.lst{l:List Nd}{i j:Nat}{k:List Int}(h:SIG l i j k)(g:i<l.length)(p:l[i].ks.length<=j):
  cC (l.take i) (aG (l.take i)) l[i]=bQ (eK l l[i]) l[i].op l[i].im k/\k.length=l[i].ks.length/\(∀q∈l[i].ks,0<=q/\q<l.length)/\(k=[3]->eK l l[i]%2=1):=by
 obtain⟨h1,h2,h3,h4⟩:=h.last g p;exact⟨h1.trans (a3M fun e=>(h4 e).2),h2,fun q m=>by have:=h3 q m;omega,fun e=>(h4 e).1⟩
theorem c0X{e:Nat}{op im:Int}{k:List Int}(g: ∀x∈k,1<=x/\x<=3):0<=bQ e op im k/\bQ e op im k<=3:=by
 unfold bQ
 repeat' split
 all_goals first|omega|exact d0Z g
theorem c0Y{p:List Nd}{g:List Int}{n:Nd}(h: ∀x∈g,0<=x/\x<=3):0<=cC p g n/\cC p g n<=3:=by
 unfold cC
 split
 ·rename_i j;refine c0X fun x r=>?_
  obtain⟨q,l,rfl⟩:=h4O.1 r;obtain⟨y,u,m⟩:=qF (h2L.1 j q l);have i:q.toNat<g.length:=by omega
  have e:g.getD q.toNat 0=g[q.toNat]:=by rw [h1A,h0U i];rfl
  have:=h _ (h1B i);rw [e]at m⊢;omega
 ·omega
theorem a3N: ∀(l p:List Nd)(g:List Int),(∀x∈g,0<=x/\x<=3)-> ∀x∈gL p g l,0<=x/\x<=3
 | [],p,g,h=>h
 |n::r,p,g,h=>by
  rw [gL];refine a3N r _ _ fun x i=>?_
  rcases h2S.1 i with i|i
  ·exact h x i
  ·rw [h2J.1 i];exact c0Y h
theorem a3O(l:List Nd): ∀x∈aG l,0<=x/\x<=3:=a3N l [] [] (fun x h=>by cases h)
theorem SIG.rng{l:List Nd}{i j:Nat}{k:List Int}(h:SIG l i j k): ∀x∈k,1<=x/\x<=3:=by
 obtain⟨n,h1,h2,h3,h4⟩:=h;intro x m;rw [h4]at m;obtain⟨q,p,rfl⟩:=h4O.1 m;obtain⟨y,u,r⟩:=qF (h2L.1 h3 q p);have g:q.toNat< (aG (l.take i)).length:=by omega
 have e:(aG (l.take i)).getD q.toNat 0=(aG (l.take i))[q.toNat]:=by rw [h1A,h0U g];rfl
 have:=a3O _ _ (h1B g);rw [e]at r⊢;omega
theorem zF{l:List Nd}{q:Nat}(h:(aG l).getD q 0=3):q<l.length/\3<=(l.getD q default).ks.length/\(l.getD q default).ks.length<=33:=by
 rcases h2D q l.length with c|c
 ·have g:=h0U c;rw [mH g]at h;unfold cC at h;split at h
  ·have:=sD (a3K h).2;rw [h1P]at this;rw [h1A,g];exact⟨c,this.2.1,this.2.2.1⟩
  ·omega
 ·rw [h1A,h2E (by rw [bD];exact c)]at h
  cases h
def a3P(op:Int)(s:List Int):Bool:=if op=31 then a3G s else if op=25 then decide (s=[3])else vC op s
def wZ(e:Nat)(op im:Int):Bool:=if op=25 then decide (0<=im/\2*im+3<=e)else lB op im
def a1I(op im:Int)(k:List Int):Int:=if op=31 then 3 else if op=25 then(if im=0 then 2 else 1)else svo op im k
theorem d1B{e:Nat}{op im:Int}{k:List Int}(g:op≠30)(i: ∀x∈k,1<=x/\x<=3)(j:k=[3]->e<=33):bQ e op im k=if a3P op k=true/\wZ e op im=true then a1I op im k else 0:=by
 unfold bQ a3P wZ a1I
 by_cases o31:op=31
 ·subst o31;simp
 by_cases o25:op=25
 ·subst o25;simp only [show¬ ((25:Int)=31) by decide,show¬ ((25:Int)=30) by decide,if_false,if_true]
  by_cases c:k=[3]
  ·have:=j c
   by_cases d:0<=im/\2*im+3<=(e:Int)
   ·rw [if_pos (show k=[3]/\0<=im/\im<=15/\2*im+3<=(e:Int)from⟨c,d.1,by omega,d.2⟩),if_pos (show decide (k=[3])=true/\decide (0<=im/\2*im+3<=(e:Int))=true from⟨by simp [c],by simp [d]⟩)]
   ·rw [if_neg (fun q=>d ⟨q.2.1,q.2.2.2⟩),if_neg (fun q=>d (by simpa using q.2))]
  ·rw [if_neg (fun q=>c q.1),if_neg (fun q=>c (by simpa using q.1))]
 rw [if_neg o31,if_neg g,if_neg o25,if_neg o31,if_neg o25,if_neg o25,if_neg o31,if_neg o25];exact d4T ⟨o25,g,o31⟩ i
inductive E where
 |mk (k n:Int) (nm:List UInt8) (op:Int) (ks:List E)
 deriving Inhabited
inductive S where
 |mk (k:Int) (nm to:List UInt8) (n:Int) (a v:E) (args:List E) (th el:List S)
 deriving Inhabited
mutual
def cE:E->List IV
 | .mk k n nm op ks=>[.int .i64 k,.int .i64 n,.str nm,.int .i64 op,.vslice none 0 ks.length 5 (aW ks)]
def aW:List E->List IV
 | []=>[]
 |e::r=>cE e++aW r
end
mutual
def cS:S->List IV
 | .mk k nm to n a v args th el=>[.int .i64 k,.str nm,.str to,.int .i64 n]++cE a++cE v++ [.vslice none 0 args.length 5 (aW args),.vslice none 0 th.length 17 (aX th),.vslice none 0 el.length 17 (aX el)]
def aX:List S->List IV
 | []=>[]
 |s::r=>cS s++aX r
end
def E.k:E->Int| .mk k _ _ _ _=>k
def E.n:E->Int| .mk _ n _ _ _=>n
def E.nm:E->List UInt8| .mk _ _ nm _ _=>nm
def E.op:E->Int| .mk _ _ _ op _=>op
def E.ks:E->List E| .mk _ _ _ _ ks=>ks
def e0:E:= .mk 0 0 [] 0 []
theorem b0X(e:E):(cE e).length=5:=by cases e;rfl
theorem c0Z(s:S):(cS s).length=17:=by
 cases s
 simp only [cS,h1E,h1O,h1U,b0X]
theorem a3Q: ∀(a b:List S),aX (a++b)=aX a++aX b
 | [],b=>rfl
 |x::a,b=>by simp only [h3E,aX,a3Q a b,h2V]
theorem zG: ∀{ks:List E}{i j:Nat}(h:i<ks.length),j<5->(aW ks)[i*5+j]?=(cE ks[i])[j]?
 |t::r,0,j,h,hj=>by
  rw [aW,h5K,h1Q,h1Z (by rw [b0X];exact hj)];rfl
 |x::r,i+1,j,h,hj=>by
  rw [aW,h1V (by rw [b0X];omega),b0X,show(i+1)*5+j-5=i*5+j by omega];exact zG (ks:=r) (by simpa using h) hj
theorem zH: ∀{ks:List S}{i j:Nat}(h:i<ks.length),j<17->(aX ks)[i*17+j]?=(cS ks[i])[j]?
 |t::r,0,j,h,hj=>by
  rw [aX,h5K,h1Q,h1Z (by rw [c0Z];exact hj)];rfl
 |x::r,i+1,j,h,hj=>by
  rw [aX,h1V (by rw [c0Z];omega),c0Z,show(i+1)*17+j-17=i*17+j by omega];exact zH (ks:=r) (by simpa using h) hj
theorem ldE{ks:List E}{i o:Nat}{K:Int->Int->List UInt8->Int->Option Nat->Nat->Nat->List IV->Prop}(h:i<ks.length)(u:o=i*5)
  (hk:K ks[i].k ks[i].n ks[i].nm ks[i].op none 0 ks[i].ks.length (aW ks[i].ks)):
  aK .i64 (aW ks) o fun a=>aK .i64 (aW ks) (o+1) fun b=>bZ (aW ks) (o+1+1) fun c=>aK .i64 (aW ks) (o+1+1+1) fun d=>bH 5 (aW ks) (o+1+1+1+1) fun p q r s=>K a b c d p q r s:=by
 subst u;have e0:=zG (j:=0) h (by omega);have m:=zG (j:=1) h (by omega);have y:=zG (j:=2) h (by omega);have g:=zG (j:=3) h (by omega);have l:=zG (j:=4) h (by omega);generalize ks[i]=t at*
 cases t
 unfold aK bZ bH
 simp only [h6U]at e0;simp only [h5D,Nat.reduceAdd,e0,m,y,g,l];exact hk
mutual
theorem xF: ∀e:E,aN (cE e)=true
 | .mk k n nm op ks=>by simp only [cE,aN,bL,bW ks,h1L]
theorem bW: ∀ks:List E,aN (aW ks)=true
 | []=>rfl
 |t::r=>by simp only [aW,bG,xF t,bW r,h1L]
end
mutual
theorem d4U: ∀s:S,aN (cS s)=true
 | .mk k nm to n a v args th el=>by simp only [cS,aN,bL,bG,xF,bW,bP th,bP el,h1L]
theorem bP: ∀ks:List S,aN (aX ks)=true
 | []=>rfl
 |t::r=>by simp only [aX,bG,d4U t,bP r,h1L]
end
def bN(f:Int):List (List UInt8):=if f=0 then [[120],[121],[105],[106]]else [[110],[105]]
def oW:List (List UInt8):=[[97],[98]]
def a6Y(f k n:Int)(nm:List UInt8)(op:Int)(m:Nat):Prop:=
 (k=1/\nm=[]/\op=0/\m=0/\bR n) \/ (k=2/\n=0/\op=0/\m=0/\nm∈bN f) \/ (k=3/\n=0/\op=0/\m=1/\nm∈oW) \/
 (k=4/\n=0/\nm=[]/\((m=2/\4<=op/\op<=18) \/ (m=1/\20<=op/\op<=21))) \/ (k=5/\n=0/\nm=[]/\op=0/\m=3)
mutual
def E.wf(f:Int):E->Prop
 | .mk k n nm op ks=>a6Y f k n nm op ks.length/\Es.wf f ks
def Es.wf(f:Int):List E->Prop
 | []=>True
 |e::r=>e.wf f/\Es.wf f r
end
mutual
def E.dp:E->Nat
 | .mk _ _ _ _ ks=>Es.dp ks
def Es.dp:List E->Nat
 | []=>0
 |e::r=>max (1+e.dp) (Es.dp r)
end
mutual
def E.cost:E->Nat
 | .mk k _ _ _ ks=>(if k=2\/k=0 then 0 else 4)+Es.cost ks
def Es.cost:List E->Nat
 | []=>0
 |e::r=>e.cost+Es.cost r
end
def lC(f k:Int)(nm i:List UInt8)(n:Int)(a v:E)(g:List E)(l j:List S):Prop:=
 (k=1/\nm∈bN f/\i=[]/\n=0/\a=e0/\v.wf f/\g=[]/\l=[]/\j=[]) \/
 (k=2/\nm∈oW/\i=[]/\n=0/\a.wf f/\v.wf f/\g=[]/\l=[]/\j=[]) \/
 (k=3/\nm=[]/\i=[]/\n=0/\a=e0/\v.wf f/\g=[]) \/
 (k=4/\nm=[]/\i=[]/\n=0/\a=e0/\v.wf f/\g=[]/\j=[]) \/
 (k=5/\nm=[]/\i=[]/\n=0/\a=e0/\v.wf f/\g=[]/\l=[]/\j=[]) \/
 (k=6/\nm∈bN f/\((i=[102]/\g.length=2) \/ (i=[103]/\g.length=1))/\n=0/\a=e0/\v=e0/\Es.wf f g/\l=[]/\j=[]) \/
 (k=7/\nm=[]/\i=[]/\(0<=n/\n<1000)/\a=e0/\v=e0/\g=[]/\l=[]/\j=[])
mutual
def S.wf(f:Int):S->Prop
 | .mk k nm to n a v args th el=>lC f k nm to n a v args th el/\Ss.wf f th/\Ss.wf f el
def Ss.wf(f:Int):List S->Prop
 | []=>True
 |s::r=>s.wf f/\Ss.wf f r
end
mutual
def S.cnt:S->Nat
 | .mk _ _ _ _ _ _ _ th el=>1+Ss.cnt th+Ss.cnt el
def Ss.cnt:List S->Nat
 | []=>0
 |s::r=>s.cnt+Ss.cnt r
end
mutual
def S.whl:S->Nat
 | .mk k _ _ _ _ _ _ th el=>(if k=4 then 1 else 0)+Ss.whl th+Ss.whl el
def Ss.whl:List S->Nat
 | []=>0
 |s::r=>s.whl+Ss.whl r
end
mutual
def S.dp(d:Nat):S->Nat
 | .mk _ _ _ _ _ _ _ th el=>max d (max (Ss.dp (d+1) th) (Ss.dp (d+1) el))
def Ss.dp(d:Nat):List S->Nat
 | []=>0
 |s::r=>max (s.dp d) (Ss.dp d r)
end
mutual
def S.ed(m:Nat):S->Prop
 | .mk _ _ _ _ a v args th el=>(a.dp<=m/\v.dp<=m/\∀e∈args,e.dp<=m)/\Ss.ed m th/\Ss.ed m el
def Ss.ed(m:Nat):List S->Prop
 | []=>True
 |s::r=>s.ed m/\Ss.ed m r
end
mutual
def S.cost:S->Nat
 | .mk k _ _ _ a v args th el=>16+a.cost+2*v.cost+Es.cost args+Ss.cost th+Ss.cost el
def Ss.cost:List S->Nat
 | []=>0
 |s::r=>s.cost+Ss.cost r
end
theorem Es.wf_append{f:Int} : ∀{a b:List E},Es.wf f (a++b) ↔ Es.wf f a/\Es.wf f b
 | [],b=>by simp [Es.wf]
 |x::a,b=>by simp [Es.wf,Es.wf_append (a:=a),and_assoc]
theorem Es.cost_append: ∀{a b:List E},Es.cost (a++b)=Es.cost a+Es.cost b
 | [],b=>by simp [Es.cost]
 |x::a,b=>by simp [Es.cost,Es.cost_append (a:=a)];omega
theorem Ss.wf_append{f:Int} : ∀{a b:List S},Ss.wf f (a++b) ↔ Ss.wf f a/\Ss.wf f b
 | [],b=>by simp [Ss.wf]
 |x::a,b=>by simp [Ss.wf,Ss.wf_append (a:=a),and_assoc]
theorem Ss.cnt_append: ∀{a b:List S},Ss.cnt (a++b)=Ss.cnt a+Ss.cnt b
 | [],b=>by simp [Ss.cnt]
 |x::a,b=>by simp [Ss.cnt,Ss.cnt_append (a:=a)];omega
theorem Ss.whl_append: ∀{a b:List S},Ss.whl (a++b)=Ss.whl a+Ss.whl b
 | [],b=>by simp [Ss.whl]
 |x::a,b=>by simp [Ss.whl,Ss.whl_append (a:=a)];omega
theorem Ss.dp_append{d:Nat} : ∀{a b:List S},Ss.dp d (a++b)=max (Ss.dp d a) (Ss.dp d b)
 | [],b=>by simp [Ss.dp]
 |x::a,b=>by rw [h3E,Ss.dp,Ss.dp,Ss.dp_append (a:=a)];omega
theorem Ss.ed_append{m:Nat} : ∀{a b:List S},Ss.ed m (a++b) ↔ Ss.ed m a/\Ss.ed m b
 | [],b=>by simp [Ss.ed]
 |x::a,b=>by simp [Ss.ed,Ss.ed_append (a:=a),and_assoc]
theorem Ss.cost_append: ∀{a b:List S},Ss.cost (a++b)=Ss.cost a+Ss.cost b
 | [],b=>by simp [Ss.cost]
 |x::a,b=>by simp [Ss.cost,Ss.cost_append (a:=a)];omega
def RN(h:Heap)(id r:Nat)(w:Int):Prop:=id<h.next/\∃io e,∃l:List Int,(∀x∈l,bR x)/\l.length=r/\h.get id= .cells [.vslice io e l.length 1 (l.map (IV.int .i64)),.int .i64 w]
theorem RN.push{h:Heap}{id r:Nat}{w:Int}{x:IObj}(g:RN h id r w):RN (h.push x) id r w:=by
 obtain⟨h1,i,e,l,h2,h3,h4⟩:=g;exact⟨h1T h1,i,e,l,h2,h3,by rw [aJ h1];exact h4⟩
theorem RN.set{h:Heap}{id i r:Nat}{w:Int}{x:IObj}(g:RN h id r w)(j:i≠id):RN (h.set i x) id r w:=by
 obtain⟨h1,m,e,l,h2,h3,h4⟩:=g;exact⟨h1,m,e,l,h2,h3,by rw [aE (fun e=>j e.symm)];exact h4⟩
def GN(h:Heap)(id r:Nat)(w:Int)(h2:Heap):Prop:=RN h2 id r w/\HF id h h2
theorem GN.push{h h2:Heap}{id r:Nat}{w:Int}{x:IObj}(g:GN h id r w h2):GN h id r w (h2.push x):=⟨g.1.push,g.2.trans HF.push⟩
theorem GN.set{h h2:Heap}{id i r:Nat}{w:Int}{x:IObj}(g:GN h id r w h2)(u:h.next<=i)(m:i≠id):GN h id r w (h2.set i x):=
 ⟨g.1.set m,g.2.1,fun j p l=>by rw [aE (by omega)];exact g.2.2 j p l⟩
theorem GN.trans{h h1 h2:Heap}{id r i:Nat}{w j:Int}(g:GN h id r w h1)(k:GN h1 id i j h2):GN h id i j h2:=⟨k.1,g.2.trans k.2⟩
def gY(f:Int)(d r g:Nat)(e:E):Prop:=e.wf f/\e.dp<=d/\g<=r/\e.cost<=4*(r-g)
def mV(f:Int)(d r g:Nat)(ks:List E):Prop:=Es.wf f ks/\Es.dp ks<=d+1/\g<=r/\Es.cost ks<=4*(r-g)
theorem mV.nil{f:Int}{d r:Nat} :mV f d r r []:=⟨trivial,by simp [Es.dp],h1D _,by simp [Es.cost]⟩
theorem Es.dp_append: ∀{a b:List E},Es.dp (a++b)=max (Es.dp a) (Es.dp b)
 | [],b=>by simp [Es.dp]
 |x::a,b=>by rw [h3E,Es.dp,Es.dp,Es.dp_append (a:=a)];omega
theorem mV.snoc{f:Int}{d r r1 g:Nat}{ks:List E}{e:E}(a:mV f d r r1 ks)(b:gY f d r1 g e):mV f d r g (ks++ [e]):=by
 obtain⟨j,u,l,p⟩:=a;obtain⟨i,z,m,y⟩:=b;refine⟨Es.wf_append.2 ⟨j,i,trivial⟩,?_,by omega,?_⟩
 ·rw [Es.dp_append];simp only [Es.dp];omega
 ·rw [Es.cost_append];simp only [Es.cost];omega
theorem gY.node{f k n op:Int}{nm:List UInt8}{d r g:Nat}{ks:List E}(a:mV f d r g ks)(h:a6Y f k n nm op ks.length):gY f (d+1) (r+1) g (.mk k n nm op ks):=by
 obtain⟨i,j,l,m⟩:=a;refine⟨⟨h,i⟩,j,by omega,?_⟩;rw [E.cost];split<;>omega
theorem a3R{l:List (List UInt8)}{o:Nat}{K:List UInt8->Prop}(h:o<l.length)(g: ∀s∈l,K s):bZ (l.map IV.str) o K:=by
 unfold bZ
 rw [h2A,h0U h];exact g _ (h1B h)
theorem f2W{l:List Int}{o:Nat}{K:Int->Prop}(h:o<l.length)(g: ∀s∈l,K s):aK .i64 (l.map (IV.int .i64)) o K:=by
 unfold aK
 rw [h2A,h0U h];simpa using g _ (h1B h)
def fQ(f:Int)(d r g:Nat)(w i:Int)(l:List S):Prop:=Ss.wf f l/\Ss.cost l<=16*(r-g)/\Ss.cnt l<=r-g/\(i=w+Ss.whl l/\i<=10)/\Ss.dp d l<=4/\Ss.ed 5 l/\g<=r
def xG(f:Int)(d r g:Nat)(w i:Int)(s:S):Prop:=fQ f d r g w i [s]
theorem fQ.nil{f w:Int}{d r:Nat}(h:w<=10):fQ f d r r w w []:=⟨trivial,by simp [Ss.cost],by simp [Ss.cnt],⟨by simp [Ss.whl],h⟩,by simp [Ss.dp],trivial,h1D _⟩
theorem fQ.mono{f w i:Int}{d r r1 g:Nat}{l:List S}(a:fQ f d r1 g w i l)(h:r1<=r):fQ f d r g w i l:=by
 obtain⟨u,A,y,p,m,j,z⟩:=a;exact⟨u,by omega,by omega,p,m,j,by omega⟩
theorem fQ.snoc{f w i j:Int}{d r r1 g:Nat}{l:List S}{s:S}(a:fQ f d r r1 w i l)(b:xG f d r1 g i j s):fQ f d r g w j (l++ [s]):=by
 obtain⟨y,V,A,T,O,p,G⟩:=a;obtain⟨u,X,K,m,D,z,L⟩:=b;refine⟨Ss.wf_append.2 ⟨y,u⟩,?_,?_,⟨?_,m.2⟩,?_,Ss.ed_append.2 ⟨p,z⟩,by omega⟩
 ·rw [Ss.cost_append];omega
 ·rw [Ss.cnt_append];omega
 ·rw [Ss.whl_append];omega
 ·rw [Ss.dp_append];omega
theorem xG.node{f k n w wa wb u:Int}{nm m:List UInt8}{d r r0 r1 p l:Nat}{a v:E}{g:List E}{i j:List S}(h:lC f k nm m n a v g i j)
  (hd:d<=4) (he:a.dp<=5/\v.dp<=5/\∀e∈g,e.dp<=5) (hr:r0+1<=r/\r1<=r0) (hc:a.cost+v.cost+Es.cost g<=4*(r0-r1))
  (ht:fQ f (d+1) r1 p wa wb i) (hl:fQ f (d+1) p l wb u j) (hw:wa=w+(if k=4 then 1 else 0)):xG f d r l w u (.mk k nm m n a v g i j):=by
 obtain⟨y,O,K,a4,Z,A,X⟩:=ht;obtain⟨D,T,L,G,V,z,Y⟩:=hl;refine⟨⟨⟨h,y,D⟩,trivial⟩,?_,?_,⟨?_,G.2⟩,?_,⟨⟨he,A,z⟩,trivial⟩,by omega⟩
 ·simp only [Ss.cost,S.cost];omega
 ·simp only [Ss.cnt,S.cnt];omega
 ·simp only [Ss.whl,S.whl]
  by_cases q:k=4
  ·simp only [q,if_true]at hw⊢;omega
  ·simp only [q,if_false]at hw⊢;omega
 ·simp only [Ss.dp,S.dp];omega
theorem g0Y:e0.dp=0:=by simp [e0,E.dp,Es.dp]
theorem e5T:e0.cost=0:=by simp [e0,E.cost,Es.cost]
theorem hZ{cs:List IV}{g:Nat}{K:List UInt8->Prop}{b:List UInt8}(e:cs[g]?=some (.str b))(i:K b):bZ cs g K:=by
 unfold bZ;rw [e];exact i
theorem g0Z{cs:List IV}{g:Nat}{K:Bool->Prop}{b:Bool}(e:cs[g]?=some (.bool b))(i:K b):iS cs g K:=by
 unfold iS;rw [e];exact i
theorem bV{k:IntKind}{cs:List IV}{g:Nat}{K:Int->Prop}{n:Int}(e:cs[g]?=some (.int k n))(i:K n):aK k cs g K:=by
 unfold aK;rw [e];simpa using i
theorem dY{sz:Nat}{cs:List IV}{g:Nat}{K:Option Nat->Nat->Nat->List IV->Prop}{i:Option Nat}{a n:Nat}{c:List IV}(e:cs[g]?=some (.vslice i a n sz c))(j:K i a n c):bH sz cs g K:=by
 unfold bH;rw [e];simpa using j
theorem g5M{a b:Prop}[Decidable a][Decidable b](h:a/\b):(decide a&&decide b)=true:=by
 rw [h0Y,decide_eq_true_eq,decide_eq_true_eq];exact h
theorem brT{p:Prop}[Decidable p]{A B:Prop}(h:p)(a:A):aM (decide p) A B:=aD (fun _=>a) (fun c=>absurd h (of_decide_eq_false c))
theorem nG{p:Prop}[Decidable p]{A B:Prop}(h: ¬p)(b:B):aM (decide p) A B:=aD (fun c=>absurd (of_decide_eq_true c) h) (fun _=>b)
theorem dW{p:Prop}[Decidable p]{A B:Prop}(a:p->A)(b: ¬p->B):aM (decide p) A B:=aD (fun c=>a (of_decide_eq_true c)) (fun c=>b (of_decide_eq_false c))
theorem aP{p q:Prop}[Decidable p][Decidable q]{A:Prop}(h:p/\q)(a:A):aC (decide p&&decide q) A:=aA (g5M h) a
theorem RN.wl{h:Heap}{id r:Nat}{w:Int}{i:Option Nat}{e:Nat}{l:List Int}(g:id<h.next)(j: ∀x∈l,bR x)(m:l.length=r){x:Int}(p:x=w):RN (h.set id (.cells [.vslice i e l.length 1 (l.map (IV.int .i64)),.int .i64 x])) id r w:=
 ⟨g,i,e,l,j,m,by rw [aH,p]⟩
def c1A(g i:Int):List IV:=[.str [97],.int .i64 g,.str [98],.int .i64 i]
def fnC(g:List S)(j:E)(i:List S)(l:E):List IV:=
 [.str [102],.vslice none 1 2 1 [.str [120],.str [121]],.vslice none 1 2 1 [.str [105],.str [106]],.vslice none 0 g.length 17 (aX g)]++cE j++
 [.str [103],.vslice none 1 1 1 [.str [110]],.vslice none 1 1 1 [.str [105]],.vslice none 0 i.length 17 (aX i)]++cE l
structure GB(f:Int)(b:List S)(v:E):Prop where
 wf:Ss.wf f b
 cost:Ss.cost b+v.cost<=1000
 cnt:Ss.cnt b<=60
 whl:Ss.whl b<=10
 dp:Ss.dp 0 b<=4
 ed:Ss.ed 5 b
 vw:v.wf f
 vd:v.dp<=5
def PP(g i:Int)(j:List S)(p:E)(m:List S)(l:E):Prop:=(1<=g/\g<=4/\1<=i/\i<=4)/\GB 0 j p/\GB 1 m l
mutual
theorem S.dp_mono{d:Nat} : ∀s:S,s.dp d<=s.dp (d+1)
 | .mk _ _ _ _ _ _ _ th el=>by
  have:=Ss.dp_mono (d:=d+1) th;have:=Ss.dp_mono (d:=d+1) el;simp only [S.dp];omega
theorem Ss.dp_mono{d:Nat} : ∀l:List S,Ss.dp d l<=Ss.dp (d+1) l
 | []=>h1D _
 |s::r=>by
  have:=S.dp_mono (d:=d) s;have:=Ss.dp_mono (d:=d) r;simp only [Ss.dp];omega
end
theorem GB.mk0{f w y:Int}{r r1 g:Nat}{b:List S}{v:E}(l:fQ f 0 r r1 w y b)(i:gY f 3 r1 g v)(K:r<=60)(G:0<=w):GB f b v:=by
 obtain⟨u,O,z,L,p,j,A⟩:=l;obtain⟨m,V,D,T⟩:=i;exact⟨u,by omega,by omega,by omega,p,j,m,by omega⟩
theorem fQ.dp0{f w g:Int}{r r1:Nat}{b:List S}(h:fQ f 1 r r1 w g b):fQ f 0 r r1 w g b:=by
 obtain⟨u,y,i,p,m,l,j⟩:=h;exact⟨u,y,i,p,h2F (Ss.dp_mono _) m,l,j⟩
theorem PP.pure{g p:Int}{i l:List S}{m j:E}(h:PP g p i m l j):aN [.agg [.vslice none 0 2 2 (c1A g p),.vslice none 0 2 9 (fnC i m l j)]]=true:=by
 simp only [aN,bL,c1A,fnC,bG,xF,bP,h1L]
def SK(g:List Nd)(s k:Int):Prop:=0<=k/\k<g.length/\(aG g).getD k.toNat 0=s
theorem SK.mono{g j:List Nd}{k s:Int}(h:SK g s k)(i:g<+:j):SK j s k:=by
 obtain⟨h1,h2,h3⟩:=h;refine⟨h1,Int.lt_of_lt_of_le h2 (by have:=i.length_le;omega),?_⟩;rw [sC (jZ i) (by rw [bD];omega),h3]
def oI(g:List Nd):List Int->List Int->Prop
 | [],[]=>True
 |k::ks,s::ss=>(SK g s k/\s≠0)/\oI g ks ss
 |_,_=>False
theorem oI.map{g:List Nd} : ∀{ks ss:List Int},oI g ks ss->ks.all (dL (aG g))=true/\ks.map (fun q=>(aG g).getD q.toNat 0)=ss/\∀k∈ks,0<=k/\k<g.length
 | [],[],_=>⟨rfl,rfl,fun k h=>by cases h⟩
 |k::ks,s::ss,h=>by
  obtain⟨⟨⟨h1,h2,h3⟩,h4⟩,j⟩:=h;obtain⟨m,l,p⟩:=oI.map j;refine⟨?_,?_,?_⟩
  ·rw [h5T,m,h1L];unfold dL
   simp only [h0Y,decide_eq_true_eq];exact⟨h1,by rw [bD];exact h2,by rw [h3];exact h4⟩
  ·rw [h2H,l,h3]
  ·intro q i;rcases h2O.1 i with rfl|i
   ·exact⟨h1,h2⟩
   ·exact p q i
 | [],_::_,h=>h.elim
 |_::_,[],h=>h.elim
theorem oI.mono{g j:List Nd}(i:g<+:j): ∀{ks ss:List Int},oI g ks ss->oI j ks ss
 | [],[],_=>trivial
 |k::ks,s::ss,h=>⟨⟨h.1.1.mono i,h.1.2⟩,oI.mono i h.2⟩
 | [],_::_,h=>h.elim
 |_::_,[],h=>h.elim
theorem oI.append{i:List Nd} : ∀{ks ss j l:List Int},oI i ks ss->oI i j l->oI i (ks++j) (ss++l)
 | [],[],_,_,_,h=>h
 |k::ks,s::ss,_,_,h,g=>⟨h.1,oI.append h.2 g⟩
 | [],_::_,_,_,h,_=>h.elim
 |_::_,[],_,_,h,_=>h.elim
theorem oI.one{g:List Nd}{k s:Int}(h:SK g s k)(i:s≠0):oI g [k] [s]:=⟨⟨h,i⟩,trivial⟩
theorem oI.len{g:List Nd} : ∀{ks ss:List Int},oI g ks ss->ks.length=ss.length
 | [],[],_=>rfl
 |k::ks,s::ss,h=>by simp [oI.len h.2]
 | [],_::_,h=>h.elim
 |_::_,[],h=>h.elim
def AV(g:List Nd)(vs:List Int):Prop:= ∀v∈vs,SK g 1 v
theorem AV.sks{g:List Nd} : ∀{vs:List Int},AV g vs->oI g vs (List.replicate vs.length 1)
 | [],_=>trivial
 |v::vs,h=>⟨⟨h v h2C,by decide⟩,AV.sks fun x i=>h x (h2N _ i)⟩
theorem AV.mono{g i:List Nd}{vs:List Int}(h:AV g vs)(l:g<+:i):AV i vs:=fun v j=>(h v j).mono l
theorem AV.set{g:List Nd}{vs:List Int}{i:Nat}{v:Int}(h:AV g vs)(j:SK g 1 v):AV g (vs.set i v):=fun x l=>by
 rcases List.mem_or_eq_of_mem_set l with q|rfl
 ·exact h x q
 ·exact j
theorem fL{g:List Nd}{op im:Int}{ks ss:List Int}(h:oI g ks ss):cC g (aG g) ⟨op,im,ks⟩=bQ (eK g ⟨op,im,ks⟩) op im ss:=by
 obtain⟨h1,h2,_⟩:=h.map;unfold cC
 rw [if_pos h1,h2]
theorem c1B{g i:List Nd}{n:Nd}(l:g<+:i)(h:cC g (aG g) n≠0):cC i (aG i) n=cC g (aG g) n:=by
 unfold cC at h⊢
 by_cases c:n.ks.all (dL (aG g))=true
 ·rw [if_pos c]at h⊢;have e: ∀q∈n.ks,(aG i).getD q.toNat 0=(aG g).getD q.toNat 0/\0<=q/\q<g.length:=fun q j=>by
   have:=qF (h2L.1 c q j);rw [bD]at this;exact⟨sC (jZ l) (by rw [bD];omega),this.1,this.2.1⟩
  have D:=l.length_le;rw [if_pos]
  ·have m:n.ks.map (fun q=>(aG i).getD q.toNat 0)=n.ks.map (fun q=>(aG g).getD q.toNat 0):=h5B fun q j=>(e q j).1
   rw [m]
   by_cases z:n.ks=[]
   ·rw [z];rw [z]at h
    by_cases o:n.op=25
    ·exfalso;apply h;unfold bQ
     rw [if_neg (by omega),if_neg (by omega),if_pos o,if_neg (by intro x;exact absurd x.1 (by simp))]
    ·unfold bQ
     split
     ·rfl
     split
     ·rfl
     rfl
   ·have p:eK i n=eK g n:=by
     unfold eK
     obtain⟨a,r,u⟩:=List.exists_cons_of_ne_nil z;have A:=e a (by rw [u];exact h2C);rw [u];show(i.getD a.toNat default).ks.length=(g.getD a.toNat default).ks.length;obtain⟨t,rfl⟩:=l;simp only [h1A];rw [h1Z (by omega)]
    rw [p]
  ·refine h2L.2 fun q j=>?_
   have h1:=qF (h2L.1 c q j);obtain⟨y,m,p⟩:=e q j;unfold dL
   simp only [h0Y,decide_eq_true_eq];rw [bD,y];exact⟨m,by omega,h1.2.2⟩
 ·rw [if_neg c]at h;exact absurd rfl h
structure GL(ns:List Nd)(lo:Int):Prop where
 ok: ∀n∈ns,okN n/\n.ks.length<=40
 wf: ∀s∈aG ns,s≠0
 lv: ∀n∈ns,n.op=3->n.im<16*lo
 ln: ∀n∈ns,n.op=31->n.im<lo
 lu: ∀(i j:Nat)(n m:Nd),ns[i]?=some n->ns[j]?=some m->n.op=31->m.op=31->n.im=m.im->i=j
 lf: ∀(i:Nat)(n:Nd),ns[i]?=some n->n.op=31-> ∀j:Nat,1<=j->j<n.ks.length/2-> ∀(i2:Nat)(n2:Nd),ns[i2]?=some n2->n2.op=3->n2.im=16*n.im+j->n.ks.getD j 0<i2
structure GX(ns ms:List Nd)(lo lo2:Int):Prop where
 pre:ns<+:ms
 le:lo<=lo2
 nw: ∀(i:Nat)(n:Nd),ms[i]?=some n->ns.length<=i->(n.op=3->16*lo<=n.im)/\(n.op=31->lo<=n.im)
theorem GX.refl{g:List Nd}{j:Int} :GX g g j j:=⟨h4F _,h3P _,fun i n h l=>by
 rw [h2E l]at h;cases h⟩
theorem GX.trans{a b c:List Nd}{x y z:Int}(h:GX a b x y)(g:GX b c y z):GX a c x z:=⟨h.pre.trans g.pre,Int.le_trans h.le g.le,fun i n e j=>by
 rcases h2D i b.length with q|q
 ·refine h.nw i n ?_ j;rw [<-e];obtain⟨t,rfl⟩:=g.pre;rw [h1Z q]
 ·have:=g.nw i n e q;have l:=h.le;exact⟨fun o=>by have:=this.1 o;omega,fun o=>by have:=this.2 o;omega⟩⟩
theorem iN{a b:List Nd}(h:a<+:b){i:Nat}{n:Nd}(e:a[i]?=some n):b[i]?=some n:=by
 obtain⟨t,rfl⟩:=h;rw [h1Z (h2B.1 e).1];exact e
theorem c6D{n:Nd} : ∀{l:List Nd}{i j:Nat},a1G n l i=some j->i<=j/\l[j-i]?=some n
 | [],i,j,h=>by cases h
 |x::l,i,j,h=>by
  unfold a1G at h;split at h
  ·rename_i e
   cases h
   exact⟨h1D _,by rw [h6E,e];rfl⟩
  ·obtain⟨h1,h2⟩:=c6D h;exact⟨by omega,by rw [show j-i=j- (i+1)+1 by omega,h4A];exact h2⟩
theorem c6E{n:Nd} : ∀{l:List Nd}{i:Nat},a1G n l i=none->n∉l
 | [],i,h,hm=>by cases hm
 |x::l,i,h,hm=>by
  unfold a1G at h;split at h
  ·cases h
  ·rename_i e;rcases h2O.1 hm with q|q
   ·exact e q
   ·exact c6E h q
theorem a3S(g:List Nd)(n:Nd):(∃i:Nat,g[i]?=some n/\fY g n=(g,(i:Int))) \/ (n∉g/\fY g n=(g++ [n],(g.length:Int))):=by
 unfold fY
 cases h:a1G n g 0 with
 |some i=>exact .inl ⟨i,(c6D h).2,rfl⟩
 |none=>exact .inr ⟨c6E h,rfl⟩
theorem e8Y{g:List Nd}(h: ∀s∈aG g,s≠0){i:Nat}{n:Nd}(e:g[i]?=some n):cC g (aG g) n=(aG g).getD i 0:=by
 rw [mH e];refine c1B (h5S i g) ?_;rw [<-mH e];have j:i< (aG g).length:=by rw [bD];exact(h2B.1 e).1
 rw [h1A,h0U j];exact h _ (h1B j)
theorem xH{g:List Nd}{n m:Nd}{i:Nat}(h:(g++ [n])[i]?=some m):g[i]?=some m\/ (i=g.length/\m=n):=by
 rcases h2D i g.length with q|q
 ·exact .inl (by rw [h1Z q]at h;exact h)
 ·rw [h1V q]at h;have:i-g.length=0:=by
   rcases h6C (i-g.length)with z|z
   ·exact z
   ·rw [h2E (show [n].length<=i-g.length from z)]at h;cases h
  rw [this]at h;exact .inr ⟨by omega,by simpa using h.symm⟩
theorem GL.put{p:List Nd}{T:Int}{n:Nd}{s:Int}(g:GL p T)(hn:okN n/\n.ks.length<=40)(X:cC p (aG p) n=s)(h0:s≠0)(h3:n.op=3->0<=n.im/\n.im<16*T)
  (h3':n.op=3-> ∀(i:Nat)(m:Nd),p[i]?=some m->m.op=31->m.im≠n.im/16) (h31:n.op=31->n.im<T/\(∀m∈p,m.op=31->m.im≠n.im)/\
   ∀j:Nat,1<=j->j<n.ks.length/2-> ∀(G:Nat)(n2:Nd),p[G]?=some n2->n2.op=3->n2.im=16*n.im+j->n.ks.getD j 0<G):
  GL (fY p n).1 T/\SK (fY p n).1 s (fY p n).2/\p<+:(fY p n).1/\(fY p n).1.length<=p.length+1/\(∀(i:Nat)(m:Nd),(fY p n).1[i]?=some m->p.length<=i->m=n):=by
 rcases a3S p n with⟨i,e,hp⟩| ⟨D,hp⟩
 ·rw [hp];have V:=(h2B.1 e).1;refine⟨g,⟨by simp,by simp;omega,?_⟩,h4F _,h4E _,fun j m h hl=>by rw [h2E hl]at h;cases h⟩;rw [<-X,e8Y g.wf e];simp
 ·rw [hp];have K:=gM p n;refine⟨⟨?_,?_,?_,?_,?_,?_⟩,⟨by simp,by simp;omega,?_⟩,h3Y _ _,by simp,fun j m h hl=>?_⟩
  ·intro m D;rcases h2S.1 D with q|q
   ·exact g.ok m q
   ·rw [h2J.1 q];exact hn
  ·intro t Z;dsimp only at Z;rw [K]at Z;rcases h2S.1 Z with q|q
   ·exact g.wf t q
   ·rw [h2J.1 q,X];exact h0
  ·intro m D o;rcases h2S.1 D with q|q
   ·exact g.lv m q o
   ·rw [h2J.1 q]at o⊢;exact(h3 o).2
  ·intro m D o;rcases h2S.1 D with q|q
   ·exact g.ln m q o
   ·rw [h2J.1 q]at o⊢;exact(h31 o).1
  ·intro i j a b ha Y r u l;rcases xH ha with qa| ⟨qa,ea⟩<;>rcases xH Y with z| ⟨z,O⟩
   ·exact g.lu i j a b qa z r u l
   ·rw [O]at u l;exact absurd l ((h31 u).2.1 a (h3C qa) r)
   ·rw [ea]at r l;exact absurd l.symm ((h31 r).2.1 b (h3C z) u)
   ·omega
  ·intro i a ha r j L A G b Y u l;rcases xH ha with qa| ⟨qa,ea⟩<;>rcases xH Y with z| ⟨z,O⟩
   ·exact g.lf i a qa r j L A G b z u l
   ·rw [O]at u l;exfalso;refine h3' u i a qa r ?_;have:(j:Int)<16\/16<=(j:Int):=by omega
    rcases this with hj|hj
    ·omega
    ·exfalso;have h2:=(g.ok a (h3C qa));have h4:=e8Y g.wf qa;have V:i< (aG p).length:=by rw [bD];exact(h2B.1 qa).1
     have y:(aG p).getD i 0≠0:=by
      rw [h1A,h0U V];exact g.wf _ (h1B V)
     rw [<-h4]at y;unfold cC at y;split at y
     ·unfold bQ at y;rw [if_pos r]at y;split at y
      ·rename_i c;have:=sD c.1;rw [h1P]at this;omega
      ·exact y rfl
     ·exact y rfl
   ·rw [ea]at r A l⊢;exact(h31 r).2.2 j L A G b z u l
   ·rw [ea]at r;rw [O]at u;omega
  ·dsimp only;rw [K,h0Z,h1A,h1V (by rw [bD];exact h1D _),bD,h6E,X];rfl
  ·rcases xH h with q| ⟨_,q⟩
   ·rw [h2E hl]at q;cases q
   ·exact q
def lD(p i:List IV):Prop:= ∃(g u:Int)(j:List S)(r:E)(m:List S)(l:E),p=c1A g u/\i=fnC j r m l
def qG(u r:List IV):Prop:= ∃(g p:Int)(i:List S)(m:E)(l:List S)(j:E),PP g p i m l j/\u=c1A g p/\r=fnC i m l j
theorem qG.q{i g:List IV}(h:qG i g):lD i g:=by
 obtain⟨j,u,l,r,p,m,y,h1,h2⟩:=h;exact⟨j,u,l,r,p,m,h1,h2⟩
theorem lD.pure{i g:List IV}(h:lD i g):aN i=true/\aN g=true:=by
 obtain⟨j,u,l,r,p,m,rfl,rfl⟩:=h;simp only [aN,bL,c1A,fnC,bG,xF,bP,h1L,and_self]
theorem bt{b:Bool}{A B:Prop}(h:b=true)(a:A):aM b A B:=by subst h;exact a
theorem bf{b:Bool}{A B:Prop}(h:b=false)(x:B):aM b A B:=by subst h;exact x
theorem bx{b:Bool}{A B:Prop}(a:A)(x:B):aM b A B:=by cases b;exact x;exact a
abbrev Bs:=List UInt8
def EW(f:Int):E->Prop
 | .mk _ _ _ _ ks=>ks.length<=3/\Es.wf f ks
theorem EW.of{f:Int} : ∀{e:E},e.wf f->EW f e
 | .mk k n nm op ks,h=>⟨by
  have:=h.1;unfold a6Y at this;omega,h.2⟩
theorem EW.e0{f:Int} :EW f e0:=⟨by simp,trivial⟩
theorem lC.ew{f k n:Int}{nm l:List UInt8}{a v:E}{g:List E}{i j:List S}(h:lC f k nm l n a v g i j):EW f a/\EW f v/\Es.wf f g:=by
 unfold lC at h;rcases h with h|h|h|h|h|h|h
 ·rw [h.2.2.2.2.1,h.2.2.2.2.2.2.1];exact⟨EW.e0,EW.of h.2.2.2.2.2.1,trivial⟩
 ·rw [h.2.2.2.2.2.2.1];exact⟨EW.of h.2.2.2.2.1,EW.of h.2.2.2.2.2.1,trivial⟩
 ·rw [h.2.2.2.2.1,h.2.2.2.2.2.2];exact⟨EW.e0,EW.of h.2.2.2.2.2.1,trivial⟩
 ·rw [h.2.2.2.2.1,h.2.2.2.2.2.2.1];exact⟨EW.e0,EW.of h.2.2.2.2.2.1,trivial⟩
 ·rw [h.2.2.2.2.1,h.2.2.2.2.2.2.1];exact⟨EW.e0,EW.of h.2.2.2.2.2.1,trivial⟩
 ·rw [h.2.2.2.2.1,h.2.2.2.2.2.1];exact⟨EW.e0,EW.e0,h.2.2.2.2.2.2.1⟩
 ·rw [h.2.2.2.2.1,h.2.2.2.2.2.1,h.2.2.2.2.2.2.1];exact⟨EW.e0,EW.e0,trivial⟩
def nH:List (List UInt8):=[[102],[103],[120],[121],[105],[106],[110],[97],[98]]
theorem fG{s:List UInt8}(h:decide (s∈nH)=true):s∈nH:=of_decide_eq_true h
theorem c6F{f:Int}{s:List UInt8}(h:s∈bN f):s∈nH:=by
 unfold bN at h;split at h
 ·simp only [h2O,h4G,or_false]at h;rcases h with rfl|rfl|rfl|rfl<;>decide
 ·simp only [h2O,h4G,or_false]at h;rcases h with rfl|rfl<;>decide
theorem d4V{s:List UInt8}(h:s∈oW):s∈nH:=by
 simp only [oW,h2O,h4G,or_false]at h;rcases h with rfl|rfl<;>decide
theorem xI(f:Int):(bN f).length<=1000:=by
 unfold bN
 split<;>simp
theorem lC.e{f k n:Int}{nm l:List UInt8}{a v:E}{g:List E}{i j:List S}(h:lC f k nm l n a v g i j):(a=e0\/a.wf f)/\(v=e0\/v.wf f)/\Es.wf f g:=by
 unfold lC at h;rcases h with h|h|h|h|h|h|h
 ·rw [h.2.2.2.2.2.2.1];exact⟨.inl h.2.2.2.2.1,.inr h.2.2.2.2.2.1,trivial⟩
 ·rw [h.2.2.2.2.2.2.1];exact⟨.inr h.2.2.2.2.1,.inr h.2.2.2.2.2.1,trivial⟩
 ·rw [h.2.2.2.2.2.2];exact⟨.inl h.2.2.2.2.1,.inr h.2.2.2.2.2.1,trivial⟩
 ·rw [h.2.2.2.2.2.2.1];exact⟨.inl h.2.2.2.2.1,.inr h.2.2.2.2.2.1,trivial⟩
 ·rw [h.2.2.2.2.2.2.1];exact⟨.inl h.2.2.2.2.1,.inr h.2.2.2.2.2.1,trivial⟩
 ·exact⟨.inl h.2.2.2.2.1,.inl h.2.2.2.2.2.1,h.2.2.2.2.2.2.1⟩
 ·rw [h.2.2.2.2.2.2.1];exact⟨.inl h.2.2.2.2.1,.inl h.2.2.2.2.2.1,trivial⟩
theorem lO{f k n:Int}{nm:List UInt8}{op:Int}{ks:List E}(h:E.mk k n nm op ks=e0\/E.wf f (E.mk k n nm op ks)):E.wf f (E.mk k n nm op ks) \/ (k=0/\ks=[]):=by
 rcases h with h|h
 ·obtain⟨h1,_,_,_,g⟩:=E.mk.inj (h:E.mk k n nm op ks=E.mk 0 0 [] 0 []);exact .inr ⟨h1,g⟩
 ·exact .inl h
theorem cI: ∀{l:List (List UInt8)},aN (l.map IV.str)=true
 | []=>rfl
 |_::r=>by simp only [h2H,aN,bL,h2G];exact cI
theorem lC.args2{f k n:Int}{nm l:List UInt8}{a v:E}{g:List E}{i j:List S}(h:lC f k nm l n a v g i j):g.length<=2:=by
 unfold lC at h;rcases h with h|h|h|h|h|h|h
 ·rw [h.2.2.2.2.2.2.1];simp
 ·rw [h.2.2.2.2.2.2.1];simp
 ·rw [h.2.2.2.2.2.2];simp
 ·rw [h.2.2.2.2.2.2.1];simp
 ·rw [h.2.2.2.2.2.2.1];simp
 ·rcases h.2.2.1 with q|q<;>omega
 ·rw [h.2.2.2.2.2.2.1];simp
theorem Es.dp_take{ks:List E}{i:Nat}(h:i<ks.length):Es.dp (ks.take (i+1))=max (Es.dp (ks.take i)) (1+ks[i].dp):=by
 rw [h1J h,Es.dp_append];simp only [Es.dp];omega
theorem Es.dp_le{ks:List E}(i:Nat):Es.dp (ks.take i)<=Es.dp ks:=by
 have h:=Es.dp_append (a:=ks.take i) (b:=ks.drop i);rw [h4R]at h;omega
theorem Es.dp_mem: ∀{ks:List E}{e:E},e∈ks->1+e.dp<=Es.dp ks
 |x::r,e,h=>by
  rcases h2O.1 h with rfl|h
  ·simp only [Es.dp];omega
  ·have:=Es.dp_mem h;simp only [Es.dp];omega
theorem Es.wf_mem{f:Int} : ∀{ks:List E}{e:E},Es.wf f ks->e∈ks->e.wf f
 |x::r,e,h,g=>by
  rcases h2O.1 g with rfl|g
  ·exact h.1
  ·exact Es.wf_mem h.2 g
theorem Ss.wf_mem{f:Int} : ∀{ks:List S}{e:S},Ss.wf f ks->e∈ks->e.wf f
 |x::r,e,h,g=>by
  rcases h2O.1 g with rfl|g
  ·exact h.1
  ·exact Ss.wf_mem h.2 g
theorem Ss.ed_mem{m:Nat} : ∀{ks:List S}{e:S},Ss.ed m ks->e∈ks->e.ed m
 |x::r,e,h,g=>by
  rcases h2O.1 g with rfl|g
  ·exact h.1
  ·exact Ss.ed_mem h.2 g
theorem Ss.cnt_mem: ∀{ks:List S}{e:S},e∈ks->e.cnt<=Ss.cnt ks
 |x::r,e,h=>by
  rcases h2O.1 h with rfl|h
  ·simp only [Ss.cnt];omega
  ·have:=Ss.cnt_mem h;simp only [Ss.cnt];omega
theorem Ss.dp_mem{d:Nat} : ∀{ks:List S}{e:S},e∈ks->e.dp d<=Ss.dp d ks
 |x::r,e,h=>by
  rcases h2O.1 h with rfl|h
  ·simp only [Ss.dp];omega
  ·have:=Ss.dp_mem (d:=d) h;simp only [Ss.dp];omega
theorem Ss.cnt_take{l:List S}{i:Nat}(h:i<l.length):Ss.cnt (l.take (i+1))=Ss.cnt (l.take i)+l[i].cnt:=by
 rw [h1J h,Ss.cnt_append];simp only [Ss.cnt];omega
theorem Ss.whl_take{l:List S}{i:Nat}(h:i<l.length):Ss.whl (l.take (i+1))=Ss.whl (l.take i)+l[i].whl:=by
 rw [h1J h,Ss.whl_append];simp only [Ss.whl];omega
theorem Ss.dp_take{d:Nat}{l:List S}{i:Nat}(h:i<l.length):Ss.dp d (l.take (i+1))=max (Ss.dp d (l.take i)) (l[i].dp d):=by
 rw [h1J h,Ss.dp_append];simp only [Ss.dp];omega
theorem Ss.cnt_le{l:List S}(i:Nat):Ss.cnt (l.take i)<=Ss.cnt l:=by
 have h:=Ss.cnt_append (a:=l.take i) (b:=l.drop i);rw [h4R]at h;omega
theorem Ss.dp_le{d:Nat}{l:List S}(i:Nat):Ss.dp d (l.take i)<=Ss.dp d l:=by
 have h:=Ss.dp_append (d:=d) (a:=l.take i) (b:=l.drop i);rw [h4R]at h;omega
mutual
theorem S.whl_cnt: ∀s:S,s.whl<=s.cnt
 | .mk k _ _ _ _ _ _ th el=>by
  have:=Ss.whl_cnt th;have:=Ss.whl_cnt el;simp only [S.whl,S.cnt];split<;>omega
theorem Ss.whl_cnt: ∀l:List S,Ss.whl l<=Ss.cnt l
 | []=>h1D _
 |s::r=>by
  have:=S.whl_cnt s;have:=Ss.whl_cnt r;simp only [Ss.whl,Ss.cnt];omega
end
theorem Ss.len_cnt: ∀l:List S,l.length<=Ss.cnt l
 | []=>h1D _
 | .mk _ _ _ _ _ _ _ _ _::r=>by
  have:=Ss.len_cnt r;simp only [h1O,Ss.cnt,S.cnt];omega
theorem b0Y{ks:List E}{i o:Nat}{K:Int->Int->List UInt8->Int->Option Nat->Nat->Nat->List IV->Prop}(h:i<ks.length)(g:o=i*5)
  (hk: ∀(k n:Int)(nm:List UInt8)(op:Int)(q:List E),ks[i]= .mk k n nm op q->K k n nm op none 0 q.length (aW q)):
  aK .i64 (aW ks) o fun a=>aK .i64 (aW ks) (o+1) fun b=>bZ (aW ks) (o+1+1) fun c=>aK .i64 (aW ks) (o+1+1+1) fun d=>bH 5 (aW ks) (o+1+1+1+1) fun p q r s=>K a b c d p q r s:=by
 refine ldE h g ?_;generalize he:ks[i]=t at*
 cases t with
 |mk k n nm op q=>exact hk k n nm op q rfl
theorem e5U{l:List S}{i o:Nat}{K:Int->List UInt8->List UInt8->Int->Int->Int->List UInt8->Int->Option Nat->Nat->Nat->List IV->Int->Int->List UInt8->Int->Option Nat->Nat->Nat->List IV->Option Nat->Nat->Nat->List IV->Option Nat->Nat->Nat->List IV->Option Nat->Nat->Nat->List IV->Prop}
  (h:i<l.length) (ho:o=i*17)
  (hk: ∀(k:Int)(nm G:List UInt8)(n L O:Int)(y:List UInt8)(u:Int)(A:List E)(D T:Int)(p:List UInt8)(r:Int)(z m:List E)(V X:List S),l[i]= .mk k nm G n (.mk L O y u A) (.mk D T p r z) m V X->
   K k nm G n L O y u none 0 A.length (aW A) D T p r none 0 z.length (aW z) none 0 m.length (aW m) none 0 V.length (aX V) none 0 X.length (aX X)):
  aK .i64 (aX l) o fun k=>bZ (aX l) (o+1) fun nm=>bZ (aX l) (o+1+1) fun G=>aK .i64 (aX l) (o+1+1+1) fun n=>
  aK .i64 (aX l) (o+1+1+1+1) fun L=>aK .i64 (aX l) (o+1+1+1+1+1) fun O=>bZ (aX l) (o+1+1+1+1+1+1) fun y=>aK .i64 (aX l) (o+1+1+1+1+1+1+1) fun u=>bH 5 (aX l) (o+1+1+1+1+1+1+1+1) fun p1 q1 r1 s1=>
  aK .i64 (aX l) (o+1+1+1+1+1+1+1+1+1) fun D=>aK .i64 (aX l) (o+1+1+1+1+1+1+1+1+1+1) fun T=>bZ (aX l) (o+1+1+1+1+1+1+1+1+1+1+1) fun p=>aK .i64 (aX l) (o+1+1+1+1+1+1+1+1+1+1+1+1) fun r=>bH 5 (aX l) (o+1+1+1+1+1+1+1+1+1+1+1+1+1) fun p2 q2 r2 Z=>
  bH 5 (aX l) (o+1+1+1+1+1+1+1+1+1+1+1+1+1+1) fun p3 q3 r3 s3=>bH 17 (aX l) (o+1+1+1+1+1+1+1+1+1+1+1+1+1+1+1) fun p4 q4 r4 s4=>bH 17 (aX l) (o+1+1+1+1+1+1+1+1+1+1+1+1+1+1+1+1) fun Y q5 r5 s5=>
  K k nm G n L O y u p1 q1 r1 s1 D T p r p2 q2 r2 Z p3 q3 r3 s3 p4 q4 r4 s4 Y q5 r5 s5:=by
 subst ho;have g:=fun j (hj:j<17)=>zH (j:=j) h hj
 generalize l[i]=t at*
 cases t with
 |mk k nm G n a v m V X=>
  cases a with
  |mk L O y u A=>
   cases v with
   |mk D T p r z=>
    exact bV (g 0 (by decide)) (hZ (g 1 (by decide)) (hZ (g 2 (by decide)) (bV (g 3 (by decide)) (bV (g 4 (by decide)) (bV (g 5 (by decide)) (hZ (g 6 (by decide)) (bV (g 7 (by decide)) (dY (g 8 (by decide)) (bV (g 9 (by decide)) (bV (g 10 (by decide)) (hZ (g 11 (by decide)) (bV (g 12 (by decide)) (dY (g 13 (by decide)) (dY (g 14 (by decide)) (dY (g 15 (by decide)) (dY (g 16 (by decide)) (hk k nm G n L O y u A D T p r z m V X rfl)))))))))))))))))
theorem g1A(s:S): ∃(k:Int)(nm z:List UInt8)(n G K:Int)(i:List UInt8)(p:Int)(l:List E)(y A:Int)(r:List UInt8)(j:Int)(m g:List E)(u D:List S),s= .mk k nm z n (.mk G K i p l) (.mk y A r j m) g u D:=by
 cases s with
 |mk k nm z n a v g u D=>
  cases a with
  |mk G K i p l=>
   cases v with
   |mk y A r j m=>exact⟨_,_,_,_,_,_,_,_,_,_,_,_,_,_,_,_,_,rfl⟩
theorem f2Y{l:List S}{i o:Nat}{K:Int->Prop}(h:i<l.length){k:Int}{nm y:List UInt8}{n:Int}{a v:E}{g:List E}{m p:List S}(e:l[i]= .mk k nm y n a v g m p)(u:o=i*17)(r:K k):aK .i64 (aX l) o K:=
 bV (n:=k) (by rw [u];have:=zH (j:=0) h (by decide);rw [h6U]at this;rw [this,e];rfl) r
theorem g1B{l:List S}{i o:Nat}{K:List UInt8->Prop}(h:i<l.length){k:Int}{nm y:List UInt8}{n:Int}{a v:E}{g:List E}{m p:List S}(e:l[i]= .mk k nm y n a v g m p)(u:o=i*17+1)(r:K nm):bZ (aX l) o K:=
 hZ (b:=nm) (by rw [u,zH (j:=1) h (by decide),e];rfl) r
theorem a8N{l:List S}{i o:Nat}{K:Option Nat->Nat->Nat->List IV->Prop}(h:i<l.length){k:Int}{nm y:List UInt8}{n:Int}{a v:E}{g:List E}{m p:List S}(e:l[i]= .mk k nm y n a v g m p)(u:o=i*17+15)(r:K none 0 m.length (aX m)):bH 17 (aX l) o K:=
 dY (by rw [u,zH (j:=15) h (by decide),e];cases a;cases v;rfl) r
theorem a8O{l:List S}{i o:Nat}{K:Option Nat->Nat->Nat->List IV->Prop}(h:i<l.length){k:Int}{nm y:List UInt8}{n:Int}{a v:E}{g:List E}{p m:List S}(e:l[i]= .mk k nm y n a v g p m)(u:o=i*17+16)(r:K none 0 m.length (aX m)):bH 17 (aX l) o K:=
 dY (by rw [u,zH (j:=16) h (by decide),e];cases a;cases v;rfl) r
def LV(h:Heap)(id:Nat)(lv:IV)(g:List Nd):Prop:=(g=[]/\lv= .nilslice) \/ ∃io,lv= .vslice (some io) (g.length*3) g.length 3 (g.flatMap cN)/\h.get io= .tip (g.length*3)/\io<h.next/\io≠id
def NL(h:Heap)(id j:Nat):Prop:= ∀(cs:List IV)(e n z:Nat)(c:List IV),h.get id= .cells cs->cs[2]?≠some (.vslice (some j) e n z c)
structure FC(id:Nat)(h h2:Heap):Prop where
 nx:h.next<=h2.next
 cl: ∀(j:Nat)(c:List IV),j<h.next->j≠id->h.get j= .cells c->h2.get j= .cells c
 tp: ∀(j m:Nat),j<h.next->h.get j= .tip m->NL h id j->h2.get j= .tip m/\NL h2 id j
theorem FC.refl{id:Nat}{h:Heap} :FC id h h:=⟨h1D _,fun _ _ _ _ e=>e,fun _ _ _ e n=>⟨e,n⟩⟩
theorem FC.trans{id:Nat}{a b c:Heap}(x:FC id a b)(y:FC id b c):FC id a c:=
 ⟨h2F x.nx y.nx,fun j r g i e=>y.cl j r (h1C g x.nx) i (x.cl j r g i e),fun j m g e n=>by
  obtain⟨p,q⟩:=x.tp j m g e n;exact y.tp j m (h1C g x.nx) p q⟩
theorem NL.push{h:Heap}{id j:Nat}{x:IObj}(g:id<h.next)(n:NL h id j):NL (h.push x) id j:=fun cs e a z c q=>n cs e a z c (by rwa [aJ g]at q)
theorem FC.push{id:Nat}{h:Heap}{x:IObj}(g:id<h.next):FC id h (h.push x):=⟨h4E _,fun j c i _ e=>by rw [aJ i];exact e,fun j m i e n=>⟨by rw [aJ i];exact e,n.push g⟩⟩
theorem vD{h:Heap}{id j m:Nat}{a b:List IV}(i:h.get id= .cells a)(p: ∀(e n z:Nat)(c:List IV),b[2]?=some (.vslice (some j) e n z c)-> ∃e n z c,a[2]?=some (.vslice (some j) e n z c))(g:h.get j= .tip m)(n:NL h id j):
  (h.set id (.cells b)).get j= .tip m/\NL (h.set id (.cells b)) id j:=by
 refine⟨?_,fun cs e u z c q l=>?_⟩
 ·rw [aE (fun q=>by rw [q,i]at g;cases g)];exact g
 ·rw [aH,IObj.cells.injEq]at q;subst q;obtain⟨A,D,r,y,h2⟩:=p _ _ _ _ l;exact n a _ _ _ _ i h2
theorem FC.set{id:Nat}{h:Heap}{a b:List IV}(i:h.get id= .cells a)(l: ∀(j e n z:Nat)(c:List IV),j<h.next->b[2]?=some (.vslice (some j) e n z c)-> ∃e n z c,a[2]?=some (.vslice (some j) e n z c)):FC id h (h.set id (.cells b)):=
 ⟨h1D _,fun j c _ g e=>by rw [aE g];exact e,fun j m p e n=>vD i (l j · · · · p) e n⟩
theorem FC.tip{id i m:Nat}{h:Heap}{x:IObj}{a:List IV}{e n z:Nat}{c:List IV}(r:h.get i= .tip m)(g:h.get id= .cells a)(h2:a[2]?=some (.vslice (some i) e n z c)):FC id h (h.set i x):=
 ⟨h1D _,fun j c _ K e=>by rw [aE (fun q=>by rw [q,r]at e;cases e)];exact e,fun j G L e n=>by
  have p:j≠i:=fun q=>n a _ _ _ _ g (by rw [q];exact h2)
  have l:id≠i:=fun q=>by rw [q,r]at g;cases g
  exact⟨by rw [aE p];exact e,fun cs A D u y q=>n cs A D u y (by rwa [aE l]at q)⟩⟩
theorem FC.fresh{id:Nat}{h:Heap}{x:IObj}{a b:List IV}{e n z:Nat}{c:List IV}(A:id<h.next)(u:h.get id= .cells a)(y:b[2]?=some (.vslice (some h.next) e n z c)):FC id h ((h.push x).set id (.cells b)):=
 ⟨h4E _,fun j r g D e=>by rw [aE D,aJ g];exact e,fun j m g i T=>by
  have l:j≠id:=fun q=>by rw [q,u]at i;cases i
  refine⟨by rw [aE l,aJ g];exact i,fun cs K G O L q p=>?_⟩;rw [aH,IObj.cells.injEq]at q;subst q;rw [y]at p;simp only [h0V,IV.vslice.injEq]at p;omega⟩
structure PSt where
 ns:List Nd
 ks:List Int
 a:IV
 b:IV
 c:IV
 d:IV
 e:IV
 f:IV
def PSt.cells(p:PSt)(lv:IV):List IV:=[p.a,p.b,lv,p.c,p.d,p.e,p.f]
def bI(h:Heap)(id:Nat)(p:PSt)(op im:Int)(kn:Nat)(g:List IV):Prop:=
 id<h.next/\(∃lv,h.get id= .cells (p.cells lv)/\LV h id lv p.ns)/\(kn=p.ks.length/\g=p.ks.map (IV.int .i64))/\(okN ⟨op,im,p.ks⟩/\p.ks.length<=40)/\(∀n∈p.ns,okN n/\n.ks.length<=40)/\p.ns.length<=1000000
def aQ(h:Heap)(id:Nat)(p:PSt)(op im v:Int)(h2:Heap):Prop:=
 (∃lv,h2.get id= .cells (p.cells lv)/\LV h2 id lv (fY p.ns ⟨op,im,p.ks⟩).1)/\v=(fY p.ns ⟨op,im,p.ks⟩).2/\FC id h h2
structure BSt where
 pa:List IV
 pf:List IV
 f:Int
 ns:List Nd
 io:Option Nat
 ie:Nat
 iv:Nat
 vs:List Int
 st:Int
 lo:Int
def BSt.cells(s:BSt)(lv:IV):List IV:=[.vslice none 0 2 2 s.pa,.vslice none 0 2 9 s.pf,lv,.vslice s.io s.ie (bN s.f).length 1 ((bN s.f).map IV.str),.hslice s.iv 0 s.vs.length 1,.int .i64 s.st,.int .i64 s.lo]
def BH(h:Heap)(id:Nat)(s:BSt):Prop:=id<h.next/\(∃lv,h.get id= .cells (s.cells lv)/\LV h id lv s.ns)/\(s.iv<h.next/\s.iv≠id/\h.get s.iv= .cells (s.vs.map (IV.int .i64)))
structure GS(s:BSt):Prop where
 gl:GL s.ns s.lo
 av:AV s.ns s.vs
 sk:SK s.ns 2 s.st
 vl:s.vs.length=(bN s.f).length
 pp:qG s.pa s.pf
 hf:s.f=0\/s.f=1
 hn:s.ns.length<=100000
 hl:0<=s.lo/\s.lo<=10
def BSt.pst(s:BSt)(ks:List Int):PSt:=⟨s.ns,ks,.vslice none 0 2 2 s.pa,.vslice none 0 2 9 s.pf,.vslice s.io s.ie (bN s.f).length 1 ((bN s.f).map IV.str),.hslice s.iv 0 s.vs.length 1,.int .i64 s.st,.int .i64 s.lo⟩
theorem LV.set{h:Heap}{id i:Nat}{lv:IV}{j:List Nd}{x:IObj}(l:LV h id lv j){c:List IV}(u:h.get i= .cells c):LV (h.set i x) id lv j:=by
 rcases l with l| ⟨r,m,g,p,y⟩
 ·exact .inl l
 ·exact .inr ⟨r,m,by rw [aE (fun q=>by rw [q,u]at g;cases g)];exact g,p,y⟩
theorem LV.push{h:Heap}{id:Nat}{lv:IV}{i:List Nd}{x:IObj}(l:LV h id lv i):LV (h.push x) id lv i:=by
 rcases l with l| ⟨p,j,m,g,r⟩
 ·exact .inl l
 ·exact .inr ⟨p,j,by rw [aJ g];exact m,h1T g,r⟩
theorem BH.push{h:Heap}{id:Nat}{s:BSt}{x:IObj}(b:BH h id s):BH (h.push x) id s:=by
 obtain⟨g,⟨lv,p,l⟩,i,j,m⟩:=b;exact⟨h1T g,⟨lv,by rw [aJ g];exact p,l.push⟩,h1T i,j,by rw [aJ i];exact m⟩
theorem BH.tip{h:Heap}{id i:Nat}{s:BSt}{m:Nat}{x:IObj}(b:BH h id s)(u:h.get i= .tip m)(L: ∀lv,h.get id= .cells (s.cells lv)-> ∀g e n c,lv= .vslice (some g) e n 3 c->g≠i):BH (h.set i x) id s:=by
 obtain⟨G,⟨lv,j,A⟩,D,y,p⟩:=b;refine⟨G,⟨lv,by rw [aE (fun q=>by rw [q,u]at j;cases j)];exact j,?_⟩,D,y,by rw [aE (fun q=>by rw [q,u]at p;cases p)];exact p⟩;rcases A with l| ⟨g,r,z,K,O⟩
 ·exact .inl l
 ·exact .inr ⟨g,r,by rw [aE (L lv j g _ _ _ r)];exact z,K,O⟩
theorem BH.st{h:Heap}{id:Nat}{s:BSt}{lv:IV}{v:Int}(b:BH h id s)(j:h.get id= .cells (s.cells lv)):BH (h.set id (.cells (({s with st:=v } :BSt).cells lv))) id {s with st:=v } :=by
 obtain⟨p,⟨lv',g,l⟩,m,i,r⟩:=b;have e:lv'=lv:=by
  rw [j]at g;simp only [IObj.cells.injEq,BSt.cells,h2I,true_and,and_true]at g;exact g.symm
 subst e;exact⟨p,⟨lv',aH,l.set j⟩,m,i,by rw [aE i];exact r⟩
theorem BH.var{h:Heap}{id:Nat}{s:BSt}{i:Nat}{v:Int}(b:BH h id s):BH (h.set s.iv (.cells ((s.vs.set i v).map (IV.int .i64)))) id {s with vs:=s.vs.set i v } :=by
 obtain⟨l,⟨lv,r,j⟩,p,g,m⟩:=b;exact⟨l,⟨lv,by rw [aE g.symm,r];simp [BSt.cells],j.set m⟩,p,g,aH⟩
theorem BH.row{h:Heap}{id:Nat}{s:BSt}{lv:IV}{j:Nat}{ws:List Int}(b:BH h id s)(i:h.get id= .cells (s.cells lv))(r:j<h.next)(l:j≠id)(u:h.get j= .cells (ws.map (IV.int .i64))):
  BH (h.set id (.cells (({s with iv:=j,vs:=ws } :BSt).cells lv))) id {s with iv:=j,vs:=ws } :=by
 obtain⟨p,⟨lv',g,m⟩,z,y,A⟩:=b;have e:lv'=lv:=by
  rw [i]at g;simp only [IObj.cells.injEq,BSt.cells,h2I,true_and,and_true]at g;exact g.symm
 subst e;exact⟨p,⟨lv',aH,m.set i⟩,r,l,by rw [aE l];exact u⟩
theorem BH.loops{h:Heap}{id:Nat}{s:BSt}{lv:IV}{v:Int}(b:BH h id s)(j:h.get id= .cells (s.cells lv)):BH (h.set id (.cells (({s with lo:=v } :BSt).cells lv))) id {s with lo:=v } :=by
 obtain⟨p,⟨lv',g,l⟩,m,i,r⟩:=b;have e:lv'=lv:=by
  rw [j]at g;simp only [IObj.cells.injEq,BSt.cells,h2I,true_and,and_true]at g;exact g.symm
 subst e;exact⟨p,⟨lv',aH,l.set j⟩,m,i,by rw [aE i];exact r⟩
theorem BH.pre{h:Heap}{id:Nat}{s:BSt}{op im:Int}{ks:List Int}(b:BH h id s)(g:GS s)(i:bR op/\bR im)(m: ∀k∈ks,0<=k/\k<s.ns.length)(p:ks.length<=40):bI h id (s.pst ks) op im ks.length (ks.map (IV.int .i64)):=by
 obtain⟨l,⟨lv,r,j⟩,_⟩:=b;have h1:=g.hn;refine⟨l,⟨lv,r,j⟩,⟨rfl,rfl⟩,⟨⟨i.1,i.2,fun k q=>?_⟩,p⟩,g.gl.ok,by show s.ns.length<=1000000;omega⟩;have:=m k q;unfold bR
 omega
structure BP(h:Heap)(id:Nat)(s:BSt)(t v:Int)(h2:Heap)(ns2:List Nd):Prop where
 bh:BH h2 id {s with ns:=ns2 }
 gs:GS {s with ns:=ns2 }
 pre:s.ns<+:ns2
 sk:SK ns2 t v
 len:ns2.length<=s.ns.length+1
 fc:FC id h h2
theorem GS.mono{s:BSt}(g:GS s){j:List Nd}{i:Int}(m:GL j i)(l:s.ns<+:j)(p:j.length<=100000)(r:0<=i/\i<=10):GS {s with ns:=j,lo:=i } :=
 ⟨m,g.av.mono l,g.sk.mono l,g.vl,g.pp,g.hf,p,r⟩
theorem BH.put{h:Heap}{id:Nat}{s:BSt}{op im v t:Int}{ks:List Int}{h2:Heap}(b:BH h id s)(g:GS s)(p:aQ h id (s.pst ks) op im v h2)
  (gp:GL (fY s.ns ⟨op,im,ks⟩).1 s.lo/\SK (fY s.ns ⟨op,im,ks⟩).1 t (fY s.ns ⟨op,im,ks⟩).2/\s.ns<+:(fY s.ns ⟨op,im,ks⟩).1/\(fY s.ns ⟨op,im,ks⟩).1.length<=s.ns.length+1) (hn:s.ns.length<100000):
  BP h id s t v h2 (fY s.ns ⟨op,im,ks⟩).1:=by
 obtain⟨⟨lv,K,l⟩,u,i⟩:=p;obtain⟨A,g2,r,z⟩:=gp;obtain⟨y,_,m,j,D⟩:=b;have e:(s.pst ks).ns=s.ns:=rfl;have G:(s.pst ks).ks=ks:=rfl;rw [e,G]at l u;exact⟨⟨h1C y i.nx,⟨lv,K,l⟩,h1C m i.nx,j,i.cl _ _ m j D⟩,g.mono A r (by omega) g.hl,r,by rw [u];exact g2,z,i⟩
structure BE(h:Heap)(id:Nat)(s:BSt)(h2:Heap)(ns2:List Nd)(st2:Int)(c:Nat):Prop where
 bh:BH h2 id {s with ns:=ns2,st:=st2 }
 gs:GS {s with ns:=ns2,st:=st2 }
 gx:GX s.ns ns2 s.lo s.lo
 len:ns2.length<=s.ns.length+c
 fc:FC id h h2
theorem BE.refl{h:Heap}{id:Nat}{s:BSt}(b:BH h id s)(g:GS s):BE h id s h s.ns s.st 0:=⟨b,g,GX.refl,h1D _,FC.refl⟩
theorem BE.trans{h h2 h3:Heap}{id:Nat}{s:BSt}{i g:List Nd}{l j:Int}{c d:Nat}(x:BE h id s h2 i l c)(y:BE h2 id {s with ns:=i,st:=l } h3 g j d):BE h id s h3 g j (c+d):=
 ⟨y.bh,y.gs,x.gx.trans y.gx,by have h1:=x.len;have h2:g.length<=i.length+d:=y.len;omega,x.fc.trans y.fc⟩
theorem BE.le{h h2:Heap}{id:Nat}{s:BSt}{i:List Nd}{g:Int}{c d:Nat}(x:BE h id s h2 i g c)(j:c<=d):BE h id s h2 i g d:=⟨x.bh,x.gs,x.gx,h2F x.len (by omega),x.fc⟩
theorem BE.st{h h2:Heap}{id:Nat}{s:BSt}{g:List Nd}{i v:Int}{c:Nat}{lv:IV}(x:BE h id s h2 g i c)(m:SK g 2 v)(l:h2.get id= .cells (({s with ns:=g,st:=i } :BSt).cells lv)):
  BE h id s (h2.set id (.cells (({s with ns:=g,st:=v } :BSt).cells lv))) g v c:=
 ⟨x.bh.st l,⟨x.gs.gl,x.gs.av,m,x.gs.vl,x.gs.pp,x.gs.hf,x.gs.hn,x.gs.hl⟩,x.gx,x.len,x.fc.trans (FC.set l fun j e n z c _ q=>⟨e,n,z,c,q⟩)⟩
theorem GX.new{l g:List Nd}{p:Int}{n:Nd}(u:l<+:g)(h: ∀(i:Nat)(m:Nd),g[i]?=some m->l.length<=i->m=n)(h3:n.op≠3)(j:n.op≠31):GX l g p p:=
 ⟨u,h3P _,fun i m e r=>by rw [h i m e r];exact⟨fun q=>absurd q h3,fun q=>absurd q j⟩⟩
theorem BE.put{h:Heap}{id:Nat}{s:BSt}{op im v t:Int}{ks ss:List Int}{h2:Heap}(b:BH h id s)(g:GS s)(p:aQ h id (s.pst ks) op im v h2)(l:oI s.ns ks ss)(r:bQ (eK s.ns ⟨op,im,ks⟩) op im ss=t)(u:t≠0)
  (ho:op≠3/\op≠31) (hb:bR op/\bR im) (hl:ks.length<=40) (hn:s.ns.length<100000):BE h id s h2 (fY s.ns ⟨op,im,ks⟩).1 s.st 1/\SK (fY s.ns ⟨op,im,ks⟩).1 t v:=by
 have m:=(l.map).2.2;have h1:=g.hn;have i:=g.gl.put (n:=⟨op,im,ks⟩) (s:=t) ⟨⟨hb.1,hb.2,fun k q=>by have:=m k q;unfold bR;omega⟩,hl⟩ (by rw [fL l,r]) u (fun q=>absurd q ho.1) (fun q=>absurd q ho.1) (fun q=>absurd q ho.2);have j:=BH.put (t:=t) b g p ⟨i.1,i.2.1,i.2.2.1,i.2.2.2.1⟩ hn;exact⟨⟨j.bh,j.gs,GX.new i.2.2.1 i.2.2.2.2 ho.1 ho.2,j.len,j.fc⟩,j.sk⟩
def PuI(p:PSt)(op im:Int)(i:Nat):Prop:=i<=p.ns.length/\∀j,j<i->p.ns[j]?≠some ⟨op,im,p.ks⟩
theorem a3T{n:Nd} : ∀{l:List Nd}{i j:Nat},l[j]?=some n->(∀q,q<j->l[q]?≠some n)->a1G n l i=some (i+j)
 | [],i,j,h,_=>by simp at h
 |x::l,i,0,h,_=>by
  have:x=n:=by simpa using h
  unfold a1G
  rw [if_pos this.symm];rfl
 |x::l,i,j+1,h,hn=>by
  have g: ¬n=x:=fun e=>hn 0 (h5J _) (by simp [e])
  unfold a1G
  rw [if_neg g,a3T (l:=l) (i:=i+1) (j:=j) (by simpa using h) fun q m=>by simpa using hn (q+1) (by omega)];exact congrArg some (by omega)
theorem a8P{n:Nd} : ∀{l:List Nd}{i:Nat},n∉l->a1G n l i=none
 | [],i,_=>rfl
 |x::l,i,h=>by
  unfold a1G
  rw [if_neg (fun e=>h (by rw [e];exact h2C)),a8P fun q=>h (h2N _ q)]
theorem aQ.old{h g:Heap}{id:Nat}{p:PSt}{op im v:Int}{lv:IV}{i:Nat}(l:FC id h g)(r:g.get id= .cells (p.cells lv))(z:LV g id lv p.ns)(m:p.ns[i]?=some ⟨op,im,p.ks⟩)(y: ∀j,j<i->p.ns[j]?≠some ⟨op,im,p.ks⟩)(u:v=(i:Int)):aQ h id p op im v g:=by
 have e:fY p.ns ⟨op,im,p.ks⟩=(p.ns,(i:Int)):=by
  unfold fY
  rw [a3T m y,h1Q]
 unfold aQ
 rw [e];exact⟨⟨lv,r,z⟩,u,l⟩
theorem aQ.new{h g:Heap}{id:Nat}{p:PSt}{op im v:Int}{i:Nat}(G:id<g.next)(y:FC id h g){lv:IV}(u:g.get id= .cells (p.cells lv))(m:lv= .vslice (some i) (p.ns.length*3) p.ns.length 3 (p.ns.flatMap cN))(K:g.get i= .tip (p.ns.length*3))(r:i<g.next)(l:i≠id)(D:(⟨op,im,p.ks⟩:Nd) ∉p.ns)(A:v=(p.ns.length:Int)):
  aQ h id p op im v ((g.set i (.tip (p.ns.length*3+3))).set id (.cells (p.cells (.vslice (some i) (p.ns.length*3+3) (p.ns.length+1) 3 (p.ns.flatMap cN++ [.int .i64 op,.int .i64 im,.vslice none 0 p.ks.length 1 (p.ks.map (IV.int .i64))]))))):=by
 have e:fY p.ns ⟨op,im,p.ks⟩=(p.ns++ [⟨op,im,p.ks⟩],(p.ns.length:Int)):=by
  unfold fY
  rw [a8P D]
 unfold aQ
 rw [e];refine⟨⟨_,aH,.inr ⟨i,?_,?_,r,l⟩⟩,A,y.trans ((FC.tip K u (by rw [m];rfl)).trans (FC.set ((aE (fun q=>l q.symm)).trans u) fun j e n z c _ q=>?_))⟩
 ·simp only [h1E,h1O,h1U,h3M,h3B];rfl
 ·rw [aE l,aH];simp only [h1E,h1O,h1U,h3B]
 ·have L:i=j:=by
   simp only [PSt.cells,h4A,h8B,h0V,IV.vslice.injEq]at q;exact q.1
  subst L;exact⟨_,_,_,_,by rw [m];rfl⟩
theorem aQ.nil{h g:Heap}{id:Nat}{p:PSt}{op im v:Int}{a:List IV}(i:id<g.next)(j:FC id h g)(l:g.get id= .cells a)(r:p.ns=[])(m:v=0):
  aQ h id p op im v ((g.push (.tip 3)).set id (.cells (p.cells (.vslice (some g.next) 3 1 3 [.int .i64 op,.int .i64 im,.vslice none 0 p.ks.length 1 (p.ks.map (IV.int .i64))])))):=by
 unfold aQ
 rw [r];refine⟨⟨_,aH,.inr ⟨g.next,rfl,?_,h1G _,h3H i⟩⟩,m,j.trans (FC.fresh i l rfl)⟩;rw [aE (h3H i)];exact aR
structure ExPre(h:Heap)(id:Nat)(s:BSt)(d:Nat)(k n:Int)(nm:List UInt8)(op:Int)(ks:List E):Prop where
 bh:BH h id s
 gs:GS s
 wf:E.wf s.f (.mk k n nm op ks)
 dp:Es.dp ks<d
 len:s.ns.length+E.cost (.mk k n nm op ks)<=90000
def dR(h:Heap)(id:Nat)(s:BSt)(e:E)(v:Int)(h2:Heap):Prop:= ∃(g:List Nd)(i:Int),BE h id s h2 g i e.cost/\SK g 1 v
theorem BE.get{h h2:Heap}{id:Nat}{s:BSt}{i:List Nd}{g:Int}{c:Nat}(x:BE h id s h2 i g c): ∃lv,h2.get id= .cells (({s with ns:=i,st:=g } :BSt).cells lv):=by
 obtain⟨_,⟨lv,j,_⟩,_⟩:=x.bh;exact⟨lv,j⟩
theorem E.cost4{k n:Int}{nm:List UInt8}{op:Int}{ks:List E}(h:k≠2/\k≠0):E.cost (.mk k n nm op ks)=4+Es.cost ks:=by
 rw [E.cost,if_neg (by omega)]
theorem SK.kb{g:List Nd}{s k:Int}(h:SK g s k):0<=k/\k<g.length:=⟨h.1,h.2.1⟩
theorem kb1{g:List Nd}{a:Int}(h:0<=a/\a<g.length): ∀k∈ [a],0<=k/\k<g.length:=fun k q=>by rw [h2J.1 q];exact h
theorem kb2{i:List Nd}{a b:Int}(h:0<=a/\a<i.length)(g:0<=b/\b<i.length): ∀k∈ [a,b],0<=k/\k<i.length:=fun k q=>by
 rcases h2O.1 q with rfl|q
 ·exact h
 ·exact kb1 g k q
theorem kb3{i:List Nd}{a b c:Int}(h:0<=a/\a<i.length)(g:0<=b/\b<i.length)(f:0<=c/\c<i.length): ∀k∈ [a,b,c],0<=k/\k<i.length:=fun k q=>by
 rcases h2O.1 q with rfl|q
 ·exact h
 ·exact kb2 g f k q
theorem kb0{g:List Nd} : ∀k∈ ([]:List Int),0<=k/\k<g.length:=fun k q=>by cases q
theorem BE.putE{h:Heap}{id:Nat}{s:BSt}{op im v t:Int}{ks ss:List Int}{h2:Heap}(b:BH h id s)(g:GS s)(p:aQ h id (s.pst ks) op im v h2)(j:oI s.ns ks ss)(l:bQ (eK s.ns ⟨op,im,ks⟩) op im ss=t)(i:t≠0)
 (ho:op≠3/\op≠31) (hb:bR op/\bR im) (hl:ks.length<=40) (hn:s.ns.length<100000): ∃ns2,BE h id s h2 ns2 s.st 1/\SK ns2 t v:=⟨_,BE.put b g p j l i ho hb hl hn⟩
theorem nsG{e:Nat}{op im:Int}{k:List Int}(h:op≠31/\op≠30/\op≠25):bQ e op im k=fH op im k:=by
 unfold bQ
 rw [if_neg h.1,if_neg h.2.1,if_neg h.2.2]
theorem eJ{e:Nat}{im:Int} :bQ e 1 im []=1:=by
 rw [nsG (by decide)];simp [fH,oU,ar,lB]
theorem kX{e:Nat}{im:Int}(h:0<=im/\im<=5):bQ e 2 im []=1:=by
 rw [nsG (by decide)];simp [fH,oU,ar,lB,mxI];omega
theorem b5M{e:Nat} :bQ e 26 0 []=2:=by
 rw [nsG (by decide)];simp [fH,oU,ar,lB,mxI]
theorem zI{e:Nat}{op:Int}(h:4<=op/\op<=19):bQ e op 0 [1,1]=1:=by
 rw [nsG (by omega)];have g:c6B op:=by unfold c6B;omega
 refine d0Y g ?_ ?_ (by simp)
 ·unfold ar
  rw [if_neg (by omega),if_neg (by omega),if_pos (by omega)];rfl
 ·unfold lB mxI
  rw [decide_eq_true_eq]
  repeat' split
  all_goals omega
theorem g1C{e:Nat}{op:Int}(h:op=20\/op=21):bQ e op 0 [1]=1:=by
 rcases h with rfl|rfl<;>(rw [nsG (by decide)];decide)
theorem e5V{e:Nat} :bQ e 22 0 [1,1,1]=1:=by rw [nsG (by decide)];decide
theorem e5W{e:Nat} :bQ e 22 0 [1,2,2]=2:=by rw [nsG (by decide)];decide
theorem e5X{e:Nat}{im:Int}(h:0<=im/\im<=3):bQ e 23 im [2,1]=1:=by
 rw [nsG (by decide)];simp [fH,oU,ar,lB,mxI];omega
theorem xJ{e:Nat}{im:Int}(h:1<=im/\im<=1000016):bQ e 27 im [2,1]=2:=by
 rw [nsG (by decide)];simp [fH,oU,ar,lB,mxI];omega
theorem d4X{e:Nat}{im:Int}(h:0<=im/\im<=3):bQ e 28 im [2,1,1]=2:=by
 rw [nsG (by decide)];simp [fH,oU,ar,lB,mxI];omega
theorem f2Z{e:Nat} :bQ e 29 0 [2,1]=2:=by rw [nsG (by decide)];decide
theorem c6H{e:Nat} :bQ e 24 0 [2]=1:=by rw [nsG (by decide)];decide
theorem e5Y{e:Nat}{im:Int}(h:0<=im/\im<=255):bQ e 3 im []=if im%16=0 then 2 else 1:=by
 rw [nsG (by decide)];simp [fH,oU,ar,lB,mxI];omega
theorem c6I{e:Nat}{im:Int}{m:Nat}(h:0<=im/\im<=7)(g:m<=6):bQ e 30 im (2::List.replicate m 1)=2:=by
 unfold bQ
 rw [if_neg (by decide),if_pos rfl,if_pos];refine⟨?_,?_⟩
 ·simp [a1H];omega
 ·simp [lB,mxI];omega
theorem c6J{e:Nat}{im:Int}{m:Nat}(h:0<=im/\im<=15)(h1:1<=m)(h2:m<=16):bQ e 31 im (lsL m)=3:=by
 unfold bQ
 rw [if_pos rfl,if_pos];refine⟨e5S h1 h2,?_⟩;simp [lB,mxI];omega
theorem tL{e:Nat}{im:Int}(h:0<=im/\im<=15)(h2:2*im+3<=e):bQ e 25 im [3]=if im=0 then 2 else 1:=by
 unfold bQ
 rw [if_neg (by decide),if_neg (by decide),if_pos rfl,if_pos ⟨rfl,h.1,h.2,h2⟩]
structure FV(id iv:Nat)(h h2:Heap):Prop where
 nx:h.next<=h2.next
 cl: ∀(j:Nat)(c:List IV),j<h.next->j≠id->j≠iv->h.get j= .cells c->h2.get j= .cells c
 tp: ∀(j m:Nat),j<h.next->h.get j= .tip m->NL h id j->h2.get j= .tip m/\NL h2 id j
theorem FV.of{id iv:Nat}{h h2:Heap}(f:FC id h h2):FV id iv h h2:=⟨f.nx,fun j c h1 h2 _ h4=>f.cl j c h1 h2 h4,f.tp⟩
theorem FV.trans{id iv g:Nat}{a b c:Heap}(x:FV id iv a b)(y:FV id g b c)(z:g=iv\/a.next<=g):FV id iv a c:=
 ⟨h2F x.nx y.nx,fun j r i l u e=>y.cl j r (h1C i x.nx) l (by omega) (x.cl j r i l u e),fun j m i e n=>by
  obtain⟨p,q⟩:=x.tp j m i e n;exact y.tp j m (h1C i x.nx) p q⟩
theorem FV.set{id iv:Nat}{h h2:Heap}{a b:List IV}(x:FV id iv h h2)(i:h2.get id= .cells a)(u:b[2]?=a[2]?):FV id iv h (h2.set id (.cells b)):=
 ⟨x.nx,fun j r h1 g l e=>by rw [aE g];exact x.cl j r h1 g l e,fun j m y e n=>by
  obtain⟨p,q⟩:=x.tp j m y e n;exact vD i (fun e n z c w=>⟨e,n,z,c,by rw [<-u];exact w⟩) p q⟩
theorem FV.put{id iv i:Nat}{h h2:Heap}{a b:List IV}(x:FV id iv h h2)(u:h2.get i= .cells a)(g:i≠id)(K:i=iv\/h.next<=i):FV id iv h (h2.set i (.cells b)):=
 ⟨x.nx,fun j r h1 g y e=>by rw [aE (by omega)];exact x.cl j r h1 g y e,fun j m A e n=>by
  obtain⟨p,q⟩:=x.tp j m A e n;refine⟨by rw [aE (fun w=>by rw [w,u]at p;cases p)];exact p,fun cs D G l z w=>q cs D G l z (by rwa [aE g.symm]at w)⟩⟩
theorem FV.push{id iv:Nat}{h h2:Heap}{o:IObj}(x:FV id iv h h2)(g:id<h2.next):FV id iv h (h2.push o):=
 ⟨h7L x.nx,fun j r h1 l u e=>by rw [aJ (h1C h1 x.nx)];exact x.cl j r h1 l u e,fun j m i e n=>by
  obtain⟨p,q⟩:=x.tp j m i e n;exact⟨by rw [aJ (h1C i x.nx)];exact p,q.push g⟩⟩
theorem FV.grow{id iv i k:Nat}{h h2:Heap}{o:IObj}(x:FV id iv h h2)(y:h2.get i= .tip k)(l:h.next<=i)(g:h2.get id≠ .tip k):FV id iv h (h2.set i o):=
 ⟨x.nx,fun j r h1 D z e=>by rw [aE (by omega)];exact x.cl j r h1 D z e,fun j m l e n=>by
  obtain⟨p,q⟩:=x.tp j m l e n;exact⟨by rw [aE (by omega)];exact p,fun cs G K u A w=>q cs G K u A (by rwa [aE (fun w=>g (by rw [w];exact y))]at w)⟩⟩
structure BW(h:Heap)(id:Nat)(s:BSt)(h2:Heap)(s2:BSt)(c w:Nat):Prop where
 bh:BH h2 id s2
 gs:GS s2
 gx:GX s.ns s2.ns s.lo s2.lo
 len:s2.ns.length<=s.ns.length+c
 pa:s2.pa=s.pa
 pf:s2.pf=s.pf
 f:s2.f=s.f
 lo:s2.lo=s.lo+w
 fv:FV id s.iv h h2
 iv:s2.iv=s.iv\/h.next<=s2.iv
theorem BE.w{h h2:Heap}{id:Nat}{s:BSt}{i:List Nd}{g:Int}{c:Nat}(x:BE h id s h2 i g c):BW h id s h2 {s with ns:=i,st:=g } c 0:=
 ⟨x.bh,x.gs,x.gx,x.len,rfl,rfl,rfl,by simp,FV.of x.fc,.inl rfl⟩
theorem BW.refl{h:Heap}{id:Nat}{s:BSt}(b:BH h id s)(g:GS s):BW h id s h s 0 0:=(BE.refl b g).w
theorem BW.trans{h h2 h3:Heap}{id:Nat}{s i g:BSt}{c d w v:Nat}(x:BW h id s h2 i c w)(y:BW h2 id i h3 g d v):BW h id s h3 g (c+d) (w+v):=
 ⟨y.bh,y.gs,x.gx.trans y.gx,by have:=x.len;have:=y.len;omega,y.pa.trans x.pa,y.pf.trans x.pf,y.f.trans x.f,by have:=x.lo;have:=y.lo;omega,
  x.fv.trans y.fv x.iv,by
   have h1:=x.fv.nx;rcases y.iv with q|q
   ·rw [q];exact x.iv
   ·exact .inr (h2F h1 q)⟩
theorem BW.le{h h2:Heap}{id:Nat}{s g:BSt}{c d w:Nat}(x:BW h id s h2 g c w)(i:c<=d):BW h id s h2 g d w:=⟨x.bh,x.gs,x.gx,h2F x.len (by omega),x.pa,x.pf,x.f,x.lo,x.fv,x.iv⟩
theorem BW.get{h h2:Heap}{id:Nat}{s g:BSt}{c w:Nat}(x:BW h id s h2 g c w): ∃lv,h2.get id= .cells (g.cells lv):=by
 obtain⟨_,⟨lv,i,_⟩,_⟩:=x.bh;exact⟨lv,i⟩
theorem BW.var{h h2:Heap}{id:Nat}{s g:BSt}{c w:Nat}{i:Nat}{v:Int}(x:BW h id s h2 g c w)(l:SK g.ns 1 v):BW h id s (h2.set g.iv (.cells ((g.vs.set i v).map (IV.int .i64)))) {g with vs:=g.vs.set i v } c w:=by
 have j:FV id s.iv h (h2.set g.iv (.cells ((g.vs.set i v).map (IV.int .i64)))):=x.fv.put x.bh.2.2.2.2 x.bh.2.2.2.1 x.iv;exact⟨x.bh.var,⟨x.gs.gl,x.gs.av.set l,x.gs.sk,by show(g.vs.set i v).length=_;rw [h3R];exact x.gs.vl,x.gs.pp,x.gs.hf,x.gs.hn,x.gs.hl⟩,x.gx,x.len,x.pa,x.pf,x.f,x.lo,j,x.iv⟩
theorem BW.st{h h2:Heap}{id:Nat}{s g:BSt}{c w:Nat}{v:Int}{lv:IV}(x:BW h id s h2 g c w)(j:SK g.ns 2 v)(i:h2.get id= .cells (g.cells lv)):
  BW h id s (h2.set id (.cells (({g with st:=v } :BSt).cells lv))) {g with st:=v } c w:=
 ⟨x.bh.st i,⟨x.gs.gl,x.gs.av,j,x.gs.vl,x.gs.pp,x.gs.hf,x.gs.hn,x.gs.hl⟩,x.gx,x.len,x.pa,x.pf,x.f,x.lo,x.fv.set i rfl,x.iv⟩
theorem BW.row{h h2:Heap}{id:Nat}{s g:BSt}{c w:Nat}{lv:IV}{j:Nat}{ws:List Int}(x:BW h id s h2 g c w)(l:h2.get id= .cells (g.cells lv))(m:j<h2.next)(i:h.next<=j)(p:h2.get j= .cells (ws.map (IV.int .i64)))
  (hid:id<h.next) (ha:AV g.ns ws) (hl:ws.length=(bN g.f).length):BW h id s (h2.set id (.cells (({g with iv:=j,vs:=ws } :BSt).cells lv))) {g with iv:=j,vs:=ws } c w:=
 ⟨x.bh.row l m (by omega) p,⟨x.gs.gl,ha,x.gs.sk,hl,x.gs.pp,x.gs.hf,x.gs.hn,x.gs.hl⟩,x.gx,x.len,x.pa,x.pf,x.f,x.lo,x.fv.set l rfl,.inr i⟩
theorem BW.push{h h2:Heap}{id:Nat}{s g:BSt}{c w:Nat}{o:IObj}(x:BW h id s h2 g c w):BW h id s (h2.push o) g c w:=
 ⟨x.bh.push,x.gs,x.gx,x.len,x.pa,x.pf,x.f,x.lo,x.fv.push x.bh.1,x.iv⟩
theorem BH.nl{h:Heap}{id:Nat}{s:BSt}{x:IObj}(b:BH h id s):NL (h.push x) id h.next:=fun cs e n z c q j=>by
 obtain⟨m,⟨lv,p,l⟩,_⟩:=b;rw [aJ m,p,IObj.cells.injEq]at q;subst q;have g:lv= .vslice (some h.next) e n z c:=by
  simpa [BSt.cells]using j
 rcases l with⟨_,i⟩| ⟨u,i,_,r,_⟩
 ·rw [i]at g;cases g
 ·rw [i]at g;simp only [IV.vslice.injEq,h0V]at g;omega
theorem BH.grow{h:Heap}{id i m:Nat}{s:BSt}{x:IObj}(b:BH h id s)(g:h.get i= .tip m)(n:NL h id i):BH (h.set i x) id s:=
 b.tip g fun lv l p e a c j q=>n _ e a 3 c l (by rw [<-q,j];rfl)
theorem BW.grow{h h2:Heap}{id i m:Nat}{s j:BSt}{c w:Nat}{x:IObj}(y:BW h id s h2 j c w)(g:h2.get i= .tip m)(p:h.next<=i)(n:NL h2 id i):BW h id s (h2.set i x) j c w:=by
 obtain⟨lv,l⟩:=y.get;exact⟨y.bh.grow g n,y.gs,y.gx,y.len,y.pa,y.pf,y.f,y.lo,y.fv.grow g p (by rw [l];exact fun q=>by cases q),y.iv⟩
theorem BW.eq{h h2:Heap}{id:Nat}{s g:BSt}{c d w v:Nat}(x:BW h id s h2 g c w)(i:c<=d)(j:w=v):BW h id s h2 g d v:=j▸x.le i
theorem BH.c4{h:Heap}{id:Nat}{s:BSt}(b:BH h id s):aY h id 4=some (.hslice s.iv 0 s.vs.length 1):=by
 obtain⟨_,⟨lv,g,_⟩,_⟩:=b;unfold aY
 rw [g];rfl
theorem BH.same{h h2:Heap}{id:Nat}{s g:BSt}(a:BH h id s)(b:BH h2 id g)(i:g.iv=s.iv)(j:g.vs.length=s.vs.length):b0L h h2 id 4:=by
 unfold b0L
 rw [a.c4,b.c4,i,j]
structure StPre(h:Heap)(id:Nat)(s:BSt)(l:List S):Prop where
 bh:BH h id s
 gs:GS s
 wf:Ss.wf s.f l
 cnt:Ss.cnt l<=1000
 len:s.ns.length+Ss.cost l<=80000
 lo:s.lo+Ss.whl l<=10
structure AsP(h:Heap)(id jn:Nat)(s:BSt)(bs:List Bool):Prop where
 bh:BH h id s
 bl:bs.length=(bN s.f).length
 bg:h.get jn= .cells (bs.map IV.bool)
 jl:jn<h.next
 ji:jn≠id
 jv:jn≠s.iv
theorem AsP.set{h:Heap}{id g:Nat}{s:BSt}{j:List Bool}{i:Nat}(a:AsP h id g s j):AsP (h.set g (.cells ((j.set i true).map IV.bool))) id g s (j.set i true):=by
 obtain⟨⟨z,⟨lv,K,u⟩,y,r,G⟩,D,p,A,m,l⟩:=a;exact⟨⟨z,⟨lv,by rw [aE m.symm];exact K,u.set p⟩,y,r,by rw [aE l.symm];exact G⟩,by rw [h3R];exact D,aH,A,m,l⟩
theorem Ss.cost_take{l:List S}{i:Nat}(h:i<l.length):Ss.cost (l.take (i+1))=Ss.cost (l.take i)+l[i].cost:=by
 rw [h1J h,Ss.cost_append];simp only [Ss.cost];omega
theorem Ss.cost_le{l:List S}(i:Nat):Ss.cost (l.take i)<=Ss.cost l:=by
 have h:=Ss.cost_append (a:=l.take i) (b:=l.drop i);rw [h4R]at h;omega
theorem Ss.whl_le{l:List S}(i:Nat):Ss.whl (l.take i)<=Ss.whl l:=by
 have h:=Ss.whl_append (a:=l.take i) (b:=l.drop i);rw [h4R]at h;omega
theorem e5Z{l:List Bool}{i:Nat}{v:Bool}(h:i<l.length):List.take (0+(i:Int).toNat*1) (l.map IV.bool)++ [IV.bool v]++List.drop (0+(i:Int).toNat*1+1) (l.map IV.bool)=(l.set i v).map IV.bool:=by
 rw [h1Q,h0Z,h1W,<-List.map_take,<-List.map_drop,h4Y,if_pos h];simp
theorem a1J{l:List Int}{i:Nat}{v:Int}(h:i<l.length):List.take (0+(i:Int).toNat*1) (l.map (IV.int .i64))++ [IV.int .i64 v]++List.drop (0+(i:Int).toNat*1+1) (l.map (IV.int .i64))=(l.set i v).map (IV.int .i64):=by
 rw [h1Q,h0Z,h1W,<-List.map_take,<-List.map_drop,h4Y,if_pos h];simp
theorem lC.nm{f k n:Int}{nm l:List UInt8}{a v:E}{g:List E}{i j:List S}(h:lC f k nm l n a v g i j)(m:k=1\/k=6):nm∈bN f:=by
 unfold lC at h;rcases h with h|h|h|h|h|h|h
 ·exact h.2.1
 ·omega
 ·omega
 ·omega
 ·omega
 ·exact h.2.1
 ·omega
theorem nR(f:Int):2<=(bN f).length/\(bN f).length<=4:=by
 unfold bN
 split<;>simp
def g5O(h:Heap)(id:Nat)(s:BSt)(g:Heap)(j:BSt)(c:Int)(l:Nat)(u:Int)(i:Nat)(t:S):Prop:=
 BW h id s g j (t.cost-6+i) t.whl/\i<=(bN s.f).length/\SK j.ns 1 c/\SK j.ns 2 u/\(l≠id/\l≠j.iv/\l<g.next)/\∃ws:List Int,g.get l= .cells (ws.map (IV.int .i64))/\AV j.ns ws/\ws.length=(bN s.f).length
structure IfP(h:Heap)(id:Nat)(s:BSt)(g:Heap)(s2:BSt)(c:Int)(ja:Nat)(u:Int)(i:Nat)(t:S):Prop where
 p:g5O h id s g s2 c ja u i t
structure OP(n:Int)(L:Nat)(ns:List Nd):Prop where
 ln: ∀m∈ns,m.op=31->m.im≠n
 lv: ∀(i:Nat)(m:Nd),ns[i]?=some m->m.op=3->16*n<=m.im->m.im<16*n+16->L<=i
theorem OP.of{j:List Nd}{n:Int}(g:GL j n):OP n j.length j:=
 ⟨fun m l o q=>by have:=g.ln m l o;omega,fun i m e o q _=>by have:=g.lv m (h3C e) o;omega⟩
theorem OP.gx{j r:List Nd}{n p l:Int}{L:Nat}(o:OP n L j)(x:GX j r p l)(h:n<p):OP n L r:=by
 constructor
 ·intro m A g q;obtain⟨i,u,rfl⟩:=h4L.1 A;have e:=h0U u;rcases h2D i j.length with c|c
  ·obtain⟨t,rfl⟩:=x.pre;rw [h1Z c]at e;exact o.ln _ (h3C e) g q
  ·have:=(x.nw i _ e c).2 g;omega
 ·intro i m e g z y;rcases h2D i j.length with c|c
  ·obtain⟨t,rfl⟩:=x.pre;rw [h1Z c]at e;exact o.lv i m e g z y
  ·have:=(x.nw i _ e c).1 g;omega
structure LoS where
 s:BSt
 c:Int
 jn:Nat
 bs:List Bool
 w:List Int
 jw:Nat
 jo:Nat
 vo:List Int
 a:Int
 ks:List Int
 jk:Nat
 L:Nat
 d:Nat
 lp:Int
def g1D(h:Heap)(id:Nat)(s:BSt)(g:Heap)(x:LoS)(i:Nat)(t:E):Prop:=
 BW h id s g x.s t.cost 1/\AsP g id x.jn x.s x.bs/\h.next<=x.jn/\SK x.s.ns 1 x.c/\OP s.lo x.s.ns.length x.s.ns/\i<=(bN s.f).length/\(∀q∈x.w,0<=q/\q<i)/\x.w.length<=i
structure LoP1(h:Heap)(id:Nat)(s:BSt)(g:Heap)(x:LoS)(i:Nat)(t:E):Prop where
 p:g1D h id s g x i t
def old(g:List Int)(w:List Int):List Int:=w.map fun q=>g.getD q.toNat 0
def g1E(h:Heap)(id:Nat)(s:BSt)(g:Heap)(x:LoS)(j:Nat)(t:E):Prop:=
 BW h id s g x.s (t.cost+1+j) 1/\SK x.s.ns 1 x.c/\(SK x.s.ns 2 x.a/\x.a<x.L/\x.L<=x.s.ns.length)/\OP s.lo x.L x.s.ns/\(∀q∈x.w,0<=q/\q< (bN s.f).length)/\(x.w.length<=(bN s.f).length/\j<=x.w.length)/\
 (g.get x.jo= .cells (x.vo.map (IV.int .i64))/\h.next<=x.jo/\x.jo<g.next/\x.jo≠x.s.iv)/\(AV x.s.ns x.vo/\x.vo.length=(bN s.f).length/\∀v∈x.vo,v<x.L)/\x.ks=x.a::old x.vo (x.w.take j)
structure LoP2(h:Heap)(id:Nat)(s:BSt)(g:Heap)(x:LoS)(j:Nat)(t:E):Prop where
 p:g1E h id s g x j t
def g1F(h:Heap)(id:Nat)(s:BSt)(g:Heap)(x:LoS)(j:Nat)(t:S):Prop:=
 BW h id s g x.s (t.cost-11) (1+x.d)/\(1+x.d=t.whl)/\SK x.s.ns 1 x.c/\(SK x.s.ns 2 x.a/\x.a<x.L)/\OP s.lo x.L x.s.ns/\(∀q∈x.w,0<=q/\q< (bN s.f).length)/\(x.w.length<=(bN s.f).length/\j<=x.w.length)/\
 (g.get x.jo= .cells (x.vo.map (IV.int .i64))/\h.next<=x.jo/\x.jo<g.next/\x.jo≠x.s.iv)/\(AV x.s.ns x.vo/\x.vo.length=(bN s.f).length/\∀v∈x.vo,v<x.L)/\
 (oI x.s.ns x.ks (2::(List.replicate (x.w.length+1) 1++2::List.replicate j 1))/\(∃r,x.ks=x.a::old x.vo x.w++r))/\(g.get x.jk= .tip x.ks.length/\x.jk<g.next/\h.next<=x.jk/\NL g id x.jk)
structure LoP3(h:Heap)(id:Nat)(s:BSt)(g:Heap)(x:LoS)(j:Nat)(t:S):Prop where
 p:g1F h id s g x j t
def g1G(h:Heap)(id:Nat)(s:BSt)(g:Heap)(x:LoS)(j:Nat)(t:S):Prop:=
 BW h id s g x.s (t.cost-8+2*j) t.whl/\SK x.s.ns 1 x.c/\(∀q∈x.w,0<=q/\q< (bN s.f).length)/\(x.w.length<=(bN s.f).length/\j<=x.w.length)/\x.jo=x.s.iv/\(SK x.s.ns 3 x.lp/\∃n,x.s.ns[x.lp.toNat]?=some n/\n.ks.length=2*x.w.length+3)
structure LoP4(h:Heap)(id:Nat)(s:BSt)(g:Heap)(x:LoS)(j:Nat)(t:S):Prop where
 p:g1G h id s g x j t
theorem b0Z{α:Type}{a b:List α}(h:a<+:b){i:Nat}{n:α}(q:i<a.length)(e:b[i]?=some n):a[i]?=some n:=by
 obtain⟨t,rfl⟩:=h
 rwa [h1Z q]at e
theorem BW.lo1{h:Heap}{id:Nat}{s:BSt}{lv:IV}(b:BH h id s)(g:GS s)(l:s.lo+1<=10)(m:h.get id= .cells (s.cells lv)):
  BW h id s (h.set id (.cells (({s with lo:=s.lo+1 } :BSt).cells lv))) {s with lo:=s.lo+1 } 0 1:=by
 have p:=g.hl;exact⟨b.loops m,⟨⟨g.gl.ok,g.gl.wf,fun n j o=>by have:=g.gl.lv n j o;show n.im<16*(s.lo+1);omega,fun n j o=>by have:=g.gl.ln n j o;show n.im<s.lo+1;omega,g.gl.lu,g.gl.lf⟩,g.av,g.sk,g.vl,g.pp,g.hf,g.hn,by show 0<=s.lo+1/\s.lo+1<=10;omega⟩,
  ⟨h4F _,by show s.lo<=s.lo+1;omega,fun i n e l=>by rw [h2E l]at e;cases e⟩,h1D _,rfl,rfl,rfl,rfl,(FV.of FC.refl).set m rfl,.inl rfl⟩
theorem OP.new{n:Int}{r l:List Nd}{j:Int}(g:GL r n)(x:GX r l (n+1) j):OP n l.length l:=by
 have o:=(OP.of g).gx x (by omega);refine⟨o.ln,fun i m e p y u=>?_⟩;have h1:=o.lv i m e p y u;have:=(x.nw i m e h1).1 p;omega
theorem BW.asg{h h2 h3:Heap}{id z c w:Nat}{s u:BSt}{T G:List Bool}(x:BW h id s h2 u c w)(a:AsP h2 id z u T)(b:AsP h3 id z u G)(f:FC z h2 h3)(hj:h.next<=z):BW h id s h3 u c w:=by
 have D:=x.bh.1;obtain⟨lv,L⟩:=x.get;have A:=f.cl id _ D a.ji.symm L;refine⟨b.bh,x.gs,x.gx,x.len,x.pa,x.pf,x.f,x.lo,⟨h2F x.fv.nx f.nx,fun j r g hn Z e=>f.cl j r (h1C g x.fv.nx) (by omega) (x.fv.cl j r g hn Z e),fun j m g e n=>?_⟩,x.iv⟩;obtain⟨p,q⟩:=x.fv.tp j m g e n;obtain⟨Y,_⟩:=f.tp j m (h1C g x.fv.nx) p fun cs V X K O l i=>by
  rw [a.bg,IObj.cells.injEq]at l;rw [<-l,h2A]at i
  cases hb:T[2]? with
  |none=>rw [hb]at i;cases i
  |some y=>rw [hb]at i;cases i
 refine⟨Y,fun cs V X K O l i=>?_⟩;rw [A,IObj.cells.injEq]at l;exact q cs V X K O (by rw [L,l]) i
theorem AsP.push{h:Heap}{id i:Nat}{s:BSt}{g:List Bool}{x:IObj}(a:AsP h id i s g):AsP (h.push x) id i s g:=
 ⟨a.bh.push,a.bl,by rw [aJ a.jl];exact a.bg,h1T a.jl,a.ji,a.jv⟩
theorem AsP.grow{h:Heap}{id l i m:Nat}{s:BSt}{j:List Bool}{x:IObj}(a:AsP h id l s j)(g:h.get i= .tip m)(n:NL h id i):AsP (h.set i x) id l s j:=
 ⟨a.bh.grow g n,a.bl,by rw [aE (fun q=>by have:=a.bg;rw [q,g]at this;cases this)];exact a.bg,a.jl,a.ji,a.jv⟩
theorem NL.set{h:Heap}{id i j:Nat}{x:IObj}(n:NL h id j)(g:i≠id):NL (h.set i x) id j:=fun cs e a z c q=>n cs e a z c (by rwa [aE g.symm]at q)
theorem BW.lput{h g h3:Heap}{id c w:Nat}{s j:BSt}{im v:Int}{L:Nat}(y:BW h id s g j c w)(p:aQ g id (j.pst []) 3 im v h3)(o:OP s.lo L j.ns)(Y:L<=j.ns.length)(Z:0<=s.lo)(G:s.lo+1<=j.lo)
  (him:16*s.lo<=im/\im<16*s.lo+16) (t:Int) (ht:(if im%16=0 then(2:Int)else 1)=t) (hn:j.ns.length<100000):
  ∃ns2,BW h id s h3 {j with ns:=ns2 } (c+1) w/\SK ns2 t v/\OP s.lo L ns2/\j.ns<+:ns2/\FC id g h3:=by
 have h1:=y.gs.hl;have h2:=y.gs.hn;have D:bR im:=by unfold bR;omega
 have z:im/16=s.lo:=by omega
 have u:=y.gs.gl.put (n:=⟨3,im,[]⟩) (s:=t) ⟨⟨(by decide:bR 3),D,fun k q=>by cases q⟩,(by decide:([]:List Int).length<=40)⟩ (by rw [fL (ks:=[]) (ss:=[]) trivial];exact(e5Y (by omega)).trans ht) (by rw [<-ht];split<;>decide) (fun _=>by dsimp only;omega)
  (fun _ i m e r=>by dsimp only;rw [z];exact o.ln m (h3C e) r) (fun q=>by cases q)
 have l:=BH.put (t:=t) y.bh y.gs p ⟨u.1,u.2.1,u.2.2.1,u.2.2.2.1⟩ hn;have A:=u.2.2.2.2;generalize(fY j.ns ⟨3,im,[]⟩).1=ns2 at l A;have X:=y.len;have lb:=l.len;refine⟨ns2,⟨l.bh,l.gs,?_,by dsimp only;omega,y.pa,y.pf,y.f,y.lo,y.fv.trans (FV.of (iv:=j.iv) l.fc) y.iv,y.iv⟩,l.sk,?_,l.pre,l.fc⟩
 ·refine⟨y.gx.pre.trans l.pre,y.gx.le,fun i m e T=>?_⟩;rcases h2D i j.ns.length with q|q
  ·exact y.gx.nw i m (b0Z l.pre q e) T
  ·rw [A i m e q];exact⟨fun _=>him.1,fun q=>absurd q (by decide:(3:Int)≠31)⟩
 ·constructor
  ·intro m V r;obtain⟨i,e⟩:=List.mem_iff_getElem?.1 V;rcases h2D i j.ns.length with q|q
   ·exact o.ln _ (h3C (b0Z l.pre q e)) r
   ·have:=A i _ e q;rw [this]at r;exact absurd r (by decide:(3:Int)≠31)
  ·intro i m e r O K;rcases h2D i j.ns.length with q|q
   ·exact o.lv i m (b0Z l.pre q e) r O K
   ·omega
theorem BW.loop{h g h3:Heap}{id c w m:Nat}{s l:BSt}{v:Int}{L:Nat}{ks:List Int}(y:BW h id s g l c w)(p:aQ g id (l.pst ks) 31 s.lo v h3)(o:OP s.lo L l.ns)(h0:0<=s.lo)(a0:s.lo+1<=l.lo)
  (hs:oI l.ns ks (lsL m)) (h1:1<=m) (h2:m<=16) (hk: ∀j:Nat,1<=j->j<ks.length/2->ks.getD j 0<L) (hn:l.ns.length<100000):
  ∃ns2,BW h id s h3 {l with ns:=ns2 } (c+1) w/\SK ns2 3 v/\(∃n,ns2[v.toNat]?=some n/\n.ks=ks)/\l.ns<+:ns2/\FC id g h3:=by
 have V:=y.gs.hl;have O:=(hs.map).2.2;have u:=hs.len;have D:ks.length<=40:=by rw [u];simp [lsL];omega
 have Y:bR s.lo:=by unfold bR;omega
 have z:=y.gs.gl.put (n:=⟨31,s.lo,ks⟩) (s:=3) ⟨⟨(by decide:bR 31),Y,fun k q=>by have:=O k q;unfold bR;omega⟩,D⟩ (by rw [fL hs];exact c6J (by omega) h1 h2) (by decide) (fun q=>by cases q) (fun q=>by cases q)
  (fun _=>⟨by dsimp only;omega,fun m hm om=>o.ln m hm om,fun j a b Z n2 e on T=>by
   have q:=o.lv Z n2 e on (by dsimp only at T;omega) (by
    dsimp only at T b;have:ks.length/2<=16:=by rw [u];simp [lsL];omega
    omega)
   have:=hk j a b;dsimp only;omega⟩)
 have K:=p.2.1;have r:=BH.put (t:=3) y.bh y.gs p ⟨z.1,z.2.1,z.2.2.1,z.2.2.2.1⟩ hn;have X:=z.2.2.2.2;have A: ∃n,(fY l.ns ⟨31,s.lo,ks⟩).1[v.toNat]?=some n/\n.ks=ks:=by
  rw [K];show∃n,(fY l.ns ⟨31,s.lo,ks⟩).1[(fY l.ns ⟨31,s.lo,ks⟩).2.toNat]?=some n/\n.ks=ks
  rcases a3S l.ns ⟨31,s.lo,ks⟩with⟨i,e,G⟩| ⟨_,G⟩
  ·rw [G];exact⟨_,by rw [h0Z];exact e,rfl⟩
  ·rw [G];exact⟨_,by rw [h0Z,h1V (h1D _),h6E];rfl,rfl⟩
 generalize(fY l.ns ⟨31,s.lo,ks⟩).1=ns2 at r X A;have ly:=y.len;have lb:=r.len;refine⟨ns2,⟨r.bh,r.gs,?_,by dsimp only;omega,y.pa,y.pf,y.f,y.lo,y.fv.trans (FV.of (iv:=l.iv) r.fc) y.iv,y.iv⟩,r.sk,A,r.pre,r.fc⟩;refine⟨y.gx.pre.trans r.pre,y.gx.le,fun i m e V=>?_⟩;rcases h2D i l.ns.length with q|q
 ·exact y.gx.nw i m (b0Z r.pre q e) V
 ·rw [X i m e q];exact⟨fun q=>absurd q (by decide:(31:Int)≠3),fun _=>h3P _⟩
theorem eK1{i:List Nd}{op im g:Int}{n:Nd}{m:Nat}(e:i[g.toNat]?=some n)(h:n.ks.length=m):eK i ⟨op,im,[g]⟩=m:=by
 unfold eK
 show(i.getD g.toNat default).ks.length=m;rw [h1A,e];exact h
theorem tM{g w:List Int} :(old g w).length=w.length:=by unfold old;simp
theorem g1H{g w:List Int}{L:Nat}(i: ∀v∈g,v<L)(l: ∀q∈w,0<=q/\q<g.length): ∀v∈old g w,v<L:=fun v h=>by
 unfold old at h;obtain⟨q,j,rfl⟩:=h4O.1 h;have:=l q j;rw [h1A,h0U (show q.toNat<g.length by omega)];exact i _ (h1B _)
theorem f3A{i:List Nd}{g w:List Int}(m:AV i g)(l: ∀q∈w,0<=q/\q<g.length):AV i (old g w):=fun v h=>by
 unfold old at h;obtain⟨q,j,rfl⟩:=h4O.1 h;have:=l q j;rw [h1A,h0U (show q.toNat<g.length by omega)];exact m _ (h1B _)
theorem xK{g w:List Int}{j k:Nat}(m:j<w.length)(i:w[j]=(k:Int))(l:k<g.length):old g (w.take (j+1))=old g (w.take j)++ [g[k]]:=by
 unfold old
 rw [h1J m,h3O,i];simp only [h2H,h4D,h0Z];rw [h1A,h0U l];rfl
theorem tN{a:Int}{g w r:List Int}{L m:Nat}(p: ∀v∈g,v<L)(l: ∀q∈w,0<=q/\q<g.length)(u:(a::old g w++r).length=2*w.length+3): ∀j:Nat,1<=j->j< (a::old g w++r).length/2->(a::old g w++r).getD j 0<L:=fun j h1 h2=>by
 rw [u]at h2;obtain⟨k,rfl⟩: ∃k,j=k+1:=⟨j-1,by omega⟩
 have i:k< (old g w).length:=by rw [tM];omega
 rw [h1A,h3E,h4A,h1Z i,h0U i];exact g1H p l _ (h1B _)
theorem oX{g:List Nd}{a v st:Int}{i w:List Int}(m:SK g 2 a)(j:AV g i)(l: ∀q∈w,0<=q/\q<i.length)(r:SK g 1 v)(p:SK g 2 st):
  oI g (a::old i w++ [v,st]) (2::(List.replicate (w.length+1) 1++2::List.replicate 0 1)):=by
 have h1:oI g (a::old i w) (2::List.replicate (old i w).length 1):=⟨⟨m,by decide⟩,(f3A j l).sks⟩;have h2:oI g [v,st] [1,2]:=⟨⟨r,by decide⟩,⟨p,by decide⟩,trivial⟩;have h3:=h1.append h2;rw [tM]at h3;have e:(2::List.replicate w.length 1++ [1,2]:List Int)=2::(List.replicate (w.length+1) 1++2::List.replicate 0 1):=by
  rw [h4W];simp
 rw [<-e];exact h3
theorem a8Q{g:List Nd}{ks:List Int}{v:Int}{m j:Nat}(h:oI g ks (2::(List.replicate m 1++2::List.replicate j 1)))(i:SK g 1 v):oI g (ks++ [v]) (2::(List.replicate m 1++2::List.replicate (j+1) 1)):=by
 have h3:=h.append (oI.one i (by decide));have e:(2::(List.replicate m 1++2::List.replicate j 1)++ [1]:List Int)=2::(List.replicate m 1++2::List.replicate (j+1) 1):=by
  rw [h4W (n:=j)];simp
 rw [<-e];exact h3
theorem ldW{k:Nat}{w:List Int}{j:Nat}{K:Int->Prop}(l:j<w.length)(g:w[j]=(k:Int))(i:K (k:Int)):aK .i64 (w.map (IV.int .i64)) ((j:Int).toNat*1) K:=
 bV (by rw [h0Z,h1W,h2A,h0U l,g];rfl) i
theorem ldR{k:Nat}{w:List Int}{K:Int->Prop}(i:k<w.length)(g:K w[k]):aK .i64 (w.map (IV.int .i64)) (0+(k:Int).toNat*1) K:=
 bV (by rw [h1Q,h0Z,h1W,h2A,h0U i];rfl) g
theorem f3B{n:Nat} :fF n [IV.bool false]=(List.replicate n false).map IV.bool:=by
 induction n with
 |zero=>rfl
 |succ n ih=>rw [h5X,h2H,<-ih];rfl
structure LwS where
 id:Nat
 ns:List Nd
 c:IV
 d:IV
 st:Int
 vs:List Int
def LwS.pst(x:LwS)(g i:List IV):PSt:=⟨x.ns,[],.vslice none 0 2 2 g,.vslice none 0 2 9 i,x.c,x.d,.int .i64 x.st,.int .i64 0⟩
structure LW(f:Int)(k m b:Nat)(R:Option Nat)(g:Heap)(pa pf:List IV)(x:LwS):Prop where
 hid:x.id<g.next
 hg: ∃lv,g.get x.id= .cells ((x.pst pa pf).cells lv)/\LV g x.id lv x.ns
 nm:(k=0/\x.c= .nilslice) \/ ∃io,x.c= .vslice (some io) k k 1 (((bN f).take k).map IV.str)/\g.get io= .tip k/\io<g.next/\NL g x.id io
 vr:(m=0/\x.d= .nilslice) \/ ∃iv,x.d= .hslice iv 0 m 1/\g.get iv= .cells (x.vs.map (IV.int .i64))/\iv<g.next/\iv≠x.id
 vl:x.vs.length=m
 gl:GL x.ns 0
 av:AV x.ns x.vs
 sk:SK x.ns 2 x.st
 ln:x.ns.length<=b
 fr: ∀j,R=some j->g.get j= .tip 5/\j<g.next/\NL g x.id j
theorem b5N{f:Int}{k:Nat}(h:k< (bN f).length):((bN f).take (k+1)).map IV.str=((bN f).take k).map IV.str++ [.str (bN f)[k]]:=by
 rw [h1J h,h3O];rfl
theorem LV.put{g:Heap}{id:Nat}{lv:IV}{i:List Nd}{a b:List IV}(l:LV g id lv i)(j:g.get id= .cells a):LV (g.set id (.cells b)) id lv i:=l.set j
theorem LW.nm0{f:Int}{m b:Nat}{R:Option Nat}{g:Heap}{l p:List IV}{x:LwS}(w:LW f 0 m b R g l p x){s:List UInt8}(Z: ∃h:0< (bN f).length,s=(bN f)[0]){lv:IV}(L:g.get x.id= .cells ((x.pst l p).cells lv)):
  LW f 1 m b R ((g.push (.tip 1)).set x.id (.cells ((({x with c:= .vslice (some g.next) 1 1 1 [.str s] } :LwS).pst l p).cells lv))) l p {x with c:= .vslice (some g.next) 1 1 1 [.str s] } :=by
 obtain⟨D,⟨lv',h1,h2⟩,h3,h4,h5,X,h7,Y,h9,G⟩:=w;obtain⟨y,rfl⟩:=Z;have e:lv'=lv:=by
  rw [L]at h1;simp only [IObj.cells.injEq,PSt.cells,LwS.pst,h2I,true_and,and_true]at h1;exact h1.symm
 subst e;have i:(g.push (.tip 1)).get x.id= .cells ((x.pst l p).cells lv'):=(aJ D).trans L;have r:NL (g.push (.tip 1)) x.id g.next:=fun cs e a z c q u=>by
  rw [i,IObj.cells.injEq]at q;subst q;rcases h2 with⟨_,A⟩| ⟨io,A,_,l3,_⟩
  ·rw [A]at u;simp [PSt.cells]at u
  ·rw [A]at u;simp only [PSt.cells,h4A,h8B,h0V,IV.vslice.injEq]at u;omega
 have keep: ∀{j n:Nat},(g.push (.tip 1)).get j= .tip n->NL (g.push (.tip 1)) x.id j->_:=fun{j n} ht hn=>vD (b:=(({x with c:= .vslice (some g.next) 1 1 1 [.str (bN f)[0]] } :LwS).pst l p).cells lv') i (fun e n z c q=>⟨e,n,z,c,q⟩) ht hn
 refine⟨h1T D,⟨lv',aH,(h2.push).put i⟩,.inr ⟨g.next,?_,(keep aR r).1,h1G _,(keep aR r).2⟩,?_,h5,X,h7,Y,h9,fun j hj=>?_⟩
 ·rw [b5N y];rfl
 ·rcases h4 with h4| ⟨iv,v1,v2,O,T⟩
  ·exact .inl h4
  ·exact .inr ⟨iv,v1,(aE T).trans ((aJ O).trans v2),h1T O,T⟩
 ·obtain⟨r1,K,r3⟩:=G j hj;obtain⟨t1,V⟩:=keep ((aJ K).trans r1) (r3.push D);exact⟨t1,h1T K,V⟩
theorem LW.nm1{f:Int}{k m b D:Nat}{R:Option Nat}{g:Heap}{r u:List IV}{x:LwS}(w:LW f k m b R g r u x)(hk:k< (bN f).length){c:List IV}(y:x.c= .vslice (some D) k k 1 c){s:List UInt8}(hs:s=(bN f)[k]){lv:IV}(K:g.get x.id= .cells ((x.pst r u).cells lv)):
  LW f (k+1) m b R ((g.set D (.tip (k+1))).set x.id (.cells ((({x with c:= .vslice (some D) (k+1) (k+1) 1 (c++ [.str s]) } :LwS).pst r u).cells lv))) r u {x with c:= .vslice (some D) (k+1) (k+1) 1 (c++ [.str s]) } :=by
 obtain⟨h0,⟨lv',h1,h2⟩,h3,h4,h5,h6,h7,h8,h9,O⟩:=w;have a0:=(nR f).2;have e:lv'=lv:=by
  rw [K]at h1;simp only [IObj.cells.injEq,PSt.cells,LwS.pst,h2I,true_and,and_true]at h1;exact h1.symm
 subst e;rcases h3 with⟨_,h3⟩| ⟨i,n1,G,n3,Z⟩
 ·rw [h3]at y
  cases y
 rw [n1]at y;simp only [IV.vslice.injEq,h0V,true_and]at y;obtain⟨rfl,rfl⟩:=y;have p:i≠x.id:=fun q=>by rw [q,K]at G;cases G
 have A:(g.set i (.tip (k+1))).get x.id= .cells ((x.pst r u).cells lv'):=(aE p.symm).trans K;have keep: ∀{j n:Nat},(g.set i (.tip (k+1))).get j= .tip n->NL (g.set i (.tip (k+1))) x.id j->_:=fun{j n} ht hn=>vD (b:=(({x with c:= .vslice (some i) (k+1) (k+1) 1 (((bN f).take k).map IV.str++ [.str s]) } :LwS).pst r u).cells lv') A (fun e n z c q=>⟨e,n,z,c,q⟩) ht hn
 have X:=keep aH (Z.set p);refine⟨h0,⟨lv',aH,LV.put ?_ A⟩,.inr ⟨i,?_,X.1,n3,X.2⟩,?_,h5,h6,h7,h8,h9,fun j hj=>?_⟩
 ·rcases h2 with l| ⟨iL,V,l2,l3,l4⟩
  ·exact .inl l
  ·refine .inr ⟨iL,V,(aE fun q=>?_).trans l2,l3,l4⟩;exact Z _ _ _ _ _ K (by rw [<-q,V];rfl)
 ·rw [b5N hk,hs]
 ·rcases h4 with h4| ⟨iv,v1,T,v3,Y⟩
  ·exact .inl h4
  ·exact .inr ⟨iv,v1,(aE Y).trans ((aE (fun q=>by rw [q,G]at T;cases T)).trans T),v3,Y⟩
 ·obtain⟨r1,r2,r3⟩:=O j hj;have L:j≠i:=fun q=>by
   rw [q,G,IObj.tip.injEq]at r1;omega
  obtain⟨t1,t2⟩:=keep ((aE L).trans r1) (r3.set p);exact⟨t1,r2,t2⟩
theorem LW.pre{f:Int}{k m b:Nat}{R:Option Nat}{g:Heap}{i l:List IV}{x:LwS}(w:LW f k m b R g i l x){op im:Int}(j:bR op/\bR im)(p:b<=1000):bI g x.id (x.pst i l) op im 0 []:=
 ⟨w.hid,w.hg,⟨rfl,rfl⟩,⟨⟨j.1,j.2,fun k q=>by cases q⟩,(by decide:([]:List Int).length<=40)⟩,w.gl.ok,by have:=w.ln;show x.ns.length<=1000000;omega⟩
theorem LW.put{f:Int}{k m b:Nat}{R:Option Nat}{g h2:Heap}{l r:List IV}{x:LwS}{op im v t:Int}(w:LW f k m b R g l r x)(p:aQ g x.id (x.pst l r) op im v h2)(u:op≠3/\op≠31)(G:bR op/\bR im)(ht:bQ (eK x.ns ⟨op,im,[]⟩) op im []=t)(h0:t≠0):
  ∃ns2,LW f k m (b+1) R h2 l r {x with ns:=ns2 } /\SK ns2 t v:=by
 obtain⟨⟨lv,p1,p2⟩,p3,i⟩:=p;have Y:=w.gl.put (n:=⟨op,im,[]⟩) (s:=t) ⟨⟨G.1,G.2,fun k q=>by cases q⟩,(by decide:([]:List Int).length<=40)⟩ (by rw [fL (ks:=[]) (ss:=[]) trivial];exact ht) h0 (fun q=>absurd q u.1) (fun q=>absurd q u.1) (fun q=>absurd q u.2);obtain⟨g1,g2,K,g4,_⟩:=Y;have z:v=(fY x.ns ⟨op,im,[]⟩).2:=p3;have y:LV h2 x.id lv (fY x.ns ⟨op,im,[]⟩).1:=p2;obtain⟨D,_,n,h4,h5,_,h7,X,h9,A⟩:=w;refine⟨(fY x.ns ⟨op,im,[]⟩).1,⟨h1C D i.nx,⟨lv,p1,y⟩,?_,?_,h5,g1,h7.mono K,X.mono K,by show(fY x.ns ⟨op,im,[]⟩).1.length<=b+1;omega,fun j Z=>?_⟩,by rw [z];exact g2⟩
 ·rcases n with n| ⟨io,n1,n2,O,n4⟩
  ·exact .inl n
  ·obtain⟨a,c⟩:=i.tp _ _ O n2 n4;exact .inr ⟨io,n1,a,h1C O i.nx,c⟩
 ·rcases h4 with h4| ⟨iv,v1,v2,T,V⟩
  ·exact .inl h4
  ·exact .inr ⟨iv,v1,i.cl _ _ T V v2,h1C T i.nx,V⟩
 ·obtain⟨r1,L,r3⟩:=A j Z;obtain⟨a,c⟩:=i.tp _ _ L r1 r3;exact⟨a,h1C L i.nx,c⟩
theorem LW.vr0{f:Int}{k b:Nat}{R:Option Nat}{g:Heap}{i l:List IV}{x:LwS}{v:Int}(w:LW f k 0 b R g i l x)(T:SK x.ns 1 v){lv:IV}(K:g.get x.id= .cells ((x.pst i l).cells lv)):
  LW f k 1 b R ((g.push (.cells [.int .i64 v])).set x.id (.cells ((({x with d:= .hslice g.next 0 1 1,vs:=[v] } :LwS).pst i l).cells lv))) i l {x with d:= .hslice g.next 0 1 1,vs:=[v] } :=by
 obtain⟨m,⟨lv',h1,h2⟩,h3,h4,h5,L,h7,O,Z,y⟩:=w;have e:lv'=lv:=by
  rw [K]at h1;simp only [IObj.cells.injEq,PSt.cells,LwS.pst,h2I,true_and,and_true]at h1;exact h1.symm
 subst e;have r:(g.push (.cells [.int .i64 v])).get x.id= .cells ((x.pst i l).cells lv'):=(aJ m).trans K;have keep: ∀{j n:Nat},(g.push (.cells [.int .i64 v])).get j= .tip n->NL (g.push (.cells [.int .i64 v])) x.id j->_:=fun{j n} ht hn=>vD (b:=(({x with d:= .hslice g.next 0 1 1,vs:=[v] } :LwS).pst i l).cells lv') r (fun e n z c q=>⟨e,n,z,c,q⟩) ht hn
 have p:g.next≠x.id:=h3H m;refine⟨h1T m,⟨lv',aH,(h2.push).put r⟩,?_,.inr ⟨g.next,rfl,(aE p).trans aR,h1G _,p⟩,rfl,L,fun q Y=>by rw [h2J.1 Y];exact T,O,Z,fun j V=>?_⟩
 ·rcases h3 with h3| ⟨io,X,n2,G,n4⟩
  ·exact .inl h3
  ·obtain⟨A,u⟩:=keep ((aJ G).trans n2) (n4.push m);exact .inr ⟨io,X,A,h1T G,u⟩
 ·obtain⟨r1,D,r3⟩:=y j V;obtain⟨A,u⟩:=keep ((aJ D).trans r1) (r3.push m);exact⟨A,h1T D,u⟩
theorem LW.vr1{f:Int}{k m b iv:Nat}{R:Option Nat}{g:Heap}{l p:List IV}{x:LwS}{v:Int}(w:LW f k m b R g l p x)(hd:x.d= .hslice iv 0 m 1)(hv:SK x.ns 1 v){lv:IV}(hg:g.get x.id= .cells ((x.pst l p).cells lv)):
  g.get iv= .cells (x.vs.map (IV.int .i64))/\iv≠x.id/\LW f k (m+1) b R ((((g.set iv .dead).push (.cells (List.take (m*1) (x.vs.map (IV.int .i64))++ [.int .i64 v])))).set x.id (.cells ((({x with d:= .hslice g.next 0 (m+1) 1,vs:=x.vs++ [v] } :LwS).pst l p).cells lv))) l p {x with d:= .hslice g.next 0 (m+1) 1,vs:=x.vs++ [v] } :=by
 obtain⟨A,⟨lv',h1,h2⟩,h3,h4,X,h6,h7,h8,h9,L⟩:=w;have e:lv'=lv:=by
  rw [hg]at h1;simp only [IObj.cells.injEq,PSt.cells,LwS.pst,h2I,true_and,and_true]at h1;exact h1.symm
 subst e;rcases h4 with⟨_,h4⟩| ⟨i,v1,O,v3,V⟩
 ·rw [h4]at hd
  cases hd
 rw [v1]at hd;simp only [IV.hslice.injEq,true_and,and_true]at hd;subst hd;have K:(g.set i .dead).get x.id= .cells ((x.pst l p).cells lv'):=(aE V.symm).trans hg;have y:((g.set i .dead).push (.cells (List.take (m*1) (x.vs.map (IV.int .i64))++ [.int .i64 v]))).get x.id= .cells ((x.pst l p).cells lv'):=(aJ (show x.id< (g.set i .dead).next from A)).trans K;have keep: ∀{j n:Nat},g.get j= .tip n->j<g.next->NL g x.id j->_:=fun{j n} ht G hn=>vD (m:=n) (j:=j) (b:=(({x with d:= .hslice g.next 0 (m+1) 1,vs:=x.vs++ [v] } :LwS).pst l p).cells lv') y (fun e n z c q=>⟨e,n,z,c,q⟩) ((aJ (show j< (g.set i .dead).next from G)).trans ((aE (fun q=>by rw [q,O]at ht;cases ht)).trans ht)) ((hn.set V).push A)
 have u:g.next≠x.id:=h3H A;refine⟨O,V,⟨h1T A,⟨lv',aH,((h2.set O).push).put y⟩,?_,.inr ⟨g.next,rfl,?_,h1G _,u⟩,by show(x.vs++ [v]).length=m+1;rw [h1E,X];rfl,h6,fun q r=>?_,h8,h9,fun j G=>?_⟩⟩
 ·rcases h3 with h3| ⟨io,n1,n2,Z,n4⟩
  ·exact .inl h3
  ·obtain⟨T,D⟩:=keep n2 Z n4;exact .inr ⟨io,n1,T,h1T Z,D⟩
 ·refine(aE u).trans (aR.trans ?_);rw [h1H (by rw [h1P,X];omega),h3O];rfl
 ·rcases h2S.1 r with r|r
  ·exact h7 q r
  ·rw [h2J.1 r];exact hv
 ·obtain⟨r1,Y,r3⟩:=L j G;obtain⟨T,D⟩:=keep r1 Y r3;exact⟨T,h1T Y,D⟩
theorem LW.fin{f:Int}{k b:Nat}{R:Option Nat}{g:Heap}{i j:List IV}{x:LwS}(w:LW f k k b R g i j x)(m:k=(bN f).length)(z:qG i j)(A:f=0\/f=1)(X:b<=1000):
  ∃s:BSt,s.f=f/\s.lo=0/\s.ns=x.ns/\BH g x.id s/\GS s:=by
 obtain⟨u,⟨lv,h1,h2⟩,h3,h4,l,p,D,r,Z,G⟩:=w;have Y:=nR f;rcases h3 with⟨h3,_⟩| ⟨K,y,n2,n3,n4⟩
 ·omega
 rcases h4 with⟨h4,_⟩| ⟨iv,O,L,T,V⟩
 ·omega
 refine⟨⟨i,j,f,x.ns,some K,k,iv,x.vs,x.st,0⟩,rfl,rfl,rfl,⟨u,⟨lv,?_,h2⟩,T,V,L⟩,⟨p,D,r,by show x.vs.length=_;rw [l,m],z,A,by show x.ns.length<=100000;omega,by show(0:Int)<=0/\(0:Int)<=10;decide⟩⟩;rw [h1,LwS.pst,PSt.cells,BSt.cells,y,O,h1H (by omega),l,m]
theorem LW.nm0'{f:Int}{k m b:Nat}{R:Option Nat}{g:Heap}{i j:List IV}{x:LwS}(w:LW f k m b R g i j x)(h:k=0){s:List UInt8}(p: ∃h:k< (bN f).length,s=(bN f)[k]){lv:IV}(l:g.get x.id= .cells ((x.pst i j).cells lv)):
  LW f (k+1) m b R ((g.push (.tip 1)).set x.id (.cells ((({x with c:= .vslice (some g.next) 1 1 1 [.str s] } :LwS).pst i j).cells lv))) i j {x with c:= .vslice (some g.next) 1 1 1 [.str s] } :=by
 subst h;exact w.nm0 p l
theorem LW.vr0'{f:Int}{k m b:Nat}{R:Option Nat}{g:Heap}{i j:List IV}{x:LwS}{v:Int}(w:LW f k m b R g i j x)(h:m=0)(l:SK x.ns 1 v){lv:IV}(p:g.get x.id= .cells ((x.pst i j).cells lv)):
  LW f k (m+1) b R ((g.push (.cells [.int .i64 v])).set x.id (.cells ((({x with d:= .hslice g.next 0 1 1,vs:=[v] } :LwS).pst i j).cells lv))) i j {x with d:= .hslice g.next 0 1 1,vs:=[v] } :=by
 subst h;exact w.vr0 l p
theorem GL.nil0:GL [] 0:=⟨fun n h=>(by cases h),fun s h=>(by cases h),fun n h=>(by cases h),fun n h=>(by cases h),fun i j n m h=>(by simp at h),fun i n h=>(by simp at h)⟩
def lw0(j:Nat):LwS:=⟨j,[],.nilslice,.nilslice,0,[]⟩
theorem LW.init{f:Int}{R:Option Nat}{g h2:Heap}{i l:List IV}{v:Int}(p:aQ (g.push (.cells (((lw0 g.next).pst i l).cells .nilslice))) g.next ((lw0 g.next).pst i l) 26 0 v h2)(L: ∀j,R=some j->g.get j= .tip 5/\j<g.next):
  ∃lv ns2,h2.get g.next= .cells (((lw0 g.next).pst i l).cells lv)/\LW f 0 0 1 R (h2.set g.next (.cells (((⟨g.next,ns2,.nilslice,.nilslice,v,[]⟩:LwS).pst i l).cells lv))) i l ⟨g.next,ns2,.nilslice,.nilslice,v,[]⟩:=by
 obtain⟨⟨lv,A,V⟩,Z,r⟩:=p;have K:=GL.nil0.put (n:=⟨26,0,[]⟩) (s:=2) ⟨⟨(by decide:bR 26),(by decide:bR 0),fun k q=>by cases q⟩,(by decide:([]:List Int).length<=40)⟩ (by rw [fL (ks:=[]) (ss:=[]) trivial];exact b5M) (by decide) (fun q=>by cases q) (fun q=>by cases q) (fun q=>by cases q);obtain⟨g1,g2,_,G,_⟩:=K;have y:v=(fY [] ⟨26,0,[]⟩).2:=Z;refine⟨lv,(fY [] ⟨26,0,[]⟩).1,A,⟨h1C (h1G _) r.nx,⟨lv,aH,LV.put V A⟩,.inl ⟨rfl,rfl⟩,.inl ⟨rfl,rfl⟩,rfl,g1,(fun q m=>by cases m),by rw [y];exact g2,by simpa using G,fun j T=>?_⟩⟩;obtain⟨r1,u⟩:=L j T;have O:NL (g.push (.cells (((lw0 g.next).pst i l).cells .nilslice))) g.next j:=fun cs e n z c q m=>by
  rw [aR,IObj.cells.injEq]at q;subst q
  cases m
 obtain⟨Y,D⟩:=r.tp j 5 (h1T u) ((aJ u).trans r1) O;obtain⟨X,u2⟩:=vD (b:=((⟨g.next,(fY [] ⟨26,0,[]⟩).1,.nilslice,.nilslice,v,[]⟩:LwS).pst i l).cells lv) A (fun e n z c q=>⟨e,n,z,c,q⟩) Y D;exact⟨X,h1C (h1T u) r.nx,u2⟩
theorem c6K{g:Heap}{i j:List IV} :bI (g.push (.cells (((lw0 g.next).pst i j).cells .nilslice))) g.next ((lw0 g.next).pst i j) 26 0 0 []:=
 ⟨h1G _,⟨.nilslice,aR,.inl ⟨rfl,rfl⟩⟩,⟨rfl,rfl⟩,⟨⟨(by decide:bR 26),(by decide:bR 0),fun k q=>by cases q⟩,(by decide:([]:List Int).length<=40)⟩,fun n h=>(by cases h),h1N _⟩
structure Gr where
 ns:List Nd
 lo:Int
 v:Int
 st:Int
structure GrOk(g:Gr):Prop where
 gl:GL g.ns g.lo
 lo:0<=g.lo/\g.lo<=10
 v:SK g.ns 1 g.v
 st:SK g.ns 2 g.st
 ln:g.ns.length<=2000
def gC(nm:List UInt8)(i:Int)(g:Gr):List IV:=[.str nm,.int .i64 i,.vslice none 0 g.ns.length 3 (g.ns.flatMap cN),.int .i64 g.v,.int .i64 g.st]
def c1C(c:List IV):Prop:= ∃g0 g1:Gr,GrOk g0/\GrOk g1/\c=gC [102] 2 g0++gC [103] 1 g1
theorem c1C.pure{c:List IV}(h:c1C c):aN c=true:=by
 obtain⟨i,g,_,_,rfl⟩:=h;simp only [aN,bL,gC,bG,gI,h1L]
structure FnD where
 i:Nat
 F:IV
 jr:Nat
 gr:Gr
 nm:List UInt8
 pc:List (List UInt8)
 lc:List (List UInt8)
 b:List S
 ek:Int
 en:Int
 enm:List UInt8
 eop:Int
 eks:List E
def FnD.R(x:FnD):Option Nat:=if x.i=0 then none else some x.jr
def g5P(x:FnD):Prop:=(x.i=0/\x.F= .nilslice/\x.nm=[102]/\x.pc.length=2) \/ (x.i=1/\x.F= .vslice (some x.jr) 5 1 5 (gC [102] 2 x.gr)/\GrOk x.gr/\x.nm=[103]/\x.pc.length=1)
structure FnP(x:FnD):Prop where
 p:x.pc++x.lc=bN x.i
 gb:GB x.i x.b (.mk x.ek x.en x.enm x.eop x.eks)
 fr:g5P x
structure LwP(ac fc:List IV)(g:Heap)(k:Nat)(x:FnD)(y:LwS):Prop where
 fn:FnP x
 le:k<=x.pc.length
 w:LW x.i k k (1+k) x.R g ac fc y
structure LwQ(ac fc:List IV)(g:Heap)(k:Nat)(x:FnD)(y:LwS):Prop where
 fn:FnP x
 le:k<=x.lc.length
 w:LW x.i (x.pc.length+k) (x.pc.length+k) (1+(x.pc.length+k)) x.R g ac fc y
structure LwO(g:Heap)(i jr:Nat)(c:List IV):Prop where
 p:(i=1/\(∃g0,GrOk g0/\c=gC [102] 2 g0)/\g.get jr= .tip 5/\jr<g.next) \/ (i=2/\∃g0 g1,GrOk g0/\GrOk g1/\c=gC [102] 2 g0++gC [103] 1 g1)
theorem e9A{g j l:List (List UInt8)}(h:g++j=l){k:Nat}(i:k<g.length): ∃h:k<l.length,g[k]=l[k]:=by
 subst h;exact⟨by rw [h1E];omega,(h7T i).symm⟩
theorem e9B{g i l:List (List UInt8)}(h:g++i=l){k:Nat}(j:k<i.length): ∃h:g.length+k<l.length,i[k]=l[g.length+k]:=by
 subst h;refine⟨by rw [h1E];omega,?_⟩;rw [h7P (by omega)];simp
theorem cA{g:Heap}{x:PSt}{lv:IV}{j:Nat}(h:g.get j= .cells (x.cells lv)):aY g j 4=some x.d:=by
 unfold aY
 rw [h];rfl
def qV(op:Int)(s:List Int):Bool:=if op=30 then a1H s else a3P op s
def c1D(op im:Int)(k:List Int):Int:=if op=30 then 2 else a1I op im k
theorem c6L{op im:Int}{k:List Int}(h:op≠30):c1D op im k=a1I op im k:=if_neg h
theorem c1E{e:Nat}{op im:Int}{k:List Int}(g: ∀x∈k,1<=x/\x<=3)(i:k=[3]->e<=33):bQ e op im k=if qV op k=true/\wZ e op im=true then c1D op im k else 0:=by
 by_cases h30:op=30
 ·subst h30;unfold bQ qV wZ c1D
  simp
 ·unfold qV c1D
  rw [if_neg h30,if_neg h30];exact d1B h30 g i
theorem SIG.finH{l:List Nd}{i j:Nat}{k:List Int}(h:SIG l i j k)(u:i<l.length)(y:l[i].ks.length<=j):
  cC (l.take i) (aG (l.take i)) l[i]=(if qV l[i].op k=true/\wZ (eK l l[i]) l[i].op l[i].im=true then c1D l[i].op l[i].im k else 0)/\k.length=l[i].ks.length/\(qV l[i].op k=true->l[i].op=25-> ∃q:Int,l[i].ks=[q]/\(0<=q/\q<l.length)/\3<=(l.getD q.toNat default).ks.length/\(l.getD q.toNat default).ks.length<=33):=by
 have D:=h.rng;obtain⟨h1,h2,h3,h4⟩:=h.lst u y;have m:k=[3]-> ∃q:Int,l[i].ks=[q]/\(0<=q/\q<l.length)/\3<=(l.getD q.toNat default).ks.length/\(l.getD q.toNat default).ks.length<=33:=fun e=>by
  obtain⟨n,p,K,A,g⟩:=h;obtain rfl:l[i]=n:=by rw [h0U u]at p;exact h1M p
  rw [h1H y,e]at g;have G:l[i].ks.length=1:=by rw [<-h2,e];rfl
  match hks:l[i].ks,G with
  | [q],_=>
   rw [hks,h2H,h2I]at g;have z:=h3 q (by rw [hks];exact h2C);have r:=zF g.1.symm;rw [oV (by have:=r.1;rw [h1Y]at this;omega)]at r;exact⟨q,rfl,z,r.2⟩
 refine⟨?_,h2,fun v o=>?_⟩
 ·rw [h1];refine c1E D fun e=>?_
  obtain⟨q,p,K,A,g⟩:=m e;show(l.getD (l[i].ks.getD 0 0).toNat default).ks.length<=33;rw [p];exact g
 ·unfold qV a3P at v;rw [o,if_neg (by decide),if_neg (by decide),if_pos rfl,decide_eq_true_eq]at v;exact m v
def SPH(h:Heap)(id:Nat)(l:List Nd)(i:Nat)(g:List Int):Prop:=(i<l.length/\(∀x∈l,x.ks.length<=1000000/\True)/\l.length<=1000000)/\h.get id= .cells (g.map (IV.int .i64))/\id<h.next/\g.length=l.length/\g.take i=aG (l.take i)
def lE(n k:Nat):List Int:=(n:Int)::List.replicate k ((n:Int)+1)++(n:Int)::List.replicate (k-1) ((n:Int)+1)
def iW(n k:Nat):List Nd:=[⟨26,0,[]⟩,⟨1,0,[]⟩,⟨31,0,lE n k⟩]
def Keep.loopC(n k:Nat):List IV:=(iW n k).flatMap cN
theorem a3U{n k:Nat}(h:1<=k):(lE n k).length=2*k+1:=by
 unfold lE
 simp only [h1E,h1O,h3D];omega
theorem a8R{n k:Nat}{ks:List Int}(h:1<=k)(e:ks=(n:Int)::List.replicate (k-1) ((n:Int)+1)):lE n k=(ks++ [(n:Int)+1])++ks:=by
 have g:(n:Int)::List.replicate k ((n:Int)+1)=ks++ [(n:Int)+1]:=by
  rw [e,h3E,<-List.replicate_succ',show k-1+1=k by omega]
 unfold lE
 rw [g,<-e]
theorem sE{l:List Nd}{k:Nat} :(l++iW l.length k).flatMap cN=l.flatMap cN++ [.int .i64 26,.int .i64 0,.vslice none 0 0 1 [],.int .i64 1,.int .i64 0,.vslice none 0 0 1 []]++ [.int .i64 31,.int .i64 0,.vslice none 0 (lE l.length k).length 1 ((lE l.length k).map (IV.int .i64))]:=by
 rw [h3M,h2V];rfl
theorem oI.rep{g:List Nd}{k:Int}(h:SK g 1 k): ∀m:Nat,oI g (List.replicate m k) (List.replicate m 1)
 |0=>trivial
 |m+1=>⟨⟨h,by decide⟩,oI.rep h m⟩
theorem c1F{g:List Nd}{n k:Nat}(h1:SK g 2 (n:Int))(h2:SK g 1 ((n:Int)+1)):oI g (lE n k) (lsL k):=by
 have a:oI g ((n:Int)::List.replicate k ((n:Int)+1)) (2::List.replicate k 1):=⟨⟨h1,by decide⟩,oI.rep h2 k⟩;have b:oI g ((n:Int)::List.replicate (k-1) ((n:Int)+1)) (2::List.replicate (k-1) 1):=⟨⟨h1,by decide⟩,oI.rep h2 (k-1)⟩;exact a.append b
theorem sF{l:List Nd}{n:Nd} :(aG (l++ [n])).getD l.length 0=cC l (aG l) n:=by
 rw [gM,h1A,h1V (by rw [bD];exact h1D _),bD,h6E];rfl
theorem b1A{l:List Nd}{k:Nat}(h1:1<=k)(h2:k<=16):aG (l++iW l.length k)=aG l++ [2,1,3]:=by
 have r:aG (l++ [⟨26,0,[]⟩])=aG l++ [2]:=by
  rw [gM]
  congr 2
 have g:aG ((l++ [⟨26,0,[]⟩])++ [⟨1,0,[]⟩])=(aG l++ [2])++ [1]:=by
  rw [gM,r]
  congr 2
 have i:(aG l).length=l.length:=bD l;have p:oI ((l++ [⟨26,0,[]⟩])++ [⟨1,0,[]⟩]) (lE l.length k) (lsL k):=by
  refine c1F ⟨by omega,by simp only [h1E,h1O,h1U];omega,?_⟩ ⟨by omega,by simp only [h1E,h1O,h1U];omega,?_⟩
  ·rw [g,h0Z,h1A,h2V,h1V (by omega),i,h6E];rfl
  ·rw [g,show((l.length:Int)+1).toNat=l.length+1 by omega,h1A,h2V,h1V (by omega),i,h5C];rfl
 have m:aG (((l++ [⟨26,0,[]⟩])++ [⟨1,0,[]⟩])++ [⟨31,0,lE l.length k⟩])=((aG l++ [2])++ [1])++ [3]:=by
  rw [gM,g]
  congr 2
  rw [<-g];exact(fL p).trans (c6J (by decide) h1 h2)
 have j:l++iW l.length k=((l++ [⟨26,0,[]⟩])++ [⟨1,0,[]⟩])++ [⟨31,0,lE l.length k⟩]:=by
  rw [h2V,h2V];rfl
 rw [j,m,h2V,h2V];rfl
def tT(l:List Nd)(p:Int×Nat):List Nd:=if p.1=1 then l++ [⟨1,0,[]⟩]else if p.1=2 then l++ [⟨26,0,[]⟩]else l++iW l.length p.2
def a3V(l:List Nd)(p:Int×Nat):Nat:=if p.1=1\/p.1=2 then l.length else l.length+2
theorem c6M{l:List Nd}{p:Int×Nat}(h:(p.1=1\/p.1=2\/p.1=3)/\(1<=p.2/\p.2<=16)):l<+:tT l p/\SK (tT l p) p.1 (a3V l p:Int)/\(p.1=3->((tT l p).getD (a3V l p) default).ks.length=2*p.2+1):=by
 obtain⟨s,m⟩:=p;obtain⟨g,h1,h2⟩:=h;dsimp only at g h1 h2;have i:(aG l).length=l.length:=bD l;rcases g with rfl|rfl|rfl
 ·refine⟨h3Y _ _,⟨by omega,?_,?_⟩,fun q=>absurd q (by dsimp only;decide)⟩
  ·show((l.length:Nat):Int)< ((l++ [⟨1,0,[]⟩]:List Nd).length:Int);rw [h1E];simp only [h1O,h1U];omega
  ·show(aG (l++ [⟨1,0,[]⟩])).getD ((l.length:Nat):Int).toNat 0=1;rw [h0Z,sF];exact(fL (ks:=[]) (ss:=[]) trivial).trans eJ
 ·refine⟨h3Y _ _,⟨by omega,?_,?_⟩,fun q=>absurd q (by dsimp only;decide)⟩
  ·show((l.length:Nat):Int)< ((l++ [⟨26,0,[]⟩]:List Nd).length:Int);rw [h1E];simp only [h1O,h1U];omega
  ·show(aG (l++ [⟨26,0,[]⟩])).getD ((l.length:Nat):Int).toNat 0=2;rw [h0Z,sF];exact(fL (ks:=[]) (ss:=[]) trivial).trans b5M
 ·refine⟨h3Y _ _,⟨by omega,?_,?_⟩,fun _=>?_⟩
  ·show((l.length+2:Nat):Int)< ((l++iW l.length m).length:Int);rw [h1E];show((l.length+2:Nat):Int)< ((l.length+3:Nat):Int);omega
  ·show(aG (l++iW l.length m)).getD ((l.length+2:Nat):Int).toNat 0=3;rw [h0Z,b1A h1 h2,h1A,h1V (by omega),i,h5C];rfl
  ·show((l++iW l.length m).getD (l.length+2) default).ks.length=2*m+1;rw [h1A,h1V (by omega),h5C];exact a3U h1
def iD(a:List Nd×List Int)(ps:List (Int×Nat)):List Nd×List Int:=ps.foldl (fun a p=>(tT a.1 p,a.2++ [(a3V a.1 p:Int)])) a
def okP(p:Int×Nat):Prop:=(p.1=1\/p.1=2\/p.1=3)/\(1<=p.2/\p.2<=16)
theorem c6N: ∀(ps:List (Int×Nat))(l:List Nd)(ks ss:List Int),oI l ks ss->(∀p∈ps,okP p)->oI (iD (l,ks) ps).1 (iD (l,ks) ps).2 (ss++ps.map Prod.fst)/\l<+:(iD (l,ks) ps).1/\ks<+:(iD (l,ks) ps).2
 | [],l,ks,ss,h,_=>by
  rw [h4D,h3V];exact⟨h,h4F _,h4F _⟩
 |p::r,l,ks,ss,h,hp=>by
  have m:=hp p h2C;obtain⟨i,y,_⟩:=c6M m;have g:p.1≠0:=by
   have:=m.1;omega
  obtain⟨j,g2,z⟩:=c6N r (tT l p) (ks++ [(a3V l p:Int)]) (ss++ [p.1]) ((h.mono i).append (oI.one y g)) fun q u=>hp q (h2N _ u)
  rw [h2V]at j;exact⟨j,i.trans g2,(h3Y _ _).trans z⟩
theorem d4Z{ps:List (Int×Nat)}(g: ∀p∈ps,okP p)(op im:Int)(e:Nat)(j: ∀p,ps=[p]->p.1=3->e=2*p.2+1):
  cC (iD ([],[]) ps).1 (aG (iD ([],[]) ps).1) ⟨op,im,(iD ([],[]) ps).2⟩=bQ e op im (ps.map Prod.fst):=by
 have i:=(c6N ps [] [] [] trivial g).1;rw [h3U]at i;rw [fL i];refine a3M fun q=>?_
 clear i
 match ps,q,j,g with
 | [],q,_,_=>cases q
 |_::_::_,q,_,_=>exact absurd q (by simp)
 | [p],q,j,g=>
  have h3:p.1=3:=by simpa using q
  obtain⟨_,_,m⟩:=c6M (l:=[]) (g p h2C);rw [j p rfl h3];exact m h3
def vE(l:List Nd)(g:List Int)(q:Int):Int×Nat:=(g.getD q.toNat 0,if g.getD q.toNat 0=3 then((l.getD q.toNat default).ks.length-1)/2 else 1)
def kY(l:List Nd)(i j:Nat)(g:List Int):List (Int×Nat):=((l.getD i default).ks.take j).map (vE l g)
structure NGP(l:List Nd)(i:Nat)(k0:List Int):Prop where
 hi:i<l.length
 hll:l.length<=100000
 hks: ∀n∈l,n.ks.length<=40
 hkl:k0.length=l.length
 hkt:k0.take i=aG (l.take i)
 hko:(l.getD i default).ks.all (dL (aG (l.take i)))=true
theorem NGP.kid{l:List Nd}{i:Nat}{g:List Int}(h:NGP l i g){q:Int}(p:q∈ (l.getD i default).ks):(0<=q/\q<i)/\q.toNat<g.length/\g.getD q.toNat 0=(aG (l.take i)).getD q.toNat 0/\(g.getD q.toNat 0=1\/g.getD q.toNat 0=2\/g.getD q.toNat 0=3)/\(g.getD q.toNat 0=3->(l.getD q.toNat default).ks.length%2=1/\3<=(l.getD q.toNat default).ks.length/\(l.getD q.toNat default).ks.length<=33):=by
 obtain⟨y,m,r⟩:=qF (h2L.1 h.hko q p);have D:=h.hkl;have z:=h.hi;rw [bD,h1Y]at m;have e:g.getD q.toNat 0=(aG (l.take i)).getD q.toNat 0:=by
  rw [<-h.hkt,h1A,h1A,h3L (by omega)]
 have j:q.toNat< (aG (l.take i)).length:=by rw [bD,h1Y];omega
 have u:(aG (l.take i)).getD q.toNat 0=(aG (l.take i))[q.toNat]:=by rw [h1A,h0U j];rfl
 have A:=a3O _ _ (h1B j);refine⟨⟨y,by omega⟩,by omega,e,by rw [e];rw [u]at r⊢;omega,fun h3=>?_⟩;rw [e]at h3;have a:=a3L h3;have b:=zF h3;rw [oV (by omega)]at a b;exact⟨a,b.2⟩
theorem NGP.okp{l:List Nd}{i:Nat}{g:List Int}(h:NGP l i g){q:Int}(j:q∈ (l.getD i default).ks):okP (vE l g q):=by
 obtain⟨_,_,_,a,b⟩:=h.kid j;refine⟨a,?_⟩;unfold vE
 dsimp only;split
 ·rename_i c;have:=b c;omega
 ·omega
theorem NGP.ps{l:List Nd}{i:Nat}{g:List Int}(h:NGP l i g)(j:Nat): ∀p∈kY l i j g,okP p:=by
 intro p m;unfold kY at m;obtain⟨q,r,rfl⟩:=h4O.1 m;exact h.okp (h4X r)
theorem d1D(a:List Nd×List Int)(ps:List (Int×Nat))(p:Int×Nat):iD a (ps++ [p])=(tT (iD a ps).1 p,(iD a ps).2++ [(a3V (iD a ps).1 p:Int)]):=by
 unfold iD
 rw [h7M];rfl
theorem d5A{l:List Nd}{i j:Nat}{g:List Int}(m:j< (l.getD i default).ks.length):kY l i (j+1) g=kY l i j g++ [vE l g (l.getD i default).ks[j]]:=by
 unfold kY
 rw [h1J m,h3O];rfl
theorem a3W{l:List Nd}{i j:Nat}{g:List Int}(m:j< (l.getD i default).ks.length){few:List Nd}{kids:List Int}(e:(few,kids)=iD ([],[]) (kY l i j g)):(tT few (vE l g (l.getD i default).ks[j]),kids++ [(a3V few (vE l g (l.getD i default).ks[j]):Int)])=iD ([],[]) (kY l i (j+1) g):=by
 rw [d5A m,d1D,<-e]
theorem a8S{l:List Nd}{i j:Nat}{g:List Int}(m:j< (l.getD i default).ks.length){few:List Nd}{kids:List Int}(e:(few,kids)=iD ([],[]) (kY l i j g))(s:g.getD ((l.getD i default).ks[j]).toNat 0=1):(few++ [⟨1,0,[]⟩],kids++ [(few.length:Int)])=iD ([],[]) (kY l i (j+1) g):=by
 rw [<-a3W m e];have a:tT few (vE l g (l.getD i default).ks[j])=few++ [⟨1,0,[]⟩]:=if_pos s;have b:a3V few (vE l g (l.getD i default).ks[j])=few.length:=if_pos (.inl s);rw [a,b]
theorem a8T{l:List Nd}{i j:Nat}{g:List Int}(m:j< (l.getD i default).ks.length){few:List Nd}{kids:List Int}(e:(few,kids)=iD ([],[]) (kY l i j g))(s:g.getD ((l.getD i default).ks[j]).toNat 0=2):(few++ [⟨26,0,[]⟩],kids++ [(few.length:Int)])=iD ([],[]) (kY l i (j+1) g):=by
 rw [<-a3W m e];have a:tT few (vE l g (l.getD i default).ks[j])=few++ [⟨26,0,[]⟩]:=(if_neg (fun c=>by have:g.getD ((l.getD i default).ks[j]).toNat 0=1:=c;omega)).trans (if_pos s);have b:a3V few (vE l g (l.getD i default).ks[j])=few.length:=if_pos (.inr s);rw [a,b]
theorem a8U{l:List Nd}{i j:Nat}{g:List Int}(p:j< (l.getD i default).ks.length){few:List Nd}{kids:List Int}(e:(few,kids)=iD ([],[]) (kY l i j g))(s:g.getD ((l.getD i default).ks[j]).toNat 0=3):(few++iW few.length (((l.getD ((l.getD i default).ks[j]).toNat default).ks.length-1)/2),kids++ [((few.length+2:Nat):Int)])=iD ([],[]) (kY l i (j+1) g):=by
 rw [<-a3W p e];have m:(vE l g (l.getD i default).ks[j]).2=((l.getD ((l.getD i default).ks[j]).toNat default).ks.length-1)/2:=if_pos s;have a:tT few (vE l g (l.getD i default).ks[j])=few++iW few.length (vE l g (l.getD i default).ks[j]).2:=(if_neg (fun c=>by have:g.getD ((l.getD i default).ks[j]).toNat 0=1:=c;omega)).trans (if_neg (fun c=>by have:g.getD ((l.getD i default).ks[j]).toNat 0=2:=c;omega));have b:a3V few (vE l g (l.getD i default).ks[j])=few.length+2:=if_neg (fun c=>by have:g.getD ((l.getD i default).ks[j]).toNat 0=1\/g.getD ((l.getD i default).ks[j]).toNat 0=2:=c;omega);rw [a,b,m]
theorem d5B: ∀(ps:List (Int×Nat))(a:List Nd×List Int),(iD a ps).1.length<=a.1.length+3*ps.length/\(iD a ps).2.length=a.2.length+ps.length
 | [],a=>⟨h1D _,rfl⟩
 |p::r,a=>by
  obtain⟨h1,h2⟩:=d5B r (tT a.1 p,a.2++ [(a3V a.1 p:Int)]);have h3:(tT a.1 p).length<=a.1.length+3:=by
   unfold tT
   split
   ·simp
   split
   ·simp
   ·simp [iW]
  have e:iD a (p::r)=iD (tT a.1 p,a.2++ [(a3V a.1 p:Int)]) r:=rfl;rw [e];simp only [h1E,h1O,h1U]at h1 h2⊢;exact⟨by omega,by omega⟩
theorem e6A{l:List Nd}{p:Int×Nat}(i:okP p)(h: ∀x∈l,x.ks.length<=1000000): ∀x∈tT l p,x.ks.length<=1000000:=by
 intro x g;unfold tT at g;split at g
 ·rcases h2S.1 g with g|g
  ·exact h x g
  ·rw [h2J.1 g];simp
 split at g
 ·rcases h2S.1 g with g|g
  ·exact h x g
  ·rw [h2J.1 g];simp
 ·rcases h2S.1 g with g|g
  ·exact h x g
  ·unfold iW at g;simp only [h2O,h4G,or_false]at g;have:=i.2;rcases g with rfl|rfl|rfl
   ·simp
   ·simp
   ·show(lE _ _).length<=_;rw [a3U this.1];omega
theorem d5C: ∀(ps:List (Int×Nat))(a:List Nd×List Int),(∀p∈ps,okP p)->(∀x∈a.1,x.ks.length<=1000000)-> ∀x∈ (iD a ps).1,x.ks.length<=1000000
 | [],a,_,h=>h
 |p::r,a,hp,h=>d5C r _ (fun q g=>hp q (h2N _ g)) (e6A (hp p h2C) h)
theorem NGP.sz{l:List Nd}{i:Nat}{g:List Int}(h:NGP l i g){j:Nat}(u:j<=(l.getD i default).ks.length){few:List Nd}{kids:List Int}(e:(few,kids)=iD ([],[]) (kY l i j g)):few.length<=120/\kids.length=j/\j<=40/\∀x∈few,x.ks.length<=1000000:=by
 obtain⟨h1,h2⟩:=d5B (kY l i j g) ([],[]);have h3:=d5C (kY l i j g) ([],[]) (h.ps j) (fun x p=>(h4G p).elim);rw [<-e]at h1 h2 h3;have r:(l.getD i default) ∈l:=by
  rw [h1A,h0U h.hi];exact h1B h.hi
 have:=h.hks _ r;have m:(kY l i j g).length=j:=by
  unfold kY
  rw [h1P,h1Y];omega
 rw [m]at h1 h2;simp only [h1U]at h1 h2;exact⟨by omega,by omega,by omega,h3⟩
theorem NGP.fin{l:List Nd}{i:Nat}{j:List Int}(h:NGP l i j){few:List Nd}{kids:List Int}(e:(few,kids)=iD ([],[]) (kY l i (l.getD i default).ks.length j)):
  (aG (few++ [⟨(l.getD i default).op,(l.getD i default).im,kids⟩])).getD few.length 0=cC (l.take i) (aG (l.take i)) (l.getD i default):=by
 have h1:=d4Z (h.ps (l.getD i default).ks.length) (l.getD i default).op (l.getD i default).im (eK (l.take i) (l.getD i default)) fun p g m=>by
  unfold kY at g;rw [h5Q]at g;have u:(l.getD i default).ks.length=1:=by have:=congrArg List.length g;rw [h1P]at this;exact this
  match hk:(l.getD i default).ks,u with
  | [q],_=>
   rw [hk,h2H,h4D,h2I]at g;obtain⟨a,b,c,d,f⟩:=h.kid (q:=q) (by rw [hk];exact h2C);have h3:j.getD q.toNat 0=3:=by rw [<-g.1]at m;exact m
   have:=f h3;rw [<-g.1];unfold eK vE
   rw [hk];dsimp only;rw [if_pos h3];show((l.take i).getD q.toNat default).ks.length=_;rw [oV (by omega)];omega
 rw [<-e]at h1;rw [sF];dsimp only at h1;rw [h1];unfold cC
 rw [if_pos h.hko]
 congr 1
 unfold kY
 rw [h5Q,i3I];refine h5B fun q r=>?_
 exact(h.kid r).2.2.1
end Go.M10
end
end
