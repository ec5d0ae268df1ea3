/-
  Texts of this proof, one after the other.
  Conditions: none.
-/
import Derived.Test.YtkonebkblgemkaaGreatZ9
set_option linter.unusedVariables false
set_option linter.unusedSimpArgs false
set_option maxRecDepth 100000
set_option maxHeartbeats 4000000
noncomputable section
section
namespace Go.M10
open Go.M15 Go.Pv
def tS(op:Int):List Int:=if op=22 then [1,1,1]else if op=23\/op=27\/op=29 then [2,1]else if op=28 then [2,1,1]else if op=24 then [2]else if op=25 then [3]else [1,1]
def vC(op:Int)(s:List Int):Bool:=oU op&& (decide ((s.length:Int)=ar op) && (if op=22/\s.getD 1 0=2 then decide (s=[1,2,2])else decide (s=(tS op).take s.length)))
theorem a8M{op:Int}(h:oU op=true)(h3:op≠25/\op≠30/\op≠31):(op=1\/op=2\/op=26) \/op=3\/op=22\/op=23\/op=24\/ (op=27\/op=29) \/op=28\/ (4<=op/\op<=19) \/ (op=20\/op=21):=by
 unfold oU at h;rw [decide_eq_true_eq]at h;omega
def svo(op im:Int)(k:List Int):Int:=if op=26\/op=27\/op=28\/op=29 then 2 else if op=22 then k.getD 1 0 else if op=3 then(if im.tmod 16=0 then 2 else 1)else 1
theorem g0W{k:List Int}(h:(k.length:Int)=0):k=[]:=h3X (by omega)
theorem g0X{k:List Int}(h:(k.length:Int)=1): ∃a,k=[a]:=by
 match k,h with
 | [a],_=>exact⟨a,rfl⟩
theorem f2T{k:List Int}(h:(k.length:Int)=2): ∃a b,k=[a,b]:=by
 match k,h with
 | [a,b],_=>exact⟨a,b,rfl⟩
theorem f2U{k:List Int}(h:(k.length:Int)=3): ∃a b c,k=[a,b,c]:=by
 match k,h with
 | [a,b,c],_=>exact⟨a,b,c,rfl⟩
theorem d4T{op im:Int}{k:List Int}(h3:op≠25/\op≠30/\op≠31)(hr: ∀x∈k,1<=x/\x<=3):fH op im k=if vC op k=true/\lB op im=true then svo op im k else 0:=by
 by_cases hi:lB op im=true
 case neg=>
  rw [if_neg (fun e=>hi e.2)];unfold fH
  rw [if_pos (.inr (.inr (by simpa using hi)))]
 by_cases ha:oU op=true
 case neg=>
  rw [if_neg (fun e=>by unfold vC at e;simp [ha]at e)];unfold fH
  rw [if_pos (.inl (by simpa using ha))]
 by_cases hl:(k.length:Int)=ar op
 case neg=>
  rw [if_neg (fun e=>by unfold vC at e;simp [hl]at e)];unfold fH
  rw [if_pos (.inr (.inl hl))]
 rw [d0X h3 ha hl hi];have hv:vC op k=(if op=22/\k.getD 1 0=2 then decide (k=[1,2,2])else decide (k=(tS op).take k.length)):=by
  unfold vC
  rw [ha,decide_eq_true hl];rfl
 rw [hv,hi];rcases a8M ha h3 with h|rfl|rfl|rfl|rfl|h|rfl|h|h
 ·have h0:ar op=0:=by unfold ar;rw [if_pos (by omega)]
  obtain rfl:=g0W (hl.trans h0);rcases h with rfl|rfl|rfl<;>simp [svo,tS]
 ·obtain rfl:=g0W (hl.trans (by decide));have hm:0<=im:=by
   unfold lB at hi;rw [decide_eq_true_eq]at hi;have:mxI 3=255:=by decide
   omega
  simp [svo,tS,h3N hm]
 ·obtain⟨a,b,c,rfl⟩:=f2U (hl.trans (by decide));have r1:=hr a (by simp);have r2:=hr b (by simp);have r3:=hr c (by simp);simp only [svo,tS,List.getD_cons_zero,List.getD_cons_succ,h1O,h1U,List.take,h2I,and_true,true_and,reduceIte]
  by_cases hb:b=2
  ·subst hb;simp
   by_cases e1:a=1<;>by_cases e2:c=2<;>simp [e1,e2]<;>omega
  ·simp [hb]
   by_cases e1:a=1<;>by_cases e2:b=1<;>by_cases e3:c=1<;>simp [e1,e2,e3]<;>omega
 ·obtain⟨a,b,rfl⟩:=f2T (hl.trans (by decide));simp [svo,tS]
 ·obtain⟨a,rfl⟩:=g0X (hl.trans (by decide));simp [svo,tS]
 ·have h0:ar op=2:=by rcases h with rfl|rfl<;>decide
  obtain⟨a,b,rfl⟩:=f2T (hl.trans h0);rcases h with rfl|rfl<;>simp [svo,tS]
 ·obtain⟨a,b,c,rfl⟩:=f2U (hl.trans (by decide));simp [svo,tS]
 ·have h0:ar op=2:=by unfold ar;rw [if_neg (by omega),if_neg (by omega),if_pos (by omega)]
  obtain⟨a,b,rfl⟩:=f2T (hl.trans h0);have ho:tS op=[1,1]:=by unfold tS;rw [if_neg (by omega),if_neg (by omega),if_neg (by omega),if_neg (by omega),if_neg (by omega)]
  rw [ho];have n:op≠3/\op≠26/\op≠22/\op≠23/\op≠24/\op≠27/\op≠28/\op≠29:=by omega
  simp [svo,n]
 ·have h0:ar op=1:=by unfold ar;rw [if_neg (by omega),if_pos (by omega)]
  obtain⟨a,rfl⟩:=g0X (hl.trans h0);have ho:tS op=[1,1]:=by unfold tS;rw [if_neg (by omega),if_neg (by omega),if_neg (by omega),if_neg (by omega),if_neg (by omega)]
  rw [ho];have n:op≠3/\op≠26/\op≠22/\op≠23/\op≠24/\op≠27/\op≠28/\op≠29:=by omega
  simp [svo,n]
theorem f2V{op:Int}(h:oU op=true)(h3:op≠25/\op≠30/\op≠31):0<=ar op/\ar op<=((tS op).length:Int):=by
 rcases a8M h h3 with h|rfl|rfl|rfl|rfl|h|rfl|h|h
 ·have h0:ar op=0:=by unfold ar;rw [if_pos (by omega)]
  omega
 all_goals try (constructor<;>decide)
 ·rcases h with rfl|rfl<;>(constructor<;>decide)
 ·have h0:ar op=2:=by unfold ar;rw [if_neg (by omega),if_neg (by omega),if_pos (by omega)]
  have ho:tS op=[1,1]:=by unfold tS;rw [if_neg (by omega),if_neg (by omega),if_neg (by omega),if_neg (by omega),if_neg (by omega)]
  rw [ho,h0];decide
 ·have h0:ar op=1:=by unfold ar;rw [if_neg (by omega),if_pos (by omega)]
  have ho:tS op=[1,1]:=by unfold tS;rw [if_neg (by omega),if_neg (by omega),if_neg (by omega),if_neg (by omega),if_neg (by omega)]
  rw [ho,h0];decide
theorem d0Z{op im:Int}{k:List Int}(hr: ∀x∈k,1<=x/\x<=3):0<=fH op im k/\fH op im k<=3:=by
 unfold fH
 repeat' split
 all_goals try omega
 rename_i h1 h2 h3 h4 h5;have:k.getD 1 0=0\/k.getD 1 0∈k:=by
  rw [h1A];rcases h2D 1 k.length with q|q
  ·rw [h0U q];exact .inr (h1B q)
  ·rw [h2E q];exact .inl rfl
 rcases this with q|q
 ·omega
 ·have:=hr _ q;omega
def lsL(m:Nat):List Int:=2::(List.replicate m 1++2::List.replicate (m-1) 1)
def a3G(k:List Int):Bool:=decide (k.length%2=1) && (decide (3<=k.length) && (decide (k.length<=33) &&decide (k=lsL (k.length/2))))
def a1H(k:List Int):Bool:=match k with
 | []=>false
 |a::r=>decide (r.length<=6) && (decide (a=2) &&r.all fun x=>decide (x=1))
def bQ(e:Nat)(op im:Int)(k:List Int):Int:=
 if op=31 then(if a3G k=true/\lB 31 im=true then 3 else 0)
 else if op=30 then(if a1H k=true/\lB 30 im=true then 2 else 0)
 else if op=25 then(if k=[3]/\0<=im/\im<=15/\2*im+3<=e then(if im=0 then 2 else 1)else 0)
 else fH op im k
def eK(l:List Nd)(n:Nd):Nat:=(l.getD (n.ks.getD 0 0).toNat default).ks.length
def cC(l:List Nd)(out:List Int)(n:Nd):Int:=if n.ks.all (dL out)=true then bQ (eK l n) n.op n.im (n.ks.map fun q=>out.getD q.toNat 0)else 0
def gL:List Nd->List Int->List Nd->List Int
 |_,out,[]=>out
 |p,out,n::r=>gL (p++ [n]) (out++ [cC p out n]) r
def aG(l:List Nd):List Int:=gL [] [] l
theorem a0S(n:Nd): ∀(l p:List Nd)(out:List Int),gL p out (l++ [n])=gL p out l++ [cC (p++l) (gL p out l) n]
 | [],p,out=>by
  rw [h3V];rfl
 |x::l,p,out=>by
  rw [h3E,gL,gL,a0S n l,h2V,h6T]
theorem gM(l:List Nd)(n:Nd):aG (l++ [n])=aG l++ [cC l (aG l) n]:=by
 have:=a0S n l [] []
 rwa [h3U]at this
theorem a3H: ∀(l p:List Nd)(out:List Int),(gL p out l).length=out.length+l.length
 | [],p,out=>rfl
 |x::l,p,out=>by
  rw [gL,a3H l];simp only [h1E,h1O,h1U];omega
theorem bD(l:List Nd):(aG l).length=l.length:=by unfold aG;rw [a3H];simp
theorem a3I: ∀(l p:List Nd)(out:List Int),out<+:gL p out l
 | [],p,out=>h4F _
 |x::l,p,out=>(h3Y _ _).trans (a3I l _ _)
theorem a3J: ∀(l r p:List Nd)(out:List Int),gL p out (l++r)=gL (p++l) (gL p out l) r
 | [],r,p,out=>by rw [h3V];rfl
 |x::l,r,p,out=>by rw [h3E,gL,gL,a3J l r,h2V,h6T]
theorem jZ{l y:List Nd}(h:l<+:y):aG l<+:aG y:=by
 obtain⟨r,rfl⟩:=h;unfold aG
 rw [a3J];exact a3I _ _ _
theorem b5L{l:List Nd}{i:Nat}(h:i<l.length):aG (l.take (i+1))=aG (l.take i)++ [cC (l.take i) (aG (l.take i)) l[i]]:=by
 rw [h1J h,gM]
theorem kF{p:List Nd}{out:List Int}{n:Nd}{q:Int}(hm:q∈n.ks)(h:dL out q=false):cC p out n=0:=by
 unfold cC
 rw [if_neg];intro e;rw [h2L.1 e q hm]at h
 cases h
def SIG(l:List Nd)(i j:Nat)(k:List Int):Prop:= ∃n,l[i]?=some n/\(j<=n.ks.length/\k.length=j)/\(n.ks.take j).all (dL (aG (l.take i)))=true/\k=(n.ks.take j).map fun q=>(aG (l.take i)).getD q.toNat 0
theorem SIG.zero{l:List Nd}{i:Nat}(h:i<l.length):SIG l i 0 []:=⟨l[i],h0U h,⟨h1N _,rfl⟩,rfl,rfl⟩
theorem SIG.step{l:List Nd}{i j:Nat}{k:List Int}(h:SIG l i j k)(hi:i<l.length)(hj:j<l[i].ks.length)(hq:dL (aG (l.take i)) l[i].ks[j]=true):SIG l i (j+1) (k++ [(aG (l.take i)).getD (l[i].ks[j]).toNat 0]):=by
 obtain⟨n,h1,h2,h3,h4⟩:=h;obtain rfl:l[i]=n:=by rw [h0U hi]at h1;exact h1M h1
 refine⟨_,h1,⟨hj,by simp [h2.2]⟩,?_,?_⟩
 ·rw [h1J hj,List.all_append,h3];simp [hq]
 ·rw [h1J hj,h3O,h4];rfl
theorem qF{out:List Int}{q:Int}(h:dL out q=true):0<=q/\q<out.length/\out.getD q.toNat 0≠0:=by
 unfold dL at h;simp only [h0Y,decide_eq_true_eq]at h;exact h
theorem sD{k:List Int}(h:a3G k=true):k.length%2=1/\3<=k.length/\k.length<=33/\k=lsL (k.length/2):=by
 unfold a3G at h;simp only [h0Y,decide_eq_true_eq]at h;exact h
theorem c6C{m:Nat}(h:1<=m):(lsL m).length=2*m+1:=by
 unfold lsL
 simp;omega
theorem e5S{m:Nat}(h1:1<=m)(h2:m<=16):a3G (lsL m)=true:=by
 unfold a3G
 rw [c6C h1,show(2*m+1)/2=m by omega];simp only [h0Y,decide_eq_true_eq];exact⟨by omega,by omega,by omega,trivial⟩
theorem d1A{op im:Int}{k:List Int} :fH op im k≠3:=by
 unfold fH
 repeat' split
 all_goals omega
theorem a3K{e:Nat}{op im:Int}{k:List Int}(h:bQ e op im k=3):op=31/\a3G k=true:=by
 unfold bQ at h;split at h
 ·rename_i c;split at h
  ·rename_i d;exact⟨c,d.1⟩
  ·omega
 ·split at h
  ·split at h<;>omega
  ·split at h
   ·split at h
    ·split at h<;>omega
    ·omega
   ·exact absurd h d1A
theorem mH: ∀{l:List Nd}{j:Nat}{n:Nd},l[j]?=some n->(aG l).getD j 0=cC (l.take j) (aG (l.take j)) n:=by
 intro l j n h;obtain⟨hlt,rfl⟩:=h2B.1 h;have e:l.take (j+1)=l.take j++ [l[j]]:=h1J hlt;have h1:=gM (l.take j) l[j];rw [<-e]at h1;have h2:=sC (jZ (h5S (j+1) l)) (i:=j) (by rw [bD,h1Y];omega);rw [h2,h1,h1A,h1V (by rw [bD,h1Y];omega),bD,h1Y,show j-min j l.length=0 by omega];rfl
theorem a3L{l:List Nd}{q:Nat}(h:(aG l).getD q 0=3):(l.getD q default).ks.length%2=1:=by
 rcases h2D q l.length with c|c
 ·have hq:=h0U c;rw [mH hq]at h;unfold cC at h;split at h
  ·have:=sD (a3K h).2;rw [h1P]at this;rw [h1A,hq];exact this.1
  ·omega
 ·rw [h1A,h2E (by rw [bD];exact c)]at h
  cases h
theorem oV{l:List Nd}{i q:Nat}(h:q<i):(l.take i).getD q default=l.getD q default:=by
 rw [h1A,h1A,h3L h]
theorem SIG.last{l:List Nd}{i j:Nat}{k:List Int}(h:SIG l i j k)(hi:i<l.length)(hj:l[i].ks.length<=j):
  cC (l.take i) (aG (l.take i)) l[i]=bQ (eK (l.take i) l[i]) l[i].op l[i].im k/\k.length=l[i].ks.length/\(∀q∈l[i].ks,0<=q/\q<i)/\(k=[3]->eK l l[i]%2=1/\eK (l.take i) l[i]=eK l l[i]):=by
 obtain⟨n,h1,h2,h3,h4⟩:=h;obtain rfl:l[i]=n:=by rw [h0U hi]at h1;exact h1M h1
 rw [h1H hj]at h3 h4;have hq: ∀q∈l[i].ks,0<=q/\q<i:=fun q hq=>by
  have:=qF (h2L.1 h3 q hq);rw [bD,h1Y]at this;omega
 refine⟨?_,by rw [h4];simp,hq,fun e=>?_⟩
 ·unfold cC
  rw [if_pos h3,h4]
 ·rw [e]at h4
  cases hk:l[i].ks with
  |nil=>rw [hk]at h4;cases h4
  |cons q r=>
   rw [hk,h2H,h2I]at h4;have h5:=hq q (by rw [hk];exact h2C);have h6:=a3L h4.1.symm;have e1:eK (l.take i) l[i]=((l.take i).getD q.toNat default).ks.length:=by unfold eK;rw [hk];rfl
   have e2:eK l l[i]=(l.getD q.toNat default).ks.length:=by unfold eK;rw [hk];rfl
   rw [oV (by omega)]at h6 e1;exact⟨by rw [e2];exact h6,by rw [e1,e2]⟩
theorem a3M{e e2:Nat}{op im:Int}{k:List Int}(h:k=[3]->e=e2):bQ e op im k=bQ e2 op im k:=by
 unfold bQ
 by_cases c:k=[3]
 ·rw [h c]
 ·simp [c]
theorem SIG.lst{l:List Nd}{i j:Nat}{k:List Int}(h:SIG l i j k)(hi:i<l.length)(hj:l[i].ks.length<=j):
  cC (l.take i) (aG (l.take i)) l[i]=bQ (eK l l[i]) l[i].op l[i].im k/\k.length=l[i].ks.length/\(∀q∈l[i].ks,0<=q/\q<l.length)/\(k=[3]->eK l l[i]%2=1):=by
 obtain⟨h1,h2,h3,h4⟩:=h.last hi hj;exact⟨h1.trans (a3M fun e=>(h4 e).2),h2,fun q hq=>by have:=h3 q hq;omega,fun e=>(h4 e).1⟩
theorem c0X{e:Nat}{op im:Int}{k:List Int}(hr: ∀x∈k,1<=x/\x<=3):0<=bQ e op im k/\bQ e op im k<=3:=by
 unfold bQ
 repeat' split
 all_goals first|omega|exact d0Z hr
theorem c0Y{p:List Nd}{out:List Int}{n:Nd}(h: ∀x∈out,0<=x/\x<=3):0<=cC p out n/\cC p out n<=3:=by
 unfold cC
 split
 ·rename_i ha;refine c0X fun x hx=>?_
  obtain⟨q,hq,rfl⟩:=h4O.1 hx;obtain⟨p1,p2,p3⟩:=qF (h2L.1 ha q hq);have hlt:q.toNat<out.length:=by omega
  have e:out.getD q.toNat 0=out[q.toNat]:=by rw [h1A,h0U hlt];rfl
  have:=h _ (h1B hlt);rw [e]at p3⊢;omega
 ·omega
theorem a3N: ∀(l p:List Nd)(out:List Int),(∀x∈out,0<=x/\x<=3)-> ∀x∈gL p out l,0<=x/\x<=3
 | [],p,out,h=>h
 |n::r,p,out,h=>by
  rw [gL];refine a3N r _ _ fun x hx=>?_
  rcases h2S.1 hx with hx|hx
  ·exact h x hx
  ·rw [h2J.1 hx];exact c0Y h
theorem a3O(l:List Nd): ∀x∈aG l,0<=x/\x<=3:=a3N l [] [] (fun x h=>by cases h)
theorem SIG.rng{l:List Nd}{i j:Nat}{k:List Int}(h:SIG l i j k): ∀x∈k,1<=x/\x<=3:=by
 obtain⟨n,h1,h2,h3,h4⟩:=h;intro x hx;rw [h4]at hx;obtain⟨q,hq,rfl⟩:=h4O.1 hx;obtain⟨p1,p2,p3⟩:=qF (h2L.1 h3 q hq);have hlt:q.toNat< (aG (l.take i)).length:=by omega
 have e:(aG (l.take i)).getD q.toNat 0=(aG (l.take i))[q.toNat]:=by rw [h1A,h0U hlt];rfl
 have:=a3O _ _ (h1B hlt);rw [e]at p3⊢;omega
theorem zF{l:List Nd}{q:Nat}(h:(aG l).getD q 0=3):q<l.length/\3<=(l.getD q default).ks.length/\(l.getD q default).ks.length<=33:=by
 rcases h2D q l.length with c|c
 ·have hq:=h0U c;rw [mH hq]at h;unfold cC at h;split at h
  ·have:=sD (a3K h).2;rw [h1P]at this;rw [h1A,hq];exact⟨c,this.2.1,this.2.2.1⟩
  ·omega
 ·rw [h1A,h2E (by rw [bD];exact c)]at h
  cases h
def a3P(op:Int)(s:List Int):Bool:=if op=31 then a3G s else if op=25 then decide (s=[3])else vC op s
def wZ(e:Nat)(op im:Int):Bool:=if op=25 then decide (0<=im/\2*im+3<=e)else lB op im
def a1I(op im:Int)(k:List Int):Int:=if op=31 then 3 else if op=25 then(if im=0 then 2 else 1)else svo op im k
theorem d1B{e:Nat}{op im:Int}{k:List Int}(h30:op≠30)(hr: ∀x∈k,1<=x/\x<=3)(he:k=[3]->e<=33):bQ e op im k=if a3P op k=true/\wZ e op im=true then a1I op im k else 0:=by
 unfold bQ a3P wZ a1I
 by_cases o31:op=31
 ·subst o31;simp
 by_cases o25:op=25
 ·subst o25;simp only [show¬ ((25:Int)=31) by decide,show¬ ((25:Int)=30) by decide,if_false,if_true]
  by_cases c:k=[3]
  ·have:=he c
   by_cases d:0<=im/\2*im+3<=(e:Int)
   ·rw [if_pos (show k=[3]/\0<=im/\im<=15/\2*im+3<=(e:Int)from⟨c,d.1,by omega,d.2⟩),if_pos (show decide (k=[3])=true/\decide (0<=im/\2*im+3<=(e:Int))=true from⟨by simp [c],by simp [d]⟩)]
   ·rw [if_neg (fun q=>d ⟨q.2.1,q.2.2.2⟩),if_neg (fun q=>d (by simpa using q.2))]
  ·rw [if_neg (fun q=>c q.1),if_neg (fun q=>c (by simpa using q.1))]
 rw [if_neg o31,if_neg h30,if_neg o25,if_neg o31,if_neg o25,if_neg o25,if_neg o31,if_neg o25];exact d4T ⟨o25,h30,o31⟩ hr
inductive E where
 |mk (k n:Int) (nm:List UInt8) (op:Int) (ks:List E)
 deriving Inhabited
inductive S where
 |mk (k:Int) (nm to:List UInt8) (n:Int) (a v:E) (args:List E) (th el:List S)
 deriving Inhabited
mutual
def cE:E->List IV
 | .mk k n nm op ks=>[.int .i64 k,.int .i64 n,.str nm,.int .i64 op,.vslice none 0 ks.length 5 (aW ks)]
def aW:List E->List IV
 | []=>[]
 |e::r=>cE e++aW r
end
mutual
def cS:S->List IV
 | .mk k nm to n a v args th el=>[.int .i64 k,.str nm,.str to,.int .i64 n]++cE a++cE v++ [.vslice none 0 args.length 5 (aW args),.vslice none 0 th.length 17 (aX th),.vslice none 0 el.length 17 (aX el)]
def aX:List S->List IV
 | []=>[]
 |s::r=>cS s++aX r
end
def E.k:E->Int| .mk k _ _ _ _=>k
def E.n:E->Int| .mk _ n _ _ _=>n
def E.nm:E->List UInt8| .mk _ _ nm _ _=>nm
def E.op:E->Int| .mk _ _ _ op _=>op
def E.ks:E->List E| .mk _ _ _ _ ks=>ks
def e0:E:= .mk 0 0 [] 0 []
theorem b0X(e:E):(cE e).length=5:=by cases e;rfl
theorem c0Z(s:S):(cS s).length=17:=by
 cases s
 simp only [cS,h1E,h1O,h1U,b0X]
theorem a3Q: ∀(a b:List S),aX (a++b)=aX a++aX b
 | [],b=>rfl
 |x::a,b=>by simp only [h3E,aX,a3Q a b,h2V]
theorem zG: ∀{ks:List E}{i j:Nat}(h:i<ks.length),j<5->(aW ks)[i*5+j]?=(cE ks[i])[j]?
 |t::r,0,j,h,hj=>by
  rw [aW,h5K,h1Q,h1Z (by rw [b0X];exact hj)];rfl
 |x::r,i+1,j,h,hj=>by
  rw [aW,h1V (by rw [b0X];omega),b0X,show(i+1)*5+j-5=i*5+j by omega];exact zG (ks:=r) (by simpa using h) hj
theorem zH: ∀{ks:List S}{i j:Nat}(h:i<ks.length),j<17->(aX ks)[i*17+j]?=(cS ks[i])[j]?
 |t::r,0,j,h,hj=>by
  rw [aX,h5K,h1Q,h1Z (by rw [c0Z];exact hj)];rfl
 |x::r,i+1,j,h,hj=>by
  rw [aX,h1V (by rw [c0Z];omega),c0Z,show(i+1)*17+j-17=i*17+j by omega];exact zH (ks:=r) (by simpa using h) hj
theorem ldE{ks:List E}{i o:Nat}{K:Int->Int->List UInt8->Int->Option Nat->Nat->Nat->List IV->Prop}(h:i<ks.length)(ho:o=i*5)
  (hk:K ks[i].k ks[i].n ks[i].nm ks[i].op none 0 ks[i].ks.length (aW ks[i].ks)):
  aK .i64 (aW ks) o fun a=>aK .i64 (aW ks) (o+1) fun b=>bZ (aW ks) (o+1+1) fun c=>aK .i64 (aW ks) (o+1+1+1) fun d=>bH 5 (aW ks) (o+1+1+1+1) fun p q r s=>K a b c d p q r s:=by
 subst ho;have e0:=zG (j:=0) h (by omega);have e1:=zG (j:=1) h (by omega);have e2:=zG (j:=2) h (by omega);have e3:=zG (j:=3) h (by omega);have e4:=zG (j:=4) h (by omega);generalize ks[i]=t at*
 cases t
 unfold aK bZ bH
 simp only [h6U]at e0;simp only [h5D,Nat.reduceAdd,e0,e1,e2,e3,e4];exact hk
mutual
theorem xF: ∀e:E,aN (cE e)=true
 | .mk k n nm op ks=>by simp only [cE,aN,bL,bW ks,h1L]
theorem bW: ∀ks:List E,aN (aW ks)=true
 | []=>rfl
 |t::r=>by simp only [aW,bG,xF t,bW r,h1L]
end
mutual
theorem d4U: ∀s:S,aN (cS s)=true
 | .mk k nm to n a v args th el=>by simp only [cS,aN,bL,bG,xF,bW,bP th,bP el,h1L]
theorem bP: ∀ks:List S,aN (aX ks)=true
 | []=>rfl
 |t::r=>by simp only [aX,bG,d4U t,bP r,h1L]
end
def bN(f:Int):List (List UInt8):=if f=0 then [[120],[121],[105],[106]]else [[110],[105]]
def oW:List (List UInt8):=[[97],[98]]
def a6Y(f k n:Int)(nm:List UInt8)(op:Int)(m:Nat):Prop:=
 (k=1/\nm=[]/\op=0/\m=0/\bR n) \/ (k=2/\n=0/\op=0/\m=0/\nm∈bN f) \/ (k=3/\n=0/\op=0/\m=1/\nm∈oW) \/
 (k=4/\n=0/\nm=[]/\((m=2/\4<=op/\op<=18) \/ (m=1/\20<=op/\op<=21))) \/ (k=5/\n=0/\nm=[]/\op=0/\m=3)
mutual
def E.wf(f:Int):E->Prop
 | .mk k n nm op ks=>a6Y f k n nm op ks.length/\Es.wf f ks
def Es.wf(f:Int):List E->Prop
 | []=>True
 |e::r=>e.wf f/\Es.wf f r
end
mutual
def E.dp:E->Nat
 | .mk _ _ _ _ ks=>Es.dp ks
def Es.dp:List E->Nat
 | []=>0
 |e::r=>max (1+e.dp) (Es.dp r)
end
mutual
def E.cost:E->Nat
 | .mk k _ _ _ ks=>(if k=2\/k=0 then 0 else 4)+Es.cost ks
def Es.cost:List E->Nat
 | []=>0
 |e::r=>e.cost+Es.cost r
end
def lC(f k:Int)(nm to:List UInt8)(n:Int)(a v:E)(args:List E)(th el:List S):Prop:=
 (k=1/\nm∈bN f/\to=[]/\n=0/\a=e0/\v.wf f/\args=[]/\th=[]/\el=[]) \/
 (k=2/\nm∈oW/\to=[]/\n=0/\a.wf f/\v.wf f/\args=[]/\th=[]/\el=[]) \/
 (k=3/\nm=[]/\to=[]/\n=0/\a=e0/\v.wf f/\args=[]) \/
 (k=4/\nm=[]/\to=[]/\n=0/\a=e0/\v.wf f/\args=[]/\el=[]) \/
 (k=5/\nm=[]/\to=[]/\n=0/\a=e0/\v.wf f/\args=[]/\th=[]/\el=[]) \/
 (k=6/\nm∈bN f/\((to=[102]/\args.length=2) \/ (to=[103]/\args.length=1))/\n=0/\a=e0/\v=e0/\Es.wf f args/\th=[]/\el=[]) \/
 (k=7/\nm=[]/\to=[]/\(0<=n/\n<1000)/\a=e0/\v=e0/\args=[]/\th=[]/\el=[])
mutual
def S.wf(f:Int):S->Prop
 | .mk k nm to n a v args th el=>lC f k nm to n a v args th el/\Ss.wf f th/\Ss.wf f el
def Ss.wf(f:Int):List S->Prop
 | []=>True
 |s::r=>s.wf f/\Ss.wf f r
end
mutual
def S.cnt:S->Nat
 | .mk _ _ _ _ _ _ _ th el=>1+Ss.cnt th+Ss.cnt el
def Ss.cnt:List S->Nat
 | []=>0
 |s::r=>s.cnt+Ss.cnt r
end
mutual
def S.whl:S->Nat
 | .mk k _ _ _ _ _ _ th el=>(if k=4 then 1 else 0)+Ss.whl th+Ss.whl el
def Ss.whl:List S->Nat
 | []=>0
 |s::r=>s.whl+Ss.whl r
end
mutual
def S.dp(d:Nat):S->Nat
 | .mk _ _ _ _ _ _ _ th el=>max d (max (Ss.dp (d+1) th) (Ss.dp (d+1) el))
def Ss.dp(d:Nat):List S->Nat
 | []=>0
 |s::r=>max (s.dp d) (Ss.dp d r)
end
mutual
def S.ed(m:Nat):S->Prop
 | .mk _ _ _ _ a v args th el=>(a.dp<=m/\v.dp<=m/\∀e∈args,e.dp<=m)/\Ss.ed m th/\Ss.ed m el
def Ss.ed(m:Nat):List S->Prop
 | []=>True
 |s::r=>s.ed m/\Ss.ed m r
end
mutual
def S.cost:S->Nat
 | .mk k _ _ _ a v args th el=>16+a.cost+2*v.cost+Es.cost args+Ss.cost th+Ss.cost el
def Ss.cost:List S->Nat
 | []=>0
 |s::r=>s.cost+Ss.cost r
end
theorem Es.wf_append{f:Int} : ∀{a b:List E},Es.wf f (a++b) ↔ Es.wf f a/\Es.wf f b
 | [],b=>by simp [Es.wf]
 |x::a,b=>by simp [Es.wf,Es.wf_append (a:=a),and_assoc]
theorem Es.cost_append: ∀{a b:List E},Es.cost (a++b)=Es.cost a+Es.cost b
 | [],b=>by simp [Es.cost]
 |x::a,b=>by simp [Es.cost,Es.cost_append (a:=a)];omega
theorem Ss.wf_append{f:Int} : ∀{a b:List S},Ss.wf f (a++b) ↔ Ss.wf f a/\Ss.wf f b
 | [],b=>by simp [Ss.wf]
 |x::a,b=>by simp [Ss.wf,Ss.wf_append (a:=a),and_assoc]
theorem Ss.cnt_append: ∀{a b:List S},Ss.cnt (a++b)=Ss.cnt a+Ss.cnt b
 | [],b=>by simp [Ss.cnt]
 |x::a,b=>by simp [Ss.cnt,Ss.cnt_append (a:=a)];omega
theorem Ss.whl_append: ∀{a b:List S},Ss.whl (a++b)=Ss.whl a+Ss.whl b
 | [],b=>by simp [Ss.whl]
 |x::a,b=>by simp [Ss.whl,Ss.whl_append (a:=a)];omega
theorem Ss.dp_append{d:Nat} : ∀{a b:List S},Ss.dp d (a++b)=max (Ss.dp d a) (Ss.dp d b)
 | [],b=>by simp [Ss.dp]
 |x::a,b=>by rw [h3E,Ss.dp,Ss.dp,Ss.dp_append (a:=a)];omega
theorem Ss.ed_append{m:Nat} : ∀{a b:List S},Ss.ed m (a++b) ↔ Ss.ed m a/\Ss.ed m b
 | [],b=>by simp [Ss.ed]
 |x::a,b=>by simp [Ss.ed,Ss.ed_append (a:=a),and_assoc]
theorem Ss.cost_append: ∀{a b:List S},Ss.cost (a++b)=Ss.cost a+Ss.cost b
 | [],b=>by simp [Ss.cost]
 |x::a,b=>by simp [Ss.cost,Ss.cost_append (a:=a)];omega
def RN(h:Heap)(id r:Nat)(w:Int):Prop:=id<h.next/\∃io e,∃l:List Int,(∀x∈l,bR x)/\l.length=r/\h.get id= .cells [.vslice io e l.length 1 (l.map (IV.int .i64)),.int .i64 w]
theorem RN.push{h:Heap}{id r:Nat}{w:Int}{x:IObj}(g:RN h id r w):RN (h.push x) id r w:=by
 obtain⟨h1,io,e,l,h2,h3,h4⟩:=g;exact⟨h1T h1,io,e,l,h2,h3,by rw [aJ h1];exact h4⟩
theorem RN.set{h:Heap}{id i r:Nat}{w:Int}{x:IObj}(g:RN h id r w)(hn:i≠id):RN (h.set i x) id r w:=by
 obtain⟨h1,io,e,l,h2,h3,h4⟩:=g;exact⟨h1,io,e,l,h2,h3,by rw [aE (fun e=>hn e.symm)];exact h4⟩
def GN(h:Heap)(id r:Nat)(w:Int)(h2:Heap):Prop:=RN h2 id r w/\HF id h h2
theorem GN.push{h h2:Heap}{id r:Nat}{w:Int}{x:IObj}(g:GN h id r w h2):GN h id r w (h2.push x):=⟨g.1.push,g.2.trans HF.push⟩
theorem GN.set{h h2:Heap}{id i r:Nat}{w:Int}{x:IObj}(g:GN h id r w h2)(hi:h.next<=i)(hn:i≠id):GN h id r w (h2.set i x):=
 ⟨g.1.set hn,g.2.1,fun j hj hne=>by rw [aE (by omega)];exact g.2.2 j hj hne⟩
theorem GN.trans{h h1 h2:Heap}{id r r2:Nat}{w w2:Int}(g:GN h id r w h1)(k:GN h1 id r2 w2 h2):GN h id r2 w2 h2:=⟨k.1,g.2.trans k.2⟩
def gY(f:Int)(d r r2:Nat)(e:E):Prop:=e.wf f/\e.dp<=d/\r2<=r/\e.cost<=4*(r-r2)
def mV(f:Int)(d r r2:Nat)(ks:List E):Prop:=Es.wf f ks/\Es.dp ks<=d+1/\r2<=r/\Es.cost ks<=4*(r-r2)
theorem mV.nil{f:Int}{d r:Nat} :mV f d r r []:=⟨trivial,by simp [Es.dp],h1D _,by simp [Es.cost]⟩
theorem Es.dp_append: ∀{a b:List E},Es.dp (a++b)=max (Es.dp a) (Es.dp b)
 | [],b=>by simp [Es.dp]
 |x::a,b=>by rw [h3E,Es.dp,Es.dp,Es.dp_append (a:=a)];omega
theorem mV.snoc{f:Int}{d r r1 r2:Nat}{ks:List E}{e:E}(a:mV f d r r1 ks)(b:gY f d r1 r2 e):mV f d r r2 (ks++ [e]):=by
 obtain⟨a1,a2,a3,a4⟩:=a;obtain⟨b1,b2,b3,b4⟩:=b;refine⟨Es.wf_append.2 ⟨a1,b1,trivial⟩,?_,by omega,?_⟩
 ·rw [Es.dp_append];simp only [Es.dp];omega
 ·rw [Es.cost_append];simp only [Es.cost];omega
theorem gY.node{f k n op:Int}{nm:List UInt8}{d r r2:Nat}{ks:List E}(a:mV f d r r2 ks)(h:a6Y f k n nm op ks.length):gY f (d+1) (r+1) r2 (.mk k n nm op ks):=by
 obtain⟨a1,a2,a3,a4⟩:=a;refine⟨⟨h,a1⟩,a2,by omega,?_⟩;rw [E.cost];split<;>omega
theorem a3R{l:List (List UInt8)}{o:Nat}{K:List UInt8->Prop}(h:o<l.length)(hk: ∀s∈l,K s):bZ (l.map IV.str) o K:=by
 unfold bZ
 rw [h2A,h0U h];exact hk _ (h1B h)
theorem f2W{l:List Int}{o:Nat}{K:Int->Prop}(h:o<l.length)(hk: ∀s∈l,K s):aK .i64 (l.map (IV.int .i64)) o K:=by
 unfold aK
 rw [h2A,h0U h];simpa using hk _ (h1B h)
def fQ(f:Int)(d r r2:Nat)(w w2:Int)(l:List S):Prop:=Ss.wf f l/\Ss.cost l<=16*(r-r2)/\Ss.cnt l<=r-r2/\(w2=w+Ss.whl l/\w2<=10)/\Ss.dp d l<=4/\Ss.ed 5 l/\r2<=r
def xG(f:Int)(d r r2:Nat)(w w2:Int)(s:S):Prop:=fQ f d r r2 w w2 [s]
theorem fQ.nil{f w:Int}{d r:Nat}(h:w<=10):fQ f d r r w w []:=⟨trivial,by simp [Ss.cost],by simp [Ss.cnt],⟨by simp [Ss.whl],h⟩,by simp [Ss.dp],trivial,h1D _⟩
theorem fQ.mono{f w w2:Int}{d r r1 r2:Nat}{l:List S}(a:fQ f d r1 r2 w w2 l)(h:r1<=r):fQ f d r r2 w w2 l:=by
 obtain⟨a1,a2,a3,a4,a5,a6,a7⟩:=a;exact⟨a1,by omega,by omega,a4,a5,a6,by omega⟩
theorem fQ.snoc{f w w1 w2:Int}{d r r1 r2:Nat}{l:List S}{s:S}(a:fQ f d r r1 w w1 l)(b:xG f d r1 r2 w1 w2 s):fQ f d r r2 w w2 (l++ [s]):=by
 obtain⟨a1,a2,a3,a4,a5,a6,a7⟩:=a;obtain⟨b1,b2,b3,b4,b5,b6,b7⟩:=b;refine⟨Ss.wf_append.2 ⟨a1,b1⟩,?_,?_,⟨?_,b4.2⟩,?_,Ss.ed_append.2 ⟨a6,b6⟩,by omega⟩
 ·rw [Ss.cost_append];omega
 ·rw [Ss.cnt_append];omega
 ·rw [Ss.whl_append];omega
 ·rw [Ss.dp_append];omega
theorem xG.node{f k n w wa wb wc:Int}{nm to:List UInt8}{d r r0 r1 r2 r3:Nat}{a v:E}{args:List E}{th el:List S}(h:lC f k nm to n a v args th el)
  (hd:d<=4) (he:a.dp<=5/\v.dp<=5/\∀e∈args,e.dp<=5) (hr:r0+1<=r/\r1<=r0) (hc:a.cost+v.cost+Es.cost args<=4*(r0-r1))
  (ht:fQ f (d+1) r1 r2 wa wb th) (hl:fQ f (d+1) r2 r3 wb wc el) (hw:wa=w+(if k=4 then 1 else 0)):xG f d r r3 w wc (.mk k nm to n a v args th el):=by
 obtain⟨a1,a2,a3,a4,a5,a6,a7⟩:=ht;obtain⟨b1,b2,b3,b4,b5,b6,b7⟩:=hl;refine⟨⟨⟨h,a1,b1⟩,trivial⟩,?_,?_,⟨?_,b4.2⟩,?_,⟨⟨he,a6,b6⟩,trivial⟩,by omega⟩
 ·simp only [Ss.cost,S.cost];omega
 ·simp only [Ss.cnt,S.cnt];omega
 ·simp only [Ss.whl,S.whl]
  by_cases q:k=4
  ·simp only [q,if_true]at hw⊢;omega
  ·simp only [q,if_false]at hw⊢;omega
 ·simp only [Ss.dp,S.dp];omega
theorem g0Y:e0.dp=0:=by simp [e0,E.dp,Es.dp]
theorem e5T:e0.cost=0:=by simp [e0,E.cost,Es.cost]
theorem hU{cs:List IV}{off:Nat}{K:List UInt8->Prop}{b:List UInt8}(e:cs[off]?=some (.str b))(hk:K b):bZ cs off K:=by
 unfold bZ;rw [e];exact hk
theorem g0Z{cs:List IV}{off:Nat}{K:Bool->Prop}{b:Bool}(e:cs[off]?=some (.bool b))(hk:K b):iS cs off K:=by
 unfold iS;rw [e];exact hk
theorem bV{k:IntKind}{cs:List IV}{off:Nat}{K:Int->Prop}{n:Int}(e:cs[off]?=some (.int k n))(hk:K n):aK k cs off K:=by
 unfold aK;rw [e];simpa using hk
theorem dY{sz:Nat}{cs:List IV}{off:Nat}{K:Option Nat->Nat->Nat->List IV->Prop}{i:Option Nat}{a n:Nat}{c:List IV}(e:cs[off]?=some (.vslice i a n sz c))(hk:K i a n c):bH sz cs off K:=by
 unfold bH;rw [e];simpa using hk
theorem g5M{a b:Prop}[Decidable a][Decidable b](h:a/\b):(decide a&&decide b)=true:=by
 rw [h0Y,decide_eq_true_eq,decide_eq_true_eq];exact h
theorem brT{p:Prop}[Decidable p]{A B:Prop}(h:p)(a:A):aM (decide p) A B:=aD (fun _=>a) (fun c=>absurd h (of_decide_eq_false c))
theorem nG{p:Prop}[Decidable p]{A B:Prop}(h: ¬p)(b:B):aM (decide p) A B:=aD (fun c=>absurd (of_decide_eq_true c) h) (fun _=>b)
theorem dW{p:Prop}[Decidable p]{A B:Prop}(a:p->A)(b: ¬p->B):aM (decide p) A B:=aD (fun c=>a (of_decide_eq_true c)) (fun c=>b (of_decide_eq_false c))
theorem aP{p q:Prop}[Decidable p][Decidable q]{A:Prop}(h:p/\q)(a:A):aC (decide p&&decide q) A:=aA (g5M h) a
theorem RN.wl{h:Heap}{id r:Nat}{w:Int}{io:Option Nat}{e:Nat}{l:List Int}(hid:id<h.next)(hb: ∀x∈l,bR x)(hl:l.length=r){x:Int}(hx:x=w):RN (h.set id (.cells [.vslice io e l.length 1 (l.map (IV.int .i64)),.int .i64 x])) id r w:=
 ⟨hid,io,e,l,hb,hl,by rw [aH,hx]⟩
def c1A(la lb:Int):List IV:=[.str [97],.int .i64 la,.str [98],.int .i64 lb]
def fnC(b0:List S)(v0:E)(b1:List S)(v1:E):List IV:=
 [.str [102],.vslice none 1 2 1 [.str [120],.str [121]],.vslice none 1 2 1 [.str [105],.str [106]],.vslice none 0 b0.length 17 (aX b0)]++cE v0++
 [.str [103],.vslice none 1 1 1 [.str [110]],.vslice none 1 1 1 [.str [105]],.vslice none 0 b1.length 17 (aX b1)]++cE v1
structure GB(f:Int)(b:List S)(v:E):Prop where
 wf:Ss.wf f b
 cost:Ss.cost b+v.cost<=1000
 cnt:Ss.cnt b<=60
 whl:Ss.whl b<=10
 dp:Ss.dp 0 b<=4
 ed:Ss.ed 5 b
 vw:v.wf f
 vd:v.dp<=5
def PP(la lb:Int)(b0:List S)(v0:E)(b1:List S)(v1:E):Prop:=(1<=la/\la<=4/\1<=lb/\lb<=4)/\GB 0 b0 v0/\GB 1 b1 v1
mutual
theorem S.dp_mono{d:Nat} : ∀s:S,s.dp d<=s.dp (d+1)
 | .mk _ _ _ _ _ _ _ th el=>by
  have:=Ss.dp_mono (d:=d+1) th;have:=Ss.dp_mono (d:=d+1) el;simp only [S.dp];omega
theorem Ss.dp_mono{d:Nat} : ∀l:List S,Ss.dp d l<=Ss.dp (d+1) l
 | []=>h1D _
 |s::r=>by
  have:=S.dp_mono (d:=d) s;have:=Ss.dp_mono (d:=d) r;simp only [Ss.dp];omega
end
theorem GB.mk0{f w w2:Int}{r r1 r2:Nat}{b:List S}{v:E}(hb:fQ f 0 r r1 w w2 b)(hv:gY f 3 r1 r2 v)(hr:r<=60)(hw:0<=w):GB f b v:=by
 obtain⟨a1,a2,a3,a4,a5,a6,a7⟩:=hb;obtain⟨b1,b2,b3,b4⟩:=hv;exact⟨a1,by omega,by omega,by omega,a5,a6,b1,by omega⟩
theorem fQ.dp0{f w w2:Int}{r r1:Nat}{b:List S}(h:fQ f 1 r r1 w w2 b):fQ f 0 r r1 w w2 b:=by
 obtain⟨a1,a2,a3,a4,a5,a6,a7⟩:=h;exact⟨a1,a2,a3,a4,h2F (Ss.dp_mono _) a5,a6,a7⟩
theorem PP.pure{la lb:Int}{b0 b1:List S}{v0 v1:E}(h:PP la lb b0 v0 b1 v1):aN [.agg [.vslice none 0 2 2 (c1A la lb),.vslice none 0 2 9 (fnC b0 v0 b1 v1)]]=true:=by
 simp only [aN,bL,c1A,fnC,bG,xF,bP,h1L]
def SK(ns:List Nd)(s k:Int):Prop:=0<=k/\k<ns.length/\(aG ns).getD k.toNat 0=s
theorem SK.mono{ns ms:List Nd}{k s:Int}(h:SK ns s k)(hp:ns<+:ms):SK ms s k:=by
 obtain⟨h1,h2,h3⟩:=h;refine⟨h1,Int.lt_of_lt_of_le h2 (by have:=hp.length_le;omega),?_⟩;rw [sC (jZ hp) (by rw [bD];omega),h3]
def oI(ns:List Nd):List Int->List Int->Prop
 | [],[]=>True
 |k::ks,s::ss=>(SK ns s k/\s≠0)/\oI ns ks ss
 |_,_=>False
theorem oI.map{ns:List Nd} : ∀{ks ss:List Int},oI ns ks ss->ks.all (dL (aG ns))=true/\ks.map (fun q=>(aG ns).getD q.toNat 0)=ss/\∀k∈ks,0<=k/\k<ns.length
 | [],[],_=>⟨rfl,rfl,fun k h=>by cases h⟩
 |k::ks,s::ss,h=>by
  obtain⟨⟨⟨h1,h2,h3⟩,h4⟩,h5⟩:=h;obtain⟨i1,i2,i3⟩:=oI.map h5;refine⟨?_,?_,?_⟩
  ·rw [h5T,i1,h1L];unfold dL
   simp only [h0Y,decide_eq_true_eq];exact⟨h1,by rw [bD];exact h2,by rw [h3];exact h4⟩
  ·rw [h2H,i2,h3]
  ·intro q hq;rcases h2O.1 hq with rfl|hq
   ·exact⟨h1,h2⟩
   ·exact i3 q hq
 | [],_::_,h=>h.elim
 |_::_,[],h=>h.elim
theorem oI.mono{ns ms:List Nd}(hp:ns<+:ms): ∀{ks ss:List Int},oI ns ks ss->oI ms ks ss
 | [],[],_=>trivial
 |k::ks,s::ss,h=>⟨⟨h.1.1.mono hp,h.1.2⟩,oI.mono hp h.2⟩
 | [],_::_,h=>h.elim
 |_::_,[],h=>h.elim
theorem oI.append{ns:List Nd} : ∀{ks ss k2 s2:List Int},oI ns ks ss->oI ns k2 s2->oI ns (ks++k2) (ss++s2)
 | [],[],_,_,_,h=>h
 |k::ks,s::ss,_,_,h,g=>⟨h.1,oI.append h.2 g⟩
 | [],_::_,_,_,h,_=>h.elim
 |_::_,[],_,_,h,_=>h.elim
theorem oI.one{ns:List Nd}{k s:Int}(h:SK ns s k)(hs:s≠0):oI ns [k] [s]:=⟨⟨h,hs⟩,trivial⟩
theorem oI.len{ns:List Nd} : ∀{ks ss:List Int},oI ns ks ss->ks.length=ss.length
 | [],[],_=>rfl
 |k::ks,s::ss,h=>by simp [oI.len h.2]
 | [],_::_,h=>h.elim
 |_::_,[],h=>h.elim
def AV(ns:List Nd)(vs:List Int):Prop:= ∀v∈vs,SK ns 1 v
theorem AV.sks{ns:List Nd} : ∀{vs:List Int},AV ns vs->oI ns vs (List.replicate vs.length 1)
 | [],_=>trivial
 |v::vs,h=>⟨⟨h v h2C,by decide⟩,AV.sks fun x hx=>h x (h2N _ hx)⟩
theorem AV.mono{ns ms:List Nd}{vs:List Int}(h:AV ns vs)(hp:ns<+:ms):AV ms vs:=fun v hv=>(h v hv).mono hp
theorem AV.set{ns:List Nd}{vs:List Int}{i:Nat}{v:Int}(h:AV ns vs)(hv:SK ns 1 v):AV ns (vs.set i v):=fun x hx=>by
 rcases List.mem_or_eq_of_mem_set hx with q|rfl
 ·exact h x q
 ·exact hv
theorem fL{ns:List Nd}{op im:Int}{ks ss:List Int}(h:oI ns ks ss):cC ns (aG ns) ⟨op,im,ks⟩=bQ (eK ns ⟨op,im,ks⟩) op im ss:=by
 obtain⟨h1,h2,_⟩:=h.map;unfold cC
 rw [if_pos h1,h2]
theorem c1B{ns ms:List Nd}{n:Nd}(hp:ns<+:ms)(h:cC ns (aG ns) n≠0):cC ms (aG ms) n=cC ns (aG ns) n:=by
 unfold cC at h⊢
 by_cases c:n.ks.all (dL (aG ns))=true
 ·rw [if_pos c]at h⊢;have e: ∀q∈n.ks,(aG ms).getD q.toNat 0=(aG ns).getD q.toNat 0/\0<=q/\q<ns.length:=fun q hq=>by
   have:=qF (h2L.1 c q hq);rw [bD]at this;exact⟨sC (jZ hp) (by rw [bD];omega),this.1,this.2.1⟩
  have hl:=hp.length_le;rw [if_pos]
  ·have e2:n.ks.map (fun q=>(aG ms).getD q.toNat 0)=n.ks.map (fun q=>(aG ns).getD q.toNat 0):=h5B fun q hq=>(e q hq).1
   rw [e2]
   by_cases z:n.ks=[]
   ·rw [z];rw [z]at h
    by_cases o:n.op=25
    ·exfalso;apply h;unfold bQ
     rw [if_neg (by omega),if_neg (by omega),if_pos o,if_neg (by intro x;exact absurd x.1 (by simp))]
    ·unfold bQ
     split
     ·rfl
     split
     ·rfl
     rfl
   ·have e3:eK ms n=eK ns n:=by
     unfold eK
     obtain⟨a,r,hz⟩:=List.exists_cons_of_ne_nil z;have ha:=e a (by rw [hz];exact h2C);rw [hz];show(ms.getD a.toNat default).ks.length=(ns.getD a.toNat default).ks.length;obtain⟨t,rfl⟩:=hp;simp only [h1A];rw [h1Z (by omega)]
    rw [e3]
  ·refine h2L.2 fun q hq=>?_
   have h1:=qF (h2L.1 c q hq);obtain⟨e1,e2,e3⟩:=e q hq;unfold dL
   simp only [h0Y,decide_eq_true_eq];rw [bD,e1];exact⟨e2,by omega,h1.2.2⟩
 ·rw [if_neg c]at h;exact absurd rfl h
structure GL(ns:List Nd)(lo:Int):Prop where
 ok: ∀n∈ns,okN n/\n.ks.length<=40
 wf: ∀s∈aG ns,s≠0
 lv: ∀n∈ns,n.op=3->n.im<16*lo
 ln: ∀n∈ns,n.op=31->n.im<lo
 lu: ∀(i j:Nat)(n m:Nd),ns[i]?=some n->ns[j]?=some m->n.op=31->m.op=31->n.im=m.im->i=j
 lf: ∀(i:Nat)(n:Nd),ns[i]?=some n->n.op=31-> ∀j:Nat,1<=j->j<n.ks.length/2-> ∀(i2:Nat)(n2:Nd),ns[i2]?=some n2->n2.op=3->n2.im=16*n.im+j->n.ks.getD j 0<i2
structure GX(ns ms:List Nd)(lo lo2:Int):Prop where
 pre:ns<+:ms
 le:lo<=lo2
 nw: ∀(i:Nat)(n:Nd),ms[i]?=some n->ns.length<=i->(n.op=3->16*lo<=n.im)/\(n.op=31->lo<=n.im)
theorem GX.refl{ns:List Nd}{lo:Int} :GX ns ns lo lo:=⟨h4F _,h3P _,fun i n h hl=>by
 rw [h2E hl]at h;cases h⟩
theorem GX.trans{a b c:List Nd}{x y z:Int}(h:GX a b x y)(g:GX b c y z):GX a c x z:=⟨h.pre.trans g.pre,Int.le_trans h.le g.le,fun i n e hl=>by
 rcases h2D i b.length with q|q
 ·refine h.nw i n ?_ hl;rw [<-e];obtain⟨t,rfl⟩:=g.pre;rw [h1Z q]
 ·have:=g.nw i n e q;have hle:=h.le;exact⟨fun o=>by have:=this.1 o;omega,fun o=>by have:=this.2 o;omega⟩⟩
theorem iN{a b:List Nd}(h:a<+:b){i:Nat}{n:Nd}(e:a[i]?=some n):b[i]?=some n:=by
 obtain⟨t,rfl⟩:=h;rw [h1Z (h2B.1 e).1];exact e
theorem c6D{n:Nd} : ∀{l:List Nd}{i j:Nat},a1G n l i=some j->i<=j/\l[j-i]?=some n
 | [],i,j,h=>by cases h
 |x::l,i,j,h=>by
  unfold a1G at h;split at h
  ·rename_i e
   cases h
   exact⟨h1D _,by rw [h6E,e];rfl⟩
  ·obtain⟨h1,h2⟩:=c6D h;exact⟨by omega,by rw [show j-i=j- (i+1)+1 by omega,h4A];exact h2⟩
theorem c6E{n:Nd} : ∀{l:List Nd}{i:Nat},a1G n l i=none->n∉l
 | [],i,h,hm=>by cases hm
 |x::l,i,h,hm=>by
  unfold a1G at h;split at h
  ·cases h
  ·rename_i e;rcases h2O.1 hm with q|q
   ·exact e q
   ·exact c6E h q
theorem a3S(ns:List Nd)(n:Nd):(∃i:Nat,ns[i]?=some n/\fY ns n=(ns,(i:Int))) \/ (n∉ns/\fY ns n=(ns++ [n],(ns.length:Int))):=by
 unfold fY
 cases h:a1G n ns 0 with
 |some i=>exact .inl ⟨i,(c6D h).2,rfl⟩
 |none=>exact .inr ⟨c6E h,rfl⟩
theorem e8Y{ns:List Nd}(h: ∀s∈aG ns,s≠0){i:Nat}{n:Nd}(e:ns[i]?=some n):cC ns (aG ns) n=(aG ns).getD i 0:=by
 rw [mH e];refine c1B (h5S i ns) ?_;rw [<-mH e];have hi:i< (aG ns).length:=by rw [bD];exact(h2B.1 e).1
 rw [h1A,h0U hi];exact h _ (h1B hi)
theorem xH{ns:List Nd}{n m:Nd}{i:Nat}(h:(ns++ [n])[i]?=some m):ns[i]?=some m\/ (i=ns.length/\m=n):=by
 rcases h2D i ns.length with q|q
 ·exact .inl (by rw [h1Z q]at h;exact h)
 ·rw [h1V q]at h;have:i-ns.length=0:=by
   rcases h6C (i-ns.length)with z|z
   ·exact z
   ·rw [h2E (show [n].length<=i-ns.length from z)]at h;cases h
  rw [this]at h;exact .inr ⟨by omega,by simpa using h.symm⟩
theorem GL.put{ns:List Nd}{lo:Int}{n:Nd}{s:Int}(g:GL ns lo)(hn:okN n/\n.ks.length<=40)(hs:cC ns (aG ns) n=s)(h0:s≠0)(h3:n.op=3->0<=n.im/\n.im<16*lo)
  (h3':n.op=3-> ∀(i:Nat)(m:Nd),ns[i]?=some m->m.op=31->m.im≠n.im/16) (h31:n.op=31->n.im<lo/\(∀m∈ns,m.op=31->m.im≠n.im)/\
   ∀j:Nat,1<=j->j<n.ks.length/2-> ∀(i2:Nat)(n2:Nd),ns[i2]?=some n2->n2.op=3->n2.im=16*n.im+j->n.ks.getD j 0<i2):
  GL (fY ns n).1 lo/\SK (fY ns n).1 s (fY ns n).2/\ns<+:(fY ns n).1/\(fY ns n).1.length<=ns.length+1/\(∀(i:Nat)(m:Nd),(fY ns n).1[i]?=some m->ns.length<=i->m=n):=by
 rcases a3S ns n with⟨i,e,hp⟩| ⟨hm,hp⟩
 ·rw [hp];have hi:=(h2B.1 e).1;refine⟨g,⟨by simp,by simp;omega,?_⟩,h4F _,h4E _,fun j m h hl=>by rw [h2E hl]at h;cases h⟩;rw [<-hs,e8Y g.wf e];simp
 ·rw [hp];have hsn:=gM ns n;refine⟨⟨?_,?_,?_,?_,?_,?_⟩,⟨by simp,by simp;omega,?_⟩,h3Y _ _,by simp,fun j m h hl=>?_⟩
  ·intro m hm;rcases h2S.1 hm with q|q
   ·exact g.ok m q
   ·rw [h2J.1 q];exact hn
  ·intro t ht;dsimp only at ht;rw [hsn]at ht;rcases h2S.1 ht with q|q
   ·exact g.wf t q
   ·rw [h2J.1 q,hs];exact h0
  ·intro m hm o;rcases h2S.1 hm with q|q
   ·exact g.lv m q o
   ·rw [h2J.1 q]at o⊢;exact(h3 o).2
  ·intro m hm o;rcases h2S.1 hm with q|q
   ·exact g.ln m q o
   ·rw [h2J.1 q]at o⊢;exact(h31 o).1
  ·intro i j a b ha hb oa ob hab;rcases xH ha with qa| ⟨qa,ea⟩<;>rcases xH hb with qb| ⟨qb,eb⟩
   ·exact g.lu i j a b qa qb oa ob hab
   ·rw [eb]at ob hab;exact absurd hab ((h31 ob).2.1 a (h3C qa) oa)
   ·rw [ea]at oa hab;exact absurd hab.symm ((h31 oa).2.1 b (h3C qb) ob)
   ·omega
  ·intro i a ha oa j hj1 hj2 i2 b hb ob hab;rcases xH ha with qa| ⟨qa,ea⟩<;>rcases xH hb with qb| ⟨qb,eb⟩
   ·exact g.lf i a qa oa j hj1 hj2 i2 b qb ob hab
   ·rw [eb]at ob hab;exfalso;refine h3' ob i a qa oa ?_;have:(j:Int)<16\/16<=(j:Int):=by omega
    rcases this with hj|hj
    ·omega
    ·exfalso;have h2:=(g.ok a (h3C qa));have h4:=e8Y g.wf qa;have hi:i< (aG ns).length:=by rw [bD];exact(h2B.1 qa).1
     have h5:(aG ns).getD i 0≠0:=by
      rw [h1A,h0U hi];exact g.wf _ (h1B hi)
     rw [<-h4]at h5;unfold cC at h5;split at h5
     ·unfold bQ at h5;rw [if_pos oa]at h5;split at h5
      ·rename_i c;have:=sD c.1;rw [h1P]at this;omega
      ·exact h5 rfl
     ·exact h5 rfl
   ·rw [ea]at oa hj2 hab⊢;exact(h31 oa).2.2 j hj1 hj2 i2 b qb ob hab
   ·rw [ea]at oa;rw [eb]at ob;omega
  ·dsimp only;rw [hsn,h0Z,h1A,h1V (by rw [bD];exact h1D _),bD,h6E,hs];rfl
  ·rcases xH h with q| ⟨_,q⟩
   ·rw [h2E hl]at q;cases q
   ·exact q
def lD(pa pf:List IV):Prop:= ∃(la lb:Int)(b0:List S)(v0:E)(b1:List S)(v1:E),pa=c1A la lb/\pf=fnC b0 v0 b1 v1
def qG(pa pf:List IV):Prop:= ∃(la lb:Int)(b0:List S)(v0:E)(b1:List S)(v1:E),PP la lb b0 v0 b1 v1/\pa=c1A la lb/\pf=fnC b0 v0 b1 v1
theorem qG.q{pa pf:List IV}(h:qG pa pf):lD pa pf:=by
 obtain⟨la,lb,b0,v0,b1,v1,hp,h1,h2⟩:=h;exact⟨la,lb,b0,v0,b1,v1,h1,h2⟩
theorem lD.pure{pa pf:List IV}(h:lD pa pf):aN pa=true/\aN pf=true:=by
 obtain⟨la,lb,b0,v0,b1,v1,rfl,rfl⟩:=h;simp only [aN,bL,c1A,fnC,bG,xF,bP,h1L,and_self]
theorem bt{b:Bool}{A B:Prop}(h:b=true)(a:A):aM b A B:=by subst h;exact a
theorem bf{b:Bool}{A B:Prop}(h:b=false)(x:B):aM b A B:=by subst h;exact x
theorem bx{b:Bool}{A B:Prop}(a:A)(x:B):aM b A B:=by cases b;exact x;exact a
abbrev Bs:=List UInt8
def EW(f:Int):E->Prop
 | .mk _ _ _ _ ks=>ks.length<=3/\Es.wf f ks
theorem EW.of{f:Int} : ∀{e:E},e.wf f->EW f e
 | .mk k n nm op ks,h=>⟨by
  have:=h.1;unfold a6Y at this;omega,h.2⟩
theorem EW.e0{f:Int} :EW f e0:=⟨by simp,trivial⟩
theorem lC.ew{f k n:Int}{nm to:List UInt8}{a v:E}{args:List E}{th el:List S}(h:lC f k nm to n a v args th el):EW f a/\EW f v/\Es.wf f args:=by
 unfold lC at h;rcases h with h|h|h|h|h|h|h
 ·rw [h.2.2.2.2.1,h.2.2.2.2.2.2.1];exact⟨EW.e0,EW.of h.2.2.2.2.2.1,trivial⟩
 ·rw [h.2.2.2.2.2.2.1];exact⟨EW.of h.2.2.2.2.1,EW.of h.2.2.2.2.2.1,trivial⟩
 ·rw [h.2.2.2.2.1,h.2.2.2.2.2.2];exact⟨EW.e0,EW.of h.2.2.2.2.2.1,trivial⟩
 ·rw [h.2.2.2.2.1,h.2.2.2.2.2.2.1];exact⟨EW.e0,EW.of h.2.2.2.2.2.1,trivial⟩
 ·rw [h.2.2.2.2.1,h.2.2.2.2.2.2.1];exact⟨EW.e0,EW.of h.2.2.2.2.2.1,trivial⟩
 ·rw [h.2.2.2.2.1,h.2.2.2.2.2.1];exact⟨EW.e0,EW.e0,h.2.2.2.2.2.2.1⟩
 ·rw [h.2.2.2.2.1,h.2.2.2.2.2.1,h.2.2.2.2.2.2.1];exact⟨EW.e0,EW.e0,trivial⟩
def nH:List (List UInt8):=[[102],[103],[120],[121],[105],[106],[110],[97],[98]]
theorem fG{s:List UInt8}(h:decide (s∈nH)=true):s∈nH:=of_decide_eq_true h
theorem c6F{f:Int}{s:List UInt8}(h:s∈bN f):s∈nH:=by
 unfold bN at h;split at h
 ·simp only [h2O,h4G,or_false]at h;rcases h with rfl|rfl|rfl|rfl<;>decide
 ·simp only [h2O,h4G,or_false]at h;rcases h with rfl|rfl<;>decide
theorem d4V{s:List UInt8}(h:s∈oW):s∈nH:=by
 simp only [oW,h2O,h4G,or_false]at h;rcases h with rfl|rfl<;>decide
theorem xI(f:Int):(bN f).length<=1000:=by
 unfold bN
 split<;>simp
theorem lC.e{f k n:Int}{nm to:List UInt8}{a v:E}{args:List E}{th el:List S}(h:lC f k nm to n a v args th el):(a=e0\/a.wf f)/\(v=e0\/v.wf f)/\Es.wf f args:=by
 unfold lC at h;rcases h with h|h|h|h|h|h|h
 ·rw [h.2.2.2.2.2.2.1];exact⟨.inl h.2.2.2.2.1,.inr h.2.2.2.2.2.1,trivial⟩
 ·rw [h.2.2.2.2.2.2.1];exact⟨.inr h.2.2.2.2.1,.inr h.2.2.2.2.2.1,trivial⟩
 ·rw [h.2.2.2.2.2.2];exact⟨.inl h.2.2.2.2.1,.inr h.2.2.2.2.2.1,trivial⟩
 ·rw [h.2.2.2.2.2.2.1];exact⟨.inl h.2.2.2.2.1,.inr h.2.2.2.2.2.1,trivial⟩
 ·rw [h.2.2.2.2.2.2.1];exact⟨.inl h.2.2.2.2.1,.inr h.2.2.2.2.2.1,trivial⟩
 ·exact⟨.inl h.2.2.2.2.1,.inl h.2.2.2.2.2.1,h.2.2.2.2.2.2.1⟩
 ·rw [h.2.2.2.2.2.2.1];exact⟨.inl h.2.2.2.2.1,.inl h.2.2.2.2.2.1,trivial⟩
theorem lO{f k n:Int}{nm:List UInt8}{op:Int}{ks:List E}(h:E.mk k n nm op ks=e0\/E.wf f (E.mk k n nm op ks)):E.wf f (E.mk k n nm op ks) \/ (k=0/\ks=[]):=by
 rcases h with h|h
 ·obtain⟨h1,_,_,_,h5⟩:=E.mk.inj (h:E.mk k n nm op ks=E.mk 0 0 [] 0 []);exact .inr ⟨h1,h5⟩
 ·exact .inl h
theorem cI: ∀{l:List (List UInt8)},aN (l.map IV.str)=true
 | []=>rfl
 |_::r=>by simp only [h2H,aN,bL,h2G];exact cI
theorem lC.args2{f k n:Int}{nm to:List UInt8}{a v:E}{args:List E}{th el:List S}(h:lC f k nm to n a v args th el):args.length<=2:=by
 unfold lC at h;rcases h with h|h|h|h|h|h|h
 ·rw [h.2.2.2.2.2.2.1];simp
 ·rw [h.2.2.2.2.2.2.1];simp
 ·rw [h.2.2.2.2.2.2];simp
 ·rw [h.2.2.2.2.2.2.1];simp
 ·rw [h.2.2.2.2.2.2.1];simp
 ·rcases h.2.2.1 with q|q<;>omega
 ·rw [h.2.2.2.2.2.2.1];simp
theorem Es.dp_take{ks:List E}{i:Nat}(h:i<ks.length):Es.dp (ks.take (i+1))=max (Es.dp (ks.take i)) (1+ks[i].dp):=by
 rw [h1J h,Es.dp_append];simp only [Es.dp];omega
theorem Es.dp_le{ks:List E}(i:Nat):Es.dp (ks.take i)<=Es.dp ks:=by
 have h:=Es.dp_append (a:=ks.take i) (b:=ks.drop i);rw [h4R]at h;omega
theorem Es.dp_mem: ∀{ks:List E}{e:E},e∈ks->1+e.dp<=Es.dp ks
 |x::r,e,h=>by
  rcases h2O.1 h with rfl|h
  ·simp only [Es.dp];omega
  ·have:=Es.dp_mem h;simp only [Es.dp];omega
theorem Es.wf_mem{f:Int} : ∀{ks:List E}{e:E},Es.wf f ks->e∈ks->e.wf f
 |x::r,e,h,hm=>by
  rcases h2O.1 hm with rfl|hm
  ·exact h.1
  ·exact Es.wf_mem h.2 hm
theorem Ss.wf_mem{f:Int} : ∀{ks:List S}{e:S},Ss.wf f ks->e∈ks->e.wf f
 |x::r,e,h,hm=>by
  rcases h2O.1 hm with rfl|hm
  ·exact h.1
  ·exact Ss.wf_mem h.2 hm
theorem Ss.ed_mem{m:Nat} : ∀{ks:List S}{e:S},Ss.ed m ks->e∈ks->e.ed m
 |x::r,e,h,hm=>by
  rcases h2O.1 hm with rfl|hm
  ·exact h.1
  ·exact Ss.ed_mem h.2 hm
theorem Ss.cnt_mem: ∀{ks:List S}{e:S},e∈ks->e.cnt<=Ss.cnt ks
 |x::r,e,h=>by
  rcases h2O.1 h with rfl|h
  ·simp only [Ss.cnt];omega
  ·have:=Ss.cnt_mem h;simp only [Ss.cnt];omega
theorem Ss.dp_mem{d:Nat} : ∀{ks:List S}{e:S},e∈ks->e.dp d<=Ss.dp d ks
 |x::r,e,h=>by
  rcases h2O.1 h with rfl|h
  ·simp only [Ss.dp];omega
  ·have:=Ss.dp_mem (d:=d) h;simp only [Ss.dp];omega
theorem Ss.cnt_take{l:List S}{i:Nat}(h:i<l.length):Ss.cnt (l.take (i+1))=Ss.cnt (l.take i)+l[i].cnt:=by
 rw [h1J h,Ss.cnt_append];simp only [Ss.cnt];omega
theorem Ss.whl_take{l:List S}{i:Nat}(h:i<l.length):Ss.whl (l.take (i+1))=Ss.whl (l.take i)+l[i].whl:=by
 rw [h1J h,Ss.whl_append];simp only [Ss.whl];omega
theorem Ss.dp_take{d:Nat}{l:List S}{i:Nat}(h:i<l.length):Ss.dp d (l.take (i+1))=max (Ss.dp d (l.take i)) (l[i].dp d):=by
 rw [h1J h,Ss.dp_append];simp only [Ss.dp];omega
theorem Ss.cnt_le{l:List S}(i:Nat):Ss.cnt (l.take i)<=Ss.cnt l:=by
 have h:=Ss.cnt_append (a:=l.take i) (b:=l.drop i);rw [h4R]at h;omega
theorem Ss.dp_le{d:Nat}{l:List S}(i:Nat):Ss.dp d (l.take i)<=Ss.dp d l:=by
 have h:=Ss.dp_append (d:=d) (a:=l.take i) (b:=l.drop i);rw [h4R]at h;omega
mutual
theorem S.whl_cnt: ∀s:S,s.whl<=s.cnt
 | .mk k _ _ _ _ _ _ th el=>by
  have:=Ss.whl_cnt th;have:=Ss.whl_cnt el;simp only [S.whl,S.cnt];split<;>omega
theorem Ss.whl_cnt: ∀l:List S,Ss.whl l<=Ss.cnt l
 | []=>h1D _
 |s::r=>by
  have:=S.whl_cnt s;have:=Ss.whl_cnt r;simp only [Ss.whl,Ss.cnt];omega
end
theorem Ss.len_cnt: ∀l:List S,l.length<=Ss.cnt l
 | []=>h1D _
 | .mk _ _ _ _ _ _ _ _ _::r=>by
  have:=Ss.len_cnt r;simp only [h1O,Ss.cnt,S.cnt];omega
theorem b0Y{ks:List E}{i o:Nat}{K:Int->Int->List UInt8->Int->Option Nat->Nat->Nat->List IV->Prop}(h:i<ks.length)(ho:o=i*5)
  (hk: ∀(k n:Int)(nm:List UInt8)(op:Int)(q:List E),ks[i]= .mk k n nm op q->K k n nm op none 0 q.length (aW q)):
  aK .i64 (aW ks) o fun a=>aK .i64 (aW ks) (o+1) fun b=>bZ (aW ks) (o+1+1) fun c=>aK .i64 (aW ks) (o+1+1+1) fun d=>bH 5 (aW ks) (o+1+1+1+1) fun p q r s=>K a b c d p q r s:=by
 refine ldE h ho ?_;generalize he:ks[i]=t at*
 cases t with
 |mk k n nm op q=>exact hk k n nm op q rfl
theorem e5U{l:List S}{i o:Nat}{K:Int->List UInt8->List UInt8->Int->Int->Int->List UInt8->Int->Option Nat->Nat->Nat->List IV->Int->Int->List UInt8->Int->Option Nat->Nat->Nat->List IV->Option Nat->Nat->Nat->List IV->Option Nat->Nat->Nat->List IV->Option Nat->Nat->Nat->List IV->Prop}
  (h:i<l.length) (ho:o=i*17)
  (hk: ∀(k:Int)(nm to:List UInt8)(n ak an:Int)(anm:List UInt8)(aop:Int)(aks:List E)(vk vn:Int)(vnm:List UInt8)(vop:Int)(vks args:List E)(th el:List S),l[i]= .mk k nm to n (.mk ak an anm aop aks) (.mk vk vn vnm vop vks) args th el->
   K k nm to n ak an anm aop none 0 aks.length (aW aks) vk vn vnm vop none 0 vks.length (aW vks) none 0 args.length (aW args) none 0 th.length (aX th) none 0 el.length (aX el)):
  aK .i64 (aX l) o fun k=>bZ (aX l) (o+1) fun nm=>bZ (aX l) (o+1+1) fun to=>aK .i64 (aX l) (o+1+1+1) fun n=>
  aK .i64 (aX l) (o+1+1+1+1) fun ak=>aK .i64 (aX l) (o+1+1+1+1+1) fun an=>bZ (aX l) (o+1+1+1+1+1+1) fun anm=>aK .i64 (aX l) (o+1+1+1+1+1+1+1) fun aop=>bH 5 (aX l) (o+1+1+1+1+1+1+1+1) fun p1 q1 r1 s1=>
  aK .i64 (aX l) (o+1+1+1+1+1+1+1+1+1) fun vk=>aK .i64 (aX l) (o+1+1+1+1+1+1+1+1+1+1) fun vn=>bZ (aX l) (o+1+1+1+1+1+1+1+1+1+1+1) fun vnm=>aK .i64 (aX l) (o+1+1+1+1+1+1+1+1+1+1+1+1) fun vop=>bH 5 (aX l) (o+1+1+1+1+1+1+1+1+1+1+1+1+1) fun p2 q2 r2 s2=>
  bH 5 (aX l) (o+1+1+1+1+1+1+1+1+1+1+1+1+1+1) fun p3 q3 r3 s3=>bH 17 (aX l) (o+1+1+1+1+1+1+1+1+1+1+1+1+1+1+1) fun p4 q4 r4 s4=>bH 17 (aX l) (o+1+1+1+1+1+1+1+1+1+1+1+1+1+1+1+1) fun p5 q5 r5 s5=>
  K k nm to n ak an anm aop p1 q1 r1 s1 vk vn vnm vop p2 q2 r2 s2 p3 q3 r3 s3 p4 q4 r4 s4 p5 q5 r5 s5:=by
 subst ho;have at_:=fun j (hj:j<17)=>zH (j:=j) h hj
 generalize l[i]=t at*
 cases t with
 |mk k nm to n a v args th el=>
  cases a with
  |mk ak an anm aop aks=>
   cases v with
   |mk vk vn vnm vop vks=>
    exact bV (at_ 0 (by decide)) (hU (at_ 1 (by decide)) (hU (at_ 2 (by decide)) (bV (at_ 3 (by decide)) (bV (at_ 4 (by decide)) (bV (at_ 5 (by decide)) (hU (at_ 6 (by decide)) (bV (at_ 7 (by decide)) (dY (at_ 8 (by decide)) (bV (at_ 9 (by decide)) (bV (at_ 10 (by decide)) (hU (at_ 11 (by decide)) (bV (at_ 12 (by decide)) (dY (at_ 13 (by decide)) (dY (at_ 14 (by decide)) (dY (at_ 15 (by decide)) (dY (at_ 16 (by decide)) (hk k nm to n ak an anm aop aks vk vn vnm vop vks args th el rfl)))))))))))))))))
theorem g1A(s:S): ∃(k:Int)(nm to:List UInt8)(n ak an:Int)(anm:List UInt8)(aop:Int)(aks:List E)(vk vn:Int)(vnm:List UInt8)(vop:Int)(vks args:List E)(th el:List S),s= .mk k nm to n (.mk ak an anm aop aks) (.mk vk vn vnm vop vks) args th el:=by
 cases s with
 |mk k nm to n a v args th el=>
  cases a with
  |mk ak an anm aop aks=>
   cases v with
   |mk vk vn vnm vop vks=>exact⟨_,_,_,_,_,_,_,_,_,_,_,_,_,_,_,_,_,rfl⟩
theorem f2Y{l:List S}{i o:Nat}{K:Int->Prop}(h:i<l.length){k:Int}{nm to:List UInt8}{n:Int}{a v:E}{args:List E}{th el:List S}(e:l[i]= .mk k nm to n a v args th el)(ho:o=i*17)(hk:K k):aK .i64 (aX l) o K:=
 bV (n:=k) (by rw [ho];have:=zH (j:=0) h (by decide);rw [h6U]at this;rw [this,e];rfl) hk
theorem g1B{l:List S}{i o:Nat}{K:List UInt8->Prop}(h:i<l.length){k:Int}{nm to:List UInt8}{n:Int}{a v:E}{args:List E}{th el:List S}(e:l[i]= .mk k nm to n a v args th el)(ho:o=i*17+1)(hk:K nm):bZ (aX l) o K:=
 hU (b:=nm) (by rw [ho,zH (j:=1) h (by decide),e];rfl) hk
theorem a8N{l:List S}{i o:Nat}{K:Option Nat->Nat->Nat->List IV->Prop}(h:i<l.length){k:Int}{nm to:List UInt8}{n:Int}{a v:E}{args:List E}{th el:List S}(e:l[i]= .mk k nm to n a v args th el)(ho:o=i*17+15)(hk:K none 0 th.length (aX th)):bH 17 (aX l) o K:=
 dY (by rw [ho,zH (j:=15) h (by decide),e];cases a;cases v;rfl) hk
theorem a8O{l:List S}{i o:Nat}{K:Option Nat->Nat->Nat->List IV->Prop}(h:i<l.length){k:Int}{nm to:List UInt8}{n:Int}{a v:E}{args:List E}{th el:List S}(e:l[i]= .mk k nm to n a v args th el)(ho:o=i*17+16)(hk:K none 0 el.length (aX el)):bH 17 (aX l) o K:=
 dY (by rw [ho,zH (j:=16) h (by decide),e];cases a;cases v;rfl) hk
def LV(h:Heap)(id:Nat)(lv:IV)(ns:List Nd):Prop:=(ns=[]/\lv= .nilslice) \/ ∃io,lv= .vslice (some io) (ns.length*3) ns.length 3 (ns.flatMap cN)/\h.get io= .tip (ns.length*3)/\io<h.next/\io≠id
def NL(h:Heap)(id j:Nat):Prop:= ∀(cs:List IV)(e n z:Nat)(c:List IV),h.get id= .cells cs->cs[2]?≠some (.vslice (some j) e n z c)
structure FC(id:Nat)(h h2:Heap):Prop where
 nx:h.next<=h2.next
 cl: ∀(j:Nat)(c:List IV),j<h.next->j≠id->h.get j= .cells c->h2.get j= .cells c
 tp: ∀(j m:Nat),j<h.next->h.get j= .tip m->NL h id j->h2.get j= .tip m/\NL h2 id j
theorem FC.refl{id:Nat}{h:Heap} :FC id h h:=⟨h1D _,fun _ _ _ _ e=>e,fun _ _ _ e n=>⟨e,n⟩⟩
theorem FC.trans{id:Nat}{a b c:Heap}(x:FC id a b)(y:FC id b c):FC id a c:=
 ⟨h2F x.nx y.nx,fun j r hj hn e=>y.cl j r (h1C hj x.nx) hn (x.cl j r hj hn e),fun j m hj e n=>by
  obtain⟨p,q⟩:=x.tp j m hj e n;exact y.tp j m (h1C hj x.nx) p q⟩
theorem NL.push{h:Heap}{id j:Nat}{x:IObj}(hid:id<h.next)(n:NL h id j):NL (h.push x) id j:=fun cs e a z c q=>n cs e a z c (by rwa [aJ hid]at q)
theorem FC.push{id:Nat}{h:Heap}{x:IObj}(hid:id<h.next):FC id h (h.push x):=⟨h4E _,fun j c hj _ e=>by rw [aJ hj];exact e,fun j m hj e n=>⟨by rw [aJ hj];exact e,n.push hid⟩⟩
theorem vD{h:Heap}{id j m:Nat}{a b:List IV}(hg:h.get id= .cells a)(hs: ∀(e n z:Nat)(c:List IV),b[2]?=some (.vslice (some j) e n z c)-> ∃e n z c,a[2]?=some (.vslice (some j) e n z c))(ht:h.get j= .tip m)(n:NL h id j):
  (h.set id (.cells b)).get j= .tip m/\NL (h.set id (.cells b)) id j:=by
 refine⟨?_,fun cs e a' z c q hq=>?_⟩
 ·rw [aE (fun q=>by rw [q,hg]at ht;cases ht)];exact ht
 ·rw [aH,IObj.cells.injEq]at q;subst q;obtain⟨e2,n2,z2,c2,h2⟩:=hs _ _ _ _ hq;exact n a _ _ _ _ hg h2
theorem FC.set{id:Nat}{h:Heap}{a b:List IV}(hg:h.get id= .cells a)(hs: ∀(j e n z:Nat)(c:List IV),j<h.next->b[2]?=some (.vslice (some j) e n z c)-> ∃e n z c,a[2]?=some (.vslice (some j) e n z c)):FC id h (h.set id (.cells b)):=
 ⟨h1D _,fun j c _ hn e=>by rw [aE hn];exact e,fun j m hj e n=>vD hg (hs j · · · · hj) e n⟩
theorem FC.tip{id i m:Nat}{h:Heap}{x:IObj}{a:List IV}{e n z:Nat}{c:List IV}(ht:h.get i= .tip m)(hg:h.get id= .cells a)(h2:a[2]?=some (.vslice (some i) e n z c)):FC id h (h.set i x):=
 ⟨h1D _,fun j c _ hn e=>by rw [aE (fun q=>by rw [q,ht]at e;cases e)];exact e,fun j m2 hj e n=>by
  have hji:j≠i:=fun q=>n a _ _ _ _ hg (by rw [q];exact h2)
  have hii:id≠i:=fun q=>by rw [q,ht]at hg;cases hg
  exact⟨by rw [aE hji];exact e,fun cs e2 n2 z2 c2 q=>n cs e2 n2 z2 c2 (by rwa [aE hii]at q)⟩⟩
theorem FC.fresh{id:Nat}{h:Heap}{x:IObj}{a b:List IV}{e n z:Nat}{c:List IV}(hid:id<h.next)(hg:h.get id= .cells a)(hb:b[2]?=some (.vslice (some h.next) e n z c)):FC id h ((h.push x).set id (.cells b)):=
 ⟨h4E _,fun j r hj hn e=>by rw [aE hn,aJ hj];exact e,fun j m hj e2 n2=>by
  have hji:j≠id:=fun q=>by rw [q,hg]at e2;cases e2
  refine⟨by rw [aE hji,aJ hj];exact e2,fun cs e3 n3 z3 c3 q hq=>?_⟩;rw [aH,IObj.cells.injEq]at q;subst q;rw [hb]at hq;simp only [h0V,IV.vslice.injEq]at hq;omega⟩
structure PSt where
 ns:List Nd
 ks:List Int
 a:IV
 b:IV
 c:IV
 d:IV
 e:IV
 f:IV
def PSt.cells(p:PSt)(lv:IV):List IV:=[p.a,p.b,lv,p.c,p.d,p.e,p.f]
def bI(h:Heap)(id:Nat)(p:PSt)(op im:Int)(kn:Nat)(kc:List IV):Prop:=
 id<h.next/\(∃lv,h.get id= .cells (p.cells lv)/\LV h id lv p.ns)/\(kn=p.ks.length/\kc=p.ks.map (IV.int .i64))/\(okN ⟨op,im,p.ks⟩/\p.ks.length<=40)/\(∀n∈p.ns,okN n/\n.ks.length<=40)/\p.ns.length<=1000000
def aQ(h:Heap)(id:Nat)(p:PSt)(op im v:Int)(h2:Heap):Prop:=
 (∃lv,h2.get id= .cells (p.cells lv)/\LV h2 id lv (fY p.ns ⟨op,im,p.ks⟩).1)/\v=(fY p.ns ⟨op,im,p.ks⟩).2/\FC id h h2
structure BSt where
 pa:List IV
 pf:List IV
 f:Int
 ns:List Nd
 io:Option Nat
 ie:Nat
 iv:Nat
 vs:List Int
 st:Int
 lo:Int
def BSt.cells(s:BSt)(lv:IV):List IV:=[.vslice none 0 2 2 s.pa,.vslice none 0 2 9 s.pf,lv,.vslice s.io s.ie (bN s.f).length 1 ((bN s.f).map IV.str),.hslice s.iv 0 s.vs.length 1,.int .i64 s.st,.int .i64 s.lo]
def BH(h:Heap)(id:Nat)(s:BSt):Prop:=id<h.next/\(∃lv,h.get id= .cells (s.cells lv)/\LV h id lv s.ns)/\(s.iv<h.next/\s.iv≠id/\h.get s.iv= .cells (s.vs.map (IV.int .i64)))
structure GS(s:BSt):Prop where
 gl:GL s.ns s.lo
 av:AV s.ns s.vs
 sk:SK s.ns 2 s.st
 vl:s.vs.length=(bN s.f).length
 pp:qG s.pa s.pf
 hf:s.f=0\/s.f=1
 hn:s.ns.length<=100000
 hl:0<=s.lo/\s.lo<=10
def BSt.pst(s:BSt)(ks:List Int):PSt:=⟨s.ns,ks,.vslice none 0 2 2 s.pa,.vslice none 0 2 9 s.pf,.vslice s.io s.ie (bN s.f).length 1 ((bN s.f).map IV.str),.hslice s.iv 0 s.vs.length 1,.int .i64 s.st,.int .i64 s.lo⟩
theorem LV.set{h:Heap}{id i:Nat}{lv:IV}{ns:List Nd}{x:IObj}(l:LV h id lv ns){c:List IV}(hc:h.get i= .cells c):LV (h.set i x) id lv ns:=by
 rcases l with l| ⟨io,l1,l2,l3,l4⟩
 ·exact .inl l
 ·exact .inr ⟨io,l1,by rw [aE (fun q=>by rw [q,hc]at l2;cases l2)];exact l2,l3,l4⟩
theorem LV.push{h:Heap}{id:Nat}{lv:IV}{ns:List Nd}{x:IObj}(l:LV h id lv ns):LV (h.push x) id lv ns:=by
 rcases l with l| ⟨io,l1,l2,l3,l4⟩
 ·exact .inl l
 ·exact .inr ⟨io,l1,by rw [aJ l3];exact l2,h1T l3,l4⟩
theorem BH.push{h:Heap}{id:Nat}{s:BSt}{x:IObj}(b:BH h id s):BH (h.push x) id s:=by
 obtain⟨b1,⟨lv,b2,b3⟩,b4,b5,b6⟩:=b;exact⟨h1T b1,⟨lv,by rw [aJ b1];exact b2,b3.push⟩,h1T b4,b5,by rw [aJ b4];exact b6⟩
theorem BH.tip{h:Heap}{id i:Nat}{s:BSt}{m:Nat}{x:IObj}(b:BH h id s)(hi:h.get i= .tip m)(hl: ∀lv,h.get id= .cells (s.cells lv)-> ∀io e n c,lv= .vslice (some io) e n 3 c->io≠i):BH (h.set i x) id s:=by
 obtain⟨b1,⟨lv,b2,b3⟩,b4,b5,b6⟩:=b;refine⟨b1,⟨lv,by rw [aE (fun q=>by rw [q,hi]at b2;cases b2)];exact b2,?_⟩,b4,b5,by rw [aE (fun q=>by rw [q,hi]at b6;cases b6)];exact b6⟩;rcases b3 with l| ⟨io,l1,l2,l3,l4⟩
 ·exact .inl l
 ·exact .inr ⟨io,l1,by rw [aE (hl lv b2 io _ _ _ l1)];exact l2,l3,l4⟩
theorem BH.st{h:Heap}{id:Nat}{s:BSt}{lv:IV}{v:Int}(b:BH h id s)(hg:h.get id= .cells (s.cells lv)):BH (h.set id (.cells (({s with st:=v } :BSt).cells lv))) id {s with st:=v } :=by
 obtain⟨b1,⟨lv',b2,b3⟩,b4,b5,b6⟩:=b;have e:lv'=lv:=by
  rw [hg]at b2;simp only [IObj.cells.injEq,BSt.cells,h2I,true_and,and_true]at b2;exact b2.symm
 subst e;exact⟨b1,⟨lv',aH,b3.set hg⟩,b4,b5,by rw [aE b5];exact b6⟩
theorem BH.var{h:Heap}{id:Nat}{s:BSt}{i:Nat}{v:Int}(b:BH h id s):BH (h.set s.iv (.cells ((s.vs.set i v).map (IV.int .i64)))) id {s with vs:=s.vs.set i v } :=by
 obtain⟨b1,⟨lv,b2,b3⟩,b4,b5,b6⟩:=b;exact⟨b1,⟨lv,by rw [aE b5.symm,b2];simp [BSt.cells],b3.set b6⟩,b4,b5,aH⟩
theorem BH.row{h:Heap}{id:Nat}{s:BSt}{lv:IV}{j:Nat}{ws:List Int}(b:BH h id s)(hg:h.get id= .cells (s.cells lv))(hj:j<h.next)(hn:j≠id)(hc:h.get j= .cells (ws.map (IV.int .i64))):
  BH (h.set id (.cells (({s with iv:=j,vs:=ws } :BSt).cells lv))) id {s with iv:=j,vs:=ws } :=by
 obtain⟨b1,⟨lv',b2,b3⟩,b4,b5,b6⟩:=b;have e:lv'=lv:=by
  rw [hg]at b2;simp only [IObj.cells.injEq,BSt.cells,h2I,true_and,and_true]at b2;exact b2.symm
 subst e;exact⟨b1,⟨lv',aH,b3.set hg⟩,hj,hn,by rw [aE hn];exact hc⟩
theorem BH.loops{h:Heap}{id:Nat}{s:BSt}{lv:IV}{v:Int}(b:BH h id s)(hg:h.get id= .cells (s.cells lv)):BH (h.set id (.cells (({s with lo:=v } :BSt).cells lv))) id {s with lo:=v } :=by
 obtain⟨b1,⟨lv',b2,b3⟩,b4,b5,b6⟩:=b;have e:lv'=lv:=by
  rw [hg]at b2;simp only [IObj.cells.injEq,BSt.cells,h2I,true_and,and_true]at b2;exact b2.symm
 subst e;exact⟨b1,⟨lv',aH,b3.set hg⟩,b4,b5,by rw [aE b5];exact b6⟩
theorem BH.pre{h:Heap}{id:Nat}{s:BSt}{op im:Int}{ks:List Int}(b:BH h id s)(g:GS s)(ho:bR op/\bR im)(hk: ∀k∈ks,0<=k/\k<s.ns.length)(hl:ks.length<=40):bI h id (s.pst ks) op im ks.length (ks.map (IV.int .i64)):=by
 obtain⟨b1,⟨lv,b2,b3⟩,_⟩:=b;have h1:=g.hn;refine⟨b1,⟨lv,b2,b3⟩,⟨rfl,rfl⟩,⟨⟨ho.1,ho.2,fun k q=>?_⟩,hl⟩,g.gl.ok,by show s.ns.length<=1000000;omega⟩;have:=hk k q;unfold bR
 omega
structure BP(h:Heap)(id:Nat)(s:BSt)(t v:Int)(h2:Heap)(ns2:List Nd):Prop where
 bh:BH h2 id {s with ns:=ns2 }
 gs:GS {s with ns:=ns2 }
 pre:s.ns<+:ns2
 sk:SK ns2 t v
 len:ns2.length<=s.ns.length+1
 fc:FC id h h2
theorem GS.mono{s:BSt}(g:GS s){ns2:List Nd}{lo2:Int}(gl:GL ns2 lo2)(hp:s.ns<+:ns2)(hn:ns2.length<=100000)(hl:0<=lo2/\lo2<=10):GS {s with ns:=ns2,lo:=lo2 } :=
 ⟨gl,g.av.mono hp,g.sk.mono hp,g.vl,g.pp,g.hf,hn,hl⟩
theorem BH.put{h:Heap}{id:Nat}{s:BSt}{op im v t:Int}{ks:List Int}{h2:Heap}(b:BH h id s)(g:GS s)(p:aQ h id (s.pst ks) op im v h2)
  (gp:GL (fY s.ns ⟨op,im,ks⟩).1 s.lo/\SK (fY s.ns ⟨op,im,ks⟩).1 t (fY s.ns ⟨op,im,ks⟩).2/\s.ns<+:(fY s.ns ⟨op,im,ks⟩).1/\(fY s.ns ⟨op,im,ks⟩).1.length<=s.ns.length+1) (hn:s.ns.length<100000):
  BP h id s t v h2 (fY s.ns ⟨op,im,ks⟩).1:=by
 obtain⟨⟨lv,p1,p2⟩,p3,p4⟩:=p;obtain⟨g1,g2,g3,g4⟩:=gp;obtain⟨b1,_,b4,b5,b6⟩:=b;have e:(s.pst ks).ns=s.ns:=rfl;have e2:(s.pst ks).ks=ks:=rfl;rw [e,e2]at p2 p3;exact⟨⟨h1C b1 p4.nx,⟨lv,p1,p2⟩,h1C b4 p4.nx,b5,p4.cl _ _ b4 b5 b6⟩,g.mono g1 g3 (by omega) g.hl,g3,by rw [p3];exact g2,g4,p4⟩
structure BE(h:Heap)(id:Nat)(s:BSt)(h2:Heap)(ns2:List Nd)(st2:Int)(c:Nat):Prop where
 bh:BH h2 id {s with ns:=ns2,st:=st2 }
 gs:GS {s with ns:=ns2,st:=st2 }
 gx:GX s.ns ns2 s.lo s.lo
 len:ns2.length<=s.ns.length+c
 fc:FC id h h2
theorem BE.refl{h:Heap}{id:Nat}{s:BSt}(b:BH h id s)(g:GS s):BE h id s h s.ns s.st 0:=⟨b,g,GX.refl,h1D _,FC.refl⟩
theorem BE.trans{h h2 h3:Heap}{id:Nat}{s:BSt}{ns2 ns3:List Nd}{st2 st3:Int}{c d:Nat}(x:BE h id s h2 ns2 st2 c)(y:BE h2 id {s with ns:=ns2,st:=st2 } h3 ns3 st3 d):BE h id s h3 ns3 st3 (c+d):=
 ⟨y.bh,y.gs,x.gx.trans y.gx,by have h1:=x.len;have h2:ns3.length<=ns2.length+d:=y.len;omega,x.fc.trans y.fc⟩
theorem BE.le{h h2:Heap}{id:Nat}{s:BSt}{ns2:List Nd}{st2:Int}{c d:Nat}(x:BE h id s h2 ns2 st2 c)(hc:c<=d):BE h id s h2 ns2 st2 d:=⟨x.bh,x.gs,x.gx,h2F x.len (by omega),x.fc⟩
theorem BE.st{h h2:Heap}{id:Nat}{s:BSt}{ns2:List Nd}{st2 v:Int}{c:Nat}{lv:IV}(x:BE h id s h2 ns2 st2 c)(hv:SK ns2 2 v)(hg:h2.get id= .cells (({s with ns:=ns2,st:=st2 } :BSt).cells lv)):
  BE h id s (h2.set id (.cells (({s with ns:=ns2,st:=v } :BSt).cells lv))) ns2 v c:=
 ⟨x.bh.st hg,⟨x.gs.gl,x.gs.av,hv,x.gs.vl,x.gs.pp,x.gs.hf,x.gs.hn,x.gs.hl⟩,x.gx,x.len,x.fc.trans (FC.set hg fun j e n z c _ q=>⟨e,n,z,c,q⟩)⟩
theorem GX.new{ns ns2:List Nd}{lo:Int}{n:Nd}(hp:ns<+:ns2)(h: ∀(i:Nat)(m:Nd),ns2[i]?=some m->ns.length<=i->m=n)(h3:n.op≠3)(h31:n.op≠31):GX ns ns2 lo lo:=
 ⟨hp,h3P _,fun i m e hl=>by rw [h i m e hl];exact⟨fun q=>absurd q h3,fun q=>absurd q h31⟩⟩
theorem BE.put{h:Heap}{id:Nat}{s:BSt}{op im v t:Int}{ks ss:List Int}{h2:Heap}(b:BH h id s)(g:GS s)(p:aQ h id (s.pst ks) op im v h2)(hs:oI s.ns ks ss)(ht:bQ (eK s.ns ⟨op,im,ks⟩) op im ss=t)(h0:t≠0)
  (ho:op≠3/\op≠31) (hb:bR op/\bR im) (hl:ks.length<=40) (hn:s.ns.length<100000):BE h id s h2 (fY s.ns ⟨op,im,ks⟩).1 s.st 1/\SK (fY s.ns ⟨op,im,ks⟩).1 t v:=by
 have hk:=(hs.map).2.2;have h1:=g.hn;have gp:=g.gl.put (n:=⟨op,im,ks⟩) (s:=t) ⟨⟨hb.1,hb.2,fun k q=>by have:=hk k q;unfold bR;omega⟩,hl⟩ (by rw [fL hs,ht]) h0 (fun q=>absurd q ho.1) (fun q=>absurd q ho.1) (fun q=>absurd q ho.2);have bp:=BH.put (t:=t) b g p ⟨gp.1,gp.2.1,gp.2.2.1,gp.2.2.2.1⟩ hn;exact⟨⟨bp.bh,bp.gs,GX.new gp.2.2.1 gp.2.2.2.2 ho.1 ho.2,bp.len,bp.fc⟩,bp.sk⟩
def PuI(p:PSt)(op im:Int)(i:Nat):Prop:=i<=p.ns.length/\∀j,j<i->p.ns[j]?≠some ⟨op,im,p.ks⟩
theorem a3T{n:Nd} : ∀{l:List Nd}{i j:Nat},l[j]?=some n->(∀q,q<j->l[q]?≠some n)->a1G n l i=some (i+j)
 | [],i,j,h,_=>by simp at h
 |x::l,i,0,h,_=>by
  have:x=n:=by simpa using h
  unfold a1G
  rw [if_pos this.symm];rfl
 |x::l,i,j+1,h,hn=>by
  have h0: ¬n=x:=fun e=>hn 0 (h5J _) (by simp [e])
  unfold a1G
  rw [if_neg h0,a3T (l:=l) (i:=i+1) (j:=j) (by simpa using h) fun q hq=>by simpa using hn (q+1) (by omega)];exact congrArg some (by omega)
theorem a8P{n:Nd} : ∀{l:List Nd}{i:Nat},n∉l->a1G n l i=none
 | [],i,_=>rfl
 |x::l,i,h=>by
  unfold a1G
  rw [if_neg (fun e=>h (by rw [e];exact h2C)),a8P fun q=>h (h2N _ q)]
theorem aQ.old{h g:Heap}{id:Nat}{p:PSt}{op im v:Int}{lv:IV}{i:Nat}(fc:FC id h g)(hg:g.get id= .cells (p.cells lv))(hl:LV g id lv p.ns)(he:p.ns[i]?=some ⟨op,im,p.ks⟩)(hn: ∀j,j<i->p.ns[j]?≠some ⟨op,im,p.ks⟩)(hv:v=(i:Int)):aQ h id p op im v g:=by
 have e:fY p.ns ⟨op,im,p.ks⟩=(p.ns,(i:Int)):=by
  unfold fY
  rw [a3T he hn,h1Q]
 unfold aQ
 rw [e];exact⟨⟨lv,hg,hl⟩,hv,fc⟩
theorem aQ.new{h g:Heap}{id:Nat}{p:PSt}{op im v:Int}{io:Nat}(hid:id<g.next)(fc:FC id h g){lv:IV}(hg:g.get id= .cells (p.cells lv))(hlv:lv= .vslice (some io) (p.ns.length*3) p.ns.length 3 (p.ns.flatMap cN))(ht:g.get io= .tip (p.ns.length*3))(hio:io<g.next)(hne:io≠id)(hn:(⟨op,im,p.ks⟩:Nd) ∉p.ns)(hv:v=(p.ns.length:Int)):
  aQ h id p op im v ((g.set io (.tip (p.ns.length*3+3))).set id (.cells (p.cells (.vslice (some io) (p.ns.length*3+3) (p.ns.length+1) 3 (p.ns.flatMap cN++ [.int .i64 op,.int .i64 im,.vslice none 0 p.ks.length 1 (p.ks.map (IV.int .i64))]))))):=by
 have e:fY p.ns ⟨op,im,p.ks⟩=(p.ns++ [⟨op,im,p.ks⟩],(p.ns.length:Int)):=by
  unfold fY
  rw [a8P hn]
 unfold aQ
 rw [e];refine⟨⟨_,aH,.inr ⟨io,?_,?_,hio,hne⟩⟩,hv,fc.trans ((FC.tip ht hg (by rw [hlv];rfl)).trans (FC.set ((aE (fun q=>hne q.symm)).trans hg) fun j e n z c _ q=>?_))⟩
 ·simp only [h1E,h1O,h1U,h3M,h3B];rfl
 ·rw [aE hne,aH];simp only [h1E,h1O,h1U,h3B]
 ·have q2:io=j:=by
   simp only [PSt.cells,h4A,h8B,h0V,IV.vslice.injEq]at q;exact q.1
  subst q2;exact⟨_,_,_,_,by rw [hlv];rfl⟩
theorem aQ.nil{h g:Heap}{id:Nat}{p:PSt}{op im v:Int}{a:List IV}(hid:id<g.next)(fc:FC id h g)(hg:g.get id= .cells a)(h0:p.ns=[])(hv:v=0):
  aQ h id p op im v ((g.push (.tip 3)).set id (.cells (p.cells (.vslice (some g.next) 3 1 3 [.int .i64 op,.int .i64 im,.vslice none 0 p.ks.length 1 (p.ks.map (IV.int .i64))])))):=by
 unfold aQ
 rw [h0];refine⟨⟨_,aH,.inr ⟨g.next,rfl,?_,h1G _,h3H hid⟩⟩,hv,fc.trans (FC.fresh hid hg rfl)⟩;rw [aE (h3H hid)];exact aR
structure ExPre(h:Heap)(id:Nat)(s:BSt)(d:Nat)(k n:Int)(nm:List UInt8)(op:Int)(ks:List E):Prop where
 bh:BH h id s
 gs:GS s
 wf:E.wf s.f (.mk k n nm op ks)
 dp:Es.dp ks<d
 len:s.ns.length+E.cost (.mk k n nm op ks)<=90000
def dR(h:Heap)(id:Nat)(s:BSt)(e:E)(v:Int)(h2:Heap):Prop:= ∃(ns2:List Nd)(st2:Int),BE h id s h2 ns2 st2 e.cost/\SK ns2 1 v
theorem BE.get{h h2:Heap}{id:Nat}{s:BSt}{ns2:List Nd}{st2:Int}{c:Nat}(x:BE h id s h2 ns2 st2 c): ∃lv,h2.get id= .cells (({s with ns:=ns2,st:=st2 } :BSt).cells lv):=by
 obtain⟨_,⟨lv,hg,_⟩,_⟩:=x.bh;exact⟨lv,hg⟩
theorem E.cost4{k n:Int}{nm:List UInt8}{op:Int}{ks:List E}(h:k≠2/\k≠0):E.cost (.mk k n nm op ks)=4+Es.cost ks:=by
 rw [E.cost,if_neg (by omega)]
theorem SK.kb{ns:List Nd}{s k:Int}(h:SK ns s k):0<=k/\k<ns.length:=⟨h.1,h.2.1⟩
theorem kb1{ns:List Nd}{a:Int}(h:0<=a/\a<ns.length): ∀k∈ [a],0<=k/\k<ns.length:=fun k q=>by rw [h2J.1 q];exact h
theorem kb2{ns:List Nd}{a b:Int}(h:0<=a/\a<ns.length)(g:0<=b/\b<ns.length): ∀k∈ [a,b],0<=k/\k<ns.length:=fun k q=>by
 rcases h2O.1 q with rfl|q
 ·exact h
 ·exact kb1 g k q
theorem kb3{ns:List Nd}{a b c:Int}(h:0<=a/\a<ns.length)(g:0<=b/\b<ns.length)(f:0<=c/\c<ns.length): ∀k∈ [a,b,c],0<=k/\k<ns.length:=fun k q=>by
 rcases h2O.1 q with rfl|q
 ·exact h
 ·exact kb2 g f k q
theorem kb0{ns:List Nd} : ∀k∈ ([]:List Int),0<=k/\k<ns.length:=fun k q=>by cases q
theorem BE.putE{h:Heap}{id:Nat}{s:BSt}{op im v t:Int}{ks ss:List Int}{h2:Heap}(b:BH h id s)(g:GS s)(p:aQ h id (s.pst ks) op im v h2)(hs:oI s.ns ks ss)(ht:bQ (eK s.ns ⟨op,im,ks⟩) op im ss=t)(h0:t≠0)
 (ho:op≠3/\op≠31) (hb:bR op/\bR im) (hl:ks.length<=40) (hn:s.ns.length<100000): ∃ns2,BE h id s h2 ns2 s.st 1/\SK ns2 t v:=⟨_,BE.put b g p hs ht h0 ho hb hl hn⟩
theorem nsG{e:Nat}{op im:Int}{k:List Int}(h:op≠31/\op≠30/\op≠25):bQ e op im k=fH op im k:=by
 unfold bQ
 rw [if_neg h.1,if_neg h.2.1,if_neg h.2.2]
theorem eJ{e:Nat}{im:Int} :bQ e 1 im []=1:=by
 rw [nsG (by decide)];simp [fH,oU,ar,lB]
theorem kX{e:Nat}{im:Int}(h:0<=im/\im<=5):bQ e 2 im []=1:=by
 rw [nsG (by decide)];simp [fH,oU,ar,lB,mxI];omega
theorem b5M{e:Nat} :bQ e 26 0 []=2:=by
 rw [nsG (by decide)];simp [fH,oU,ar,lB,mxI]
theorem zI{e:Nat}{op:Int}(h:4<=op/\op<=19):bQ e op 0 [1,1]=1:=by
 rw [nsG (by omega)];have hv:c6B op:=by unfold c6B;omega
 refine d0Y hv ?_ ?_ (by simp)
 ·unfold ar
  rw [if_neg (by omega),if_neg (by omega),if_pos (by omega)];rfl
 ·unfold lB mxI
  rw [decide_eq_true_eq]
  repeat' split
  all_goals omega
theorem g1C{e:Nat}{op:Int}(h:op=20\/op=21):bQ e op 0 [1]=1:=by
 rcases h with rfl|rfl<;>(rw [nsG (by decide)];decide)
theorem e5V{e:Nat} :bQ e 22 0 [1,1,1]=1:=by rw [nsG (by decide)];decide
theorem e5W{e:Nat} :bQ e 22 0 [1,2,2]=2:=by rw [nsG (by decide)];decide
theorem e5X{e:Nat}{im:Int}(h:0<=im/\im<=3):bQ e 23 im [2,1]=1:=by
 rw [nsG (by decide)];simp [fH,oU,ar,lB,mxI];omega
theorem xJ{e:Nat}{im:Int}(h:1<=im/\im<=1000016):bQ e 27 im [2,1]=2:=by
 rw [nsG (by decide)];simp [fH,oU,ar,lB,mxI];omega
theorem d4X{e:Nat}{im:Int}(h:0<=im/\im<=3):bQ e 28 im [2,1,1]=2:=by
 rw [nsG (by decide)];simp [fH,oU,ar,lB,mxI];omega
theorem f2Z{e:Nat} :bQ e 29 0 [2,1]=2:=by rw [nsG (by decide)];decide
theorem c6H{e:Nat} :bQ e 24 0 [2]=1:=by rw [nsG (by decide)];decide
theorem e5Y{e:Nat}{im:Int}(h:0<=im/\im<=255):bQ e 3 im []=if im%16=0 then 2 else 1:=by
 rw [nsG (by decide)];simp [fH,oU,ar,lB,mxI];omega
theorem c6I{e:Nat}{im:Int}{m:Nat}(h:0<=im/\im<=7)(hm:m<=6):bQ e 30 im (2::List.replicate m 1)=2:=by
 unfold bQ
 rw [if_neg (by decide),if_pos rfl,if_pos];refine⟨?_,?_⟩
 ·simp [a1H];omega
 ·simp [lB,mxI];omega
theorem c6J{e:Nat}{im:Int}{m:Nat}(h:0<=im/\im<=15)(h1:1<=m)(h2:m<=16):bQ e 31 im (lsL m)=3:=by
 unfold bQ
 rw [if_pos rfl,if_pos];refine⟨e5S h1 h2,?_⟩;simp [lB,mxI];omega
theorem tL{e:Nat}{im:Int}(h:0<=im/\im<=15)(h2:2*im+3<=e):bQ e 25 im [3]=if im=0 then 2 else 1:=by
 unfold bQ
 rw [if_neg (by decide),if_neg (by decide),if_pos rfl,if_pos ⟨rfl,h.1,h.2,h2⟩]
structure FV(id iv:Nat)(h h2:Heap):Prop where
 nx:h.next<=h2.next
 cl: ∀(j:Nat)(c:List IV),j<h.next->j≠id->j≠iv->h.get j= .cells c->h2.get j= .cells c
 tp: ∀(j m:Nat),j<h.next->h.get j= .tip m->NL h id j->h2.get j= .tip m/\NL h2 id j
theorem FV.of{id iv:Nat}{h h2:Heap}(f:FC id h h2):FV id iv h h2:=⟨f.nx,fun j c h1 h2 _ h4=>f.cl j c h1 h2 h4,f.tp⟩
theorem FV.trans{id iv iv2:Nat}{a b c:Heap}(x:FV id iv a b)(y:FV id iv2 b c)(hi:iv2=iv\/a.next<=iv2):FV id iv a c:=
 ⟨h2F x.nx y.nx,fun j r hj hn hv e=>y.cl j r (h1C hj x.nx) hn (by omega) (x.cl j r hj hn hv e),fun j m hj e n=>by
  obtain⟨p,q⟩:=x.tp j m hj e n;exact y.tp j m (h1C hj x.nx) p q⟩
theorem FV.set{id iv:Nat}{h h2:Heap}{a b:List IV}(x:FV id iv h h2)(hg:h2.get id= .cells a)(hs:b[2]?=a[2]?):FV id iv h (h2.set id (.cells b)):=
 ⟨x.nx,fun j r h1 hn hv e=>by rw [aE hn];exact x.cl j r h1 hn hv e,fun j m hj e n=>by
  obtain⟨p,q⟩:=x.tp j m hj e n;exact vD hg (fun e n z c w=>⟨e,n,z,c,by rw [<-hs];exact w⟩) p q⟩
theorem FV.put{id iv i:Nat}{h h2:Heap}{a b:List IV}(x:FV id iv h h2)(hg:h2.get i= .cells a)(hn:i≠id)(hi:i=iv\/h.next<=i):FV id iv h (h2.set i (.cells b)):=
 ⟨x.nx,fun j r h1 hn hv e=>by rw [aE (by omega)];exact x.cl j r h1 hn hv e,fun j m hj e n=>by
  obtain⟨p,q⟩:=x.tp j m hj e n;refine⟨by rw [aE (fun w=>by rw [w,hg]at p;cases p)];exact p,fun cs e2 n2 z2 c2 w=>q cs e2 n2 z2 c2 (by rwa [aE hn.symm]at w)⟩⟩
theorem FV.push{id iv:Nat}{h h2:Heap}{o:IObj}(x:FV id iv h h2)(hid:id<h2.next):FV id iv h (h2.push o):=
 ⟨h7L x.nx,fun j r h1 hn hv e=>by rw [aJ (h1C h1 x.nx)];exact x.cl j r h1 hn hv e,fun j m hj e n=>by
  obtain⟨p,q⟩:=x.tp j m hj e n;exact⟨by rw [aJ (h1C hj x.nx)];exact p,q.push hid⟩⟩
theorem FV.grow{id iv i k:Nat}{h h2:Heap}{o:IObj}(x:FV id iv h h2)(hi:h2.get i= .tip k)(hj:h.next<=i)(hid:h2.get id≠ .tip k):FV id iv h (h2.set i o):=
 ⟨x.nx,fun j r h1 hn hv e=>by rw [aE (by omega)];exact x.cl j r h1 hn hv e,fun j m hj e n=>by
  obtain⟨p,q⟩:=x.tp j m hj e n;exact⟨by rw [aE (by omega)];exact p,fun cs e2 n2 z2 c2 w=>q cs e2 n2 z2 c2 (by rwa [aE (fun w=>hid (by rw [w];exact hi))]at w)⟩⟩
structure BW(h:Heap)(id:Nat)(s:BSt)(h2:Heap)(s2:BSt)(c w:Nat):Prop where
 bh:BH h2 id s2
 gs:GS s2
 gx:GX s.ns s2.ns s.lo s2.lo
 len:s2.ns.length<=s.ns.length+c
 pa:s2.pa=s.pa
 pf:s2.pf=s.pf
 f:s2.f=s.f
 lo:s2.lo=s.lo+w
 fv:FV id s.iv h h2
 iv:s2.iv=s.iv\/h.next<=s2.iv
theorem BE.w{h h2:Heap}{id:Nat}{s:BSt}{ns2:List Nd}{st2:Int}{c:Nat}(x:BE h id s h2 ns2 st2 c):BW h id s h2 {s with ns:=ns2,st:=st2 } c 0:=
 ⟨x.bh,x.gs,x.gx,x.len,rfl,rfl,rfl,by simp,FV.of x.fc,.inl rfl⟩
theorem BW.refl{h:Heap}{id:Nat}{s:BSt}(b:BH h id s)(g:GS s):BW h id s h s 0 0:=(BE.refl b g).w
theorem BW.trans{h h2 h3:Heap}{id:Nat}{s s2 s3:BSt}{c d w v:Nat}(x:BW h id s h2 s2 c w)(y:BW h2 id s2 h3 s3 d v):BW h id s h3 s3 (c+d) (w+v):=
 ⟨y.bh,y.gs,x.gx.trans y.gx,by have:=x.len;have:=y.len;omega,y.pa.trans x.pa,y.pf.trans x.pf,y.f.trans x.f,by have:=x.lo;have:=y.lo;omega,
  x.fv.trans y.fv x.iv,by
   have h1:=x.fv.nx;rcases y.iv with q|q
   ·rw [q];exact x.iv
   ·exact .inr (h2F h1 q)⟩
theorem BW.le{h h2:Heap}{id:Nat}{s s2:BSt}{c d w:Nat}(x:BW h id s h2 s2 c w)(hc:c<=d):BW h id s h2 s2 d w:=⟨x.bh,x.gs,x.gx,h2F x.len (by omega),x.pa,x.pf,x.f,x.lo,x.fv,x.iv⟩
theorem BW.get{h h2:Heap}{id:Nat}{s s2:BSt}{c w:Nat}(x:BW h id s h2 s2 c w): ∃lv,h2.get id= .cells (s2.cells lv):=by
 obtain⟨_,⟨lv,hg,_⟩,_⟩:=x.bh;exact⟨lv,hg⟩
theorem BW.var{h h2:Heap}{id:Nat}{s s2:BSt}{c w:Nat}{i:Nat}{v:Int}(x:BW h id s h2 s2 c w)(hv:SK s2.ns 1 v):BW h id s (h2.set s2.iv (.cells ((s2.vs.set i v).map (IV.int .i64)))) {s2 with vs:=s2.vs.set i v } c w:=by
 have hfv:FV id s.iv h (h2.set s2.iv (.cells ((s2.vs.set i v).map (IV.int .i64)))):=x.fv.put x.bh.2.2.2.2 x.bh.2.2.2.1 x.iv;exact⟨x.bh.var,⟨x.gs.gl,x.gs.av.set hv,x.gs.sk,by show(s2.vs.set i v).length=_;rw [h3R];exact x.gs.vl,x.gs.pp,x.gs.hf,x.gs.hn,x.gs.hl⟩,x.gx,x.len,x.pa,x.pf,x.f,x.lo,hfv,x.iv⟩
theorem BW.st{h h2:Heap}{id:Nat}{s s2:BSt}{c w:Nat}{v:Int}{lv:IV}(x:BW h id s h2 s2 c w)(hv:SK s2.ns 2 v)(hg:h2.get id= .cells (s2.cells lv)):
  BW h id s (h2.set id (.cells (({s2 with st:=v } :BSt).cells lv))) {s2 with st:=v } c w:=
 ⟨x.bh.st hg,⟨x.gs.gl,x.gs.av,hv,x.gs.vl,x.gs.pp,x.gs.hf,x.gs.hn,x.gs.hl⟩,x.gx,x.len,x.pa,x.pf,x.f,x.lo,x.fv.set hg rfl,x.iv⟩
theorem BW.row{h h2:Heap}{id:Nat}{s s2:BSt}{c w:Nat}{lv:IV}{j:Nat}{ws:List Int}(x:BW h id s h2 s2 c w)(hg:h2.get id= .cells (s2.cells lv))(hj:j<h2.next)(hj0:h.next<=j)(hc:h2.get j= .cells (ws.map (IV.int .i64)))
  (hid:id<h.next) (ha:AV s2.ns ws) (hl:ws.length=(bN s2.f).length):BW h id s (h2.set id (.cells (({s2 with iv:=j,vs:=ws } :BSt).cells lv))) {s2 with iv:=j,vs:=ws } c w:=
 ⟨x.bh.row hg hj (by omega) hc,⟨x.gs.gl,ha,x.gs.sk,hl,x.gs.pp,x.gs.hf,x.gs.hn,x.gs.hl⟩,x.gx,x.len,x.pa,x.pf,x.f,x.lo,x.fv.set hg rfl,.inr hj0⟩
theorem BW.push{h h2:Heap}{id:Nat}{s s2:BSt}{c w:Nat}{o:IObj}(x:BW h id s h2 s2 c w):BW h id s (h2.push o) s2 c w:=
 ⟨x.bh.push,x.gs,x.gx,x.len,x.pa,x.pf,x.f,x.lo,x.fv.push x.bh.1,x.iv⟩
theorem BH.nl{h:Heap}{id:Nat}{s:BSt}{x:IObj}(b:BH h id s):NL (h.push x) id h.next:=fun cs e n z c q hq=>by
 obtain⟨b1,⟨lv,b2,b3⟩,_⟩:=b;rw [aJ b1,b2,IObj.cells.injEq]at q;subst q;have q2:lv= .vslice (some h.next) e n z c:=by
  simpa [BSt.cells]using hq
 rcases b3 with⟨_,l1⟩| ⟨io,l1,_,l3,_⟩
 ·rw [l1]at q2;cases q2
 ·rw [l1]at q2;simp only [IV.vslice.injEq,h0V]at q2;omega
theorem BH.grow{h:Heap}{id i m:Nat}{s:BSt}{x:IObj}(b:BH h id s)(hi:h.get i= .tip m)(n:NL h id i):BH (h.set i x) id s:=
 b.tip hi fun lv hg io e a c hl q=>n _ e a 3 c hg (by rw [<-q,hl];rfl)
theorem BW.grow{h h2:Heap}{id i m:Nat}{s s2:BSt}{c w:Nat}{x:IObj}(y:BW h id s h2 s2 c w)(hi:h2.get i= .tip m)(hj:h.next<=i)(n:NL h2 id i):BW h id s (h2.set i x) s2 c w:=by
 obtain⟨lv,hg⟩:=y.get;exact⟨y.bh.grow hi n,y.gs,y.gx,y.len,y.pa,y.pf,y.f,y.lo,y.fv.grow hi hj (by rw [hg];exact fun q=>by cases q),y.iv⟩
theorem BW.eq{h h2:Heap}{id:Nat}{s s2:BSt}{c d w v:Nat}(x:BW h id s h2 s2 c w)(hc:c<=d)(hw:w=v):BW h id s h2 s2 d v:=hw▸x.le hc
theorem BH.c4{h:Heap}{id:Nat}{s:BSt}(b:BH h id s):aY h id 4=some (.hslice s.iv 0 s.vs.length 1):=by
 obtain⟨_,⟨lv,b2,_⟩,_⟩:=b;unfold aY
 rw [b2];rfl
theorem BH.same{h h2:Heap}{id:Nat}{s s2:BSt}(a:BH h id s)(b:BH h2 id s2)(hi:s2.iv=s.iv)(hl:s2.vs.length=s.vs.length):b0L h h2 id 4:=by
 unfold b0L
 rw [a.c4,b.c4,hi,hl]
structure StPre(h:Heap)(id:Nat)(s:BSt)(l:List S):Prop where
 bh:BH h id s
 gs:GS s
 wf:Ss.wf s.f l
 cnt:Ss.cnt l<=1000
 len:s.ns.length+Ss.cost l<=80000
 lo:s.lo+Ss.whl l<=10
structure AsP(h:Heap)(id jn:Nat)(s:BSt)(bs:List Bool):Prop where
 bh:BH h id s
 bl:bs.length=(bN s.f).length
 bg:h.get jn= .cells (bs.map IV.bool)
 jl:jn<h.next
 ji:jn≠id
 jv:jn≠s.iv
theorem AsP.set{h:Heap}{id jn:Nat}{s:BSt}{bs:List Bool}{i:Nat}(a:AsP h id jn s bs):AsP (h.set jn (.cells ((bs.set i true).map IV.bool))) id jn s (bs.set i true):=by
 obtain⟨⟨b1,⟨lv,b2,b3⟩,b4,b5,b6⟩,a2,a3,a4,a5,a6⟩:=a;exact⟨⟨b1,⟨lv,by rw [aE a5.symm];exact b2,b3.set a3⟩,b4,b5,by rw [aE a6.symm];exact b6⟩,by rw [h3R];exact a2,aH,a4,a5,a6⟩
theorem Ss.cost_take{l:List S}{i:Nat}(h:i<l.length):Ss.cost (l.take (i+1))=Ss.cost (l.take i)+l[i].cost:=by
 rw [h1J h,Ss.cost_append];simp only [Ss.cost];omega
theorem Ss.cost_le{l:List S}(i:Nat):Ss.cost (l.take i)<=Ss.cost l:=by
 have h:=Ss.cost_append (a:=l.take i) (b:=l.drop i);rw [h4R]at h;omega
theorem Ss.whl_le{l:List S}(i:Nat):Ss.whl (l.take i)<=Ss.whl l:=by
 have h:=Ss.whl_append (a:=l.take i) (b:=l.drop i);rw [h4R]at h;omega
theorem e5Z{l:List Bool}{i:Nat}{v:Bool}(h:i<l.length):List.take (0+(i:Int).toNat*1) (l.map IV.bool)++ [IV.bool v]++List.drop (0+(i:Int).toNat*1+1) (l.map IV.bool)=(l.set i v).map IV.bool:=by
 rw [h1Q,h0Z,h1W,<-List.map_take,<-List.map_drop,h4Y,if_pos h];simp
theorem a1J{l:List Int}{i:Nat}{v:Int}(h:i<l.length):List.take (0+(i:Int).toNat*1) (l.map (IV.int .i64))++ [IV.int .i64 v]++List.drop (0+(i:Int).toNat*1+1) (l.map (IV.int .i64))=(l.set i v).map (IV.int .i64):=by
 rw [h1Q,h0Z,h1W,<-List.map_take,<-List.map_drop,h4Y,if_pos h];simp
theorem lC.nm{f k n:Int}{nm to:List UInt8}{a v:E}{args:List E}{th el:List S}(h:lC f k nm to n a v args th el)(hk:k=1\/k=6):nm∈bN f:=by
 unfold lC at h;rcases h with h|h|h|h|h|h|h
 ·exact h.2.1
 ·omega
 ·omega
 ·omega
 ·omega
 ·exact h.2.1
 ·omega
theorem nR(f:Int):2<=(bN f).length/\(bN f).length<=4:=by
 unfold bN
 split<;>simp
def g5O(h:Heap)(id:Nat)(s:BSt)(g:Heap)(s2:BSt)(c:Int)(ja:Nat)(u:Int)(i:Nat)(t:S):Prop:=
 BW h id s g s2 (t.cost-6+i) t.whl/\i<=(bN s.f).length/\SK s2.ns 1 c/\SK s2.ns 2 u/\(ja≠id/\ja≠s2.iv/\ja<g.next)/\∃ws:List Int,g.get ja= .cells (ws.map (IV.int .i64))/\AV s2.ns ws/\ws.length=(bN s.f).length
structure IfP(h:Heap)(id:Nat)(s:BSt)(g:Heap)(s2:BSt)(c:Int)(ja:Nat)(u:Int)(i:Nat)(t:S):Prop where
 p:g5O h id s g s2 c ja u i t
structure OP(n:Int)(L:Nat)(ns:List Nd):Prop where
 ln: ∀m∈ns,m.op=31->m.im≠n
 lv: ∀(i:Nat)(m:Nd),ns[i]?=some m->m.op=3->16*n<=m.im->m.im<16*n+16->L<=i
theorem OP.of{ns:List Nd}{n:Int}(g:GL ns n):OP n ns.length ns:=
 ⟨fun m hm o q=>by have:=g.ln m hm o;omega,fun i m e o q _=>by have:=g.lv m (h3C e) o;omega⟩
theorem OP.gx{ns ms:List Nd}{n lo lo2:Int}{L:Nat}(o:OP n L ns)(x:GX ns ms lo lo2)(h:n<lo):OP n L ms:=by
 constructor
 ·intro m hm om q;obtain⟨i,hi,rfl⟩:=h4L.1 hm;have e:=h0U hi;rcases h2D i ns.length with c|c
  ·obtain⟨t,rfl⟩:=x.pre;rw [h1Z c]at e;exact o.ln _ (h3C e) om q
  ·have:=(x.nw i _ e c).2 om;omega
 ·intro i m e om q1 q2;rcases h2D i ns.length with c|c
  ·obtain⟨t,rfl⟩:=x.pre;rw [h1Z c]at e;exact o.lv i m e om q1 q2
  ·have:=(x.nw i _ e c).1 om;omega
structure LoS where
 s:BSt
 c:Int
 jn:Nat
 bs:List Bool
 w:List Int
 jw:Nat
 jo:Nat
 vo:List Int
 a:Int
 ks:List Int
 jk:Nat
 L:Nat
 d:Nat
 lp:Int
def g1D(h:Heap)(id:Nat)(s:BSt)(g:Heap)(x:LoS)(i:Nat)(t:E):Prop:=
 BW h id s g x.s t.cost 1/\AsP g id x.jn x.s x.bs/\h.next<=x.jn/\SK x.s.ns 1 x.c/\OP s.lo x.s.ns.length x.s.ns/\i<=(bN s.f).length/\(∀q∈x.w,0<=q/\q<i)/\x.w.length<=i
structure LoP1(h:Heap)(id:Nat)(s:BSt)(g:Heap)(x:LoS)(i:Nat)(t:E):Prop where
 p:g1D h id s g x i t
def old(vo:List Int)(w:List Int):List Int:=w.map fun q=>vo.getD q.toNat 0
def g1E(h:Heap)(id:Nat)(s:BSt)(g:Heap)(x:LoS)(j:Nat)(t:E):Prop:=
 BW h id s g x.s (t.cost+1+j) 1/\SK x.s.ns 1 x.c/\(SK x.s.ns 2 x.a/\x.a<x.L/\x.L<=x.s.ns.length)/\OP s.lo x.L x.s.ns/\(∀q∈x.w,0<=q/\q< (bN s.f).length)/\(x.w.length<=(bN s.f).length/\j<=x.w.length)/\
 (g.get x.jo= .cells (x.vo.map (IV.int .i64))/\h.next<=x.jo/\x.jo<g.next/\x.jo≠x.s.iv)/\(AV x.s.ns x.vo/\x.vo.length=(bN s.f).length/\∀v∈x.vo,v<x.L)/\x.ks=x.a::old x.vo (x.w.take j)
structure LoP2(h:Heap)(id:Nat)(s:BSt)(g:Heap)(x:LoS)(j:Nat)(t:E):Prop where
 p:g1E h id s g x j t
def g1F(h:Heap)(id:Nat)(s:BSt)(g:Heap)(x:LoS)(j:Nat)(t:S):Prop:=
 BW h id s g x.s (t.cost-11) (1+x.d)/\(1+x.d=t.whl)/\SK x.s.ns 1 x.c/\(SK x.s.ns 2 x.a/\x.a<x.L)/\OP s.lo x.L x.s.ns/\(∀q∈x.w,0<=q/\q< (bN s.f).length)/\(x.w.length<=(bN s.f).length/\j<=x.w.length)/\
 (g.get x.jo= .cells (x.vo.map (IV.int .i64))/\h.next<=x.jo/\x.jo<g.next/\x.jo≠x.s.iv)/\(AV x.s.ns x.vo/\x.vo.length=(bN s.f).length/\∀v∈x.vo,v<x.L)/\
 (oI x.s.ns x.ks (2::(List.replicate (x.w.length+1) 1++2::List.replicate j 1))/\(∃r,x.ks=x.a::old x.vo x.w++r))/\(g.get x.jk= .tip x.ks.length/\x.jk<g.next/\h.next<=x.jk/\NL g id x.jk)
structure LoP3(h:Heap)(id:Nat)(s:BSt)(g:Heap)(x:LoS)(j:Nat)(t:S):Prop where
 p:g1F h id s g x j t
def g1G(h:Heap)(id:Nat)(s:BSt)(g:Heap)(x:LoS)(j:Nat)(t:S):Prop:=
 BW h id s g x.s (t.cost-8+2*j) t.whl/\SK x.s.ns 1 x.c/\(∀q∈x.w,0<=q/\q< (bN s.f).length)/\(x.w.length<=(bN s.f).length/\j<=x.w.length)/\x.jo=x.s.iv/\(SK x.s.ns 3 x.lp/\∃n,x.s.ns[x.lp.toNat]?=some n/\n.ks.length=2*x.w.length+3)
structure LoP4(h:Heap)(id:Nat)(s:BSt)(g:Heap)(x:LoS)(j:Nat)(t:S):Prop where
 p:g1G h id s g x j t
theorem b0Z{α:Type}{a b:List α}(h:a<+:b){i:Nat}{n:α}(q:i<a.length)(e:b[i]?=some n):a[i]?=some n:=by
 obtain⟨t,rfl⟩:=h
 rwa [h1Z q]at e
theorem BW.lo1{h:Heap}{id:Nat}{s:BSt}{lv:IV}(b:BH h id s)(g:GS s)(hl:s.lo+1<=10)(hg:h.get id= .cells (s.cells lv)):
  BW h id s (h.set id (.cells (({s with lo:=s.lo+1 } :BSt).cells lv))) {s with lo:=s.lo+1 } 0 1:=by
 have h0:=g.hl;exact⟨b.loops hg,⟨⟨g.gl.ok,g.gl.wf,fun n hn o=>by have:=g.gl.lv n hn o;show n.im<16*(s.lo+1);omega,fun n hn o=>by have:=g.gl.ln n hn o;show n.im<s.lo+1;omega,g.gl.lu,g.gl.lf⟩,g.av,g.sk,g.vl,g.pp,g.hf,g.hn,by show 0<=s.lo+1/\s.lo+1<=10;omega⟩,
  ⟨h4F _,by show s.lo<=s.lo+1;omega,fun i n e hl=>by rw [h2E hl]at e;cases e⟩,h1D _,rfl,rfl,rfl,rfl,(FV.of FC.refl).set hg rfl,.inl rfl⟩
theorem OP.new{n:Int}{ns ms:List Nd}{lo2:Int}(g:GL ns n)(x:GX ns ms (n+1) lo2):OP n ms.length ms:=by
 have o:=(OP.of g).gx x (by omega);refine⟨o.ln,fun i m e om q1 q2=>?_⟩;have h1:=o.lv i m e om q1 q2;have:=(x.nw i m e h1).1 om;omega
theorem BW.asg{h h2 h3:Heap}{id jn c w:Nat}{s s2:BSt}{bs bs2:List Bool}(x:BW h id s h2 s2 c w)(a:AsP h2 id jn s2 bs)(b:AsP h3 id jn s2 bs2)(f:FC jn h2 h3)(hj:h.next<=jn):BW h id s h3 s2 c w:=by
 have hid:=x.bh.1;obtain⟨lv,hg⟩:=x.get;have hg3:=f.cl id _ hid a.ji.symm hg;refine⟨b.bh,x.gs,x.gx,x.len,x.pa,x.pf,x.f,x.lo,⟨h2F x.fv.nx f.nx,fun j r hj1 hn hv e=>f.cl j r (h1C hj1 x.fv.nx) (by omega) (x.fv.cl j r hj1 hn hv e),fun j m hj1 e n=>?_⟩,x.iv⟩;obtain⟨p,q⟩:=x.fv.tp j m hj1 e n;obtain⟨p2,_⟩:=f.tp j m (h1C hj1 x.fv.nx) p fun cs e2 n2 z2 c2 w1 w2=>by
  rw [a.bg,IObj.cells.injEq]at w1;rw [<-w1,h2A]at w2
  cases hb:bs[2]? with
  |none=>rw [hb]at w2;cases w2
  |some y=>rw [hb]at w2;cases w2
 refine⟨p2,fun cs e2 n2 z2 c2 w1 w2=>?_⟩;rw [hg3,IObj.cells.injEq]at w1;exact q cs e2 n2 z2 c2 (by rw [hg,w1]) w2
theorem AsP.push{h:Heap}{id jn:Nat}{s:BSt}{bs:List Bool}{x:IObj}(a:AsP h id jn s bs):AsP (h.push x) id jn s bs:=
 ⟨a.bh.push,a.bl,by rw [aJ a.jl];exact a.bg,h1T a.jl,a.ji,a.jv⟩
theorem AsP.grow{h:Heap}{id jn i m:Nat}{s:BSt}{bs:List Bool}{x:IObj}(a:AsP h id jn s bs)(hi:h.get i= .tip m)(n:NL h id i):AsP (h.set i x) id jn s bs:=
 ⟨a.bh.grow hi n,a.bl,by rw [aE (fun q=>by have:=a.bg;rw [q,hi]at this;cases this)];exact a.bg,a.jl,a.ji,a.jv⟩
theorem NL.set{h:Heap}{id i j:Nat}{x:IObj}(n:NL h id j)(hi:i≠id):NL (h.set i x) id j:=fun cs e a z c q=>n cs e a z c (by rwa [aE hi.symm]at q)
theorem BW.lput{h g h3:Heap}{id c w:Nat}{s s2:BSt}{im v:Int}{L:Nat}(y:BW h id s g s2 c w)(p:aQ g id (s2.pst []) 3 im v h3)(o:OP s.lo L s2.ns)(hL:L<=s2.ns.length)(h0:0<=s.lo)(hlo:s.lo+1<=s2.lo)
  (him:16*s.lo<=im/\im<16*s.lo+16) (t:Int) (ht:(if im%16=0 then(2:Int)else 1)=t) (hn:s2.ns.length<100000):
  ∃ns2,BW h id s h3 {s2 with ns:=ns2 } (c+1) w/\SK ns2 t v/\OP s.lo L ns2/\s2.ns<+:ns2/\FC id g h3:=by
 have h1:=y.gs.hl;have h2:=y.gs.hn;have ib:bR im:=by unfold bR;omega
 have hi16:im/16=s.lo:=by omega
 have gp:=y.gs.gl.put (n:=⟨3,im,[]⟩) (s:=t) ⟨⟨(by decide:bR 3),ib,fun k q=>by cases q⟩,(by decide:([]:List Int).length<=40)⟩ (by rw [fL (ks:=[]) (ss:=[]) trivial];exact(e5Y (by omega)).trans ht) (by rw [<-ht];split<;>decide) (fun _=>by dsimp only;omega)
  (fun _ i m e om=>by dsimp only;rw [hi16];exact o.ln m (h3C e) om) (fun q=>by cases q)
 have bp:=BH.put (t:=t) y.bh y.gs p ⟨gp.1,gp.2.1,gp.2.2.1,gp.2.2.2.1⟩ hn;have nw:=gp.2.2.2.2;generalize(fY s2.ns ⟨3,im,[]⟩).1=ns2 at bp nw;have ly:=y.len;have lb:=bp.len;refine⟨ns2,⟨bp.bh,bp.gs,?_,by dsimp only;omega,y.pa,y.pf,y.f,y.lo,y.fv.trans (FV.of (iv:=s2.iv) bp.fc) y.iv,y.iv⟩,bp.sk,?_,bp.pre,bp.fc⟩
 ·refine⟨y.gx.pre.trans bp.pre,y.gx.le,fun i m e hl=>?_⟩;rcases h2D i s2.ns.length with q|q
  ·exact y.gx.nw i m (b0Z bp.pre q e) hl
  ·rw [nw i m e q];exact⟨fun _=>him.1,fun q=>absurd q (by decide:(3:Int)≠31)⟩
 ·constructor
  ·intro m hm om;obtain⟨i,e⟩:=List.mem_iff_getElem?.1 hm;rcases h2D i s2.ns.length with q|q
   ·exact o.ln _ (h3C (b0Z bp.pre q e)) om
   ·have:=nw i _ e q;rw [this]at om;exact absurd om (by decide:(3:Int)≠31)
  ·intro i m e om q1 q2;rcases h2D i s2.ns.length with q|q
   ·exact o.lv i m (b0Z bp.pre q e) om q1 q2
   ·omega
theorem BW.loop{h g h3:Heap}{id c w m:Nat}{s s2:BSt}{v:Int}{L:Nat}{ks:List Int}(y:BW h id s g s2 c w)(p:aQ g id (s2.pst ks) 31 s.lo v h3)(o:OP s.lo L s2.ns)(h0:0<=s.lo)(hlo:s.lo+1<=s2.lo)
  (hs:oI s2.ns ks (lsL m)) (h1:1<=m) (h2:m<=16) (hk: ∀j:Nat,1<=j->j<ks.length/2->ks.getD j 0<L) (hn:s2.ns.length<100000):
  ∃ns2,BW h id s h3 {s2 with ns:=ns2 } (c+1) w/\SK ns2 3 v/\(∃n,ns2[v.toNat]?=some n/\n.ks=ks)/\s2.ns<+:ns2/\FC id g h3:=by
 have hl:=y.gs.hl;have hkb:=(hs.map).2.2;have hlen:=hs.len;have hle:ks.length<=40:=by rw [hlen];simp [lsL];omega
 have ib:bR s.lo:=by unfold bR;omega
 have gp:=y.gs.gl.put (n:=⟨31,s.lo,ks⟩) (s:=3) ⟨⟨(by decide:bR 31),ib,fun k q=>by have:=hkb k q;unfold bR;omega⟩,hle⟩ (by rw [fL hs];exact c6J (by omega) h1 h2) (by decide) (fun q=>by cases q) (fun q=>by cases q)
  (fun _=>⟨by dsimp only;omega,fun m hm om=>o.ln m hm om,fun j a b i2 n2 e on hi=>by
   have q:=o.lv i2 n2 e on (by dsimp only at hi;omega) (by
    dsimp only at hi b;have:ks.length/2<=16:=by rw [hlen];simp [lsL];omega
    omega)
   have:=hk j a b;dsimp only;omega⟩)
 have hpv:=p.2.1;have bp:=BH.put (t:=3) y.bh y.gs p ⟨gp.1,gp.2.1,gp.2.2.1,gp.2.2.2.1⟩ hn;have nw:=gp.2.2.2.2;have hat: ∃n,(fY s2.ns ⟨31,s.lo,ks⟩).1[v.toNat]?=some n/\n.ks=ks:=by
  rw [hpv];show∃n,(fY s2.ns ⟨31,s.lo,ks⟩).1[(fY s2.ns ⟨31,s.lo,ks⟩).2.toNat]?=some n/\n.ks=ks
  rcases a3S s2.ns ⟨31,s.lo,ks⟩with⟨i,e,hp⟩| ⟨_,hp⟩
  ·rw [hp];exact⟨_,by rw [h0Z];exact e,rfl⟩
  ·rw [hp];exact⟨_,by rw [h0Z,h1V (h1D _),h6E];rfl,rfl⟩
 generalize(fY s2.ns ⟨31,s.lo,ks⟩).1=ns2 at bp nw hat;have ly:=y.len;have lb:=bp.len;refine⟨ns2,⟨bp.bh,bp.gs,?_,by dsimp only;omega,y.pa,y.pf,y.f,y.lo,y.fv.trans (FV.of (iv:=s2.iv) bp.fc) y.iv,y.iv⟩,bp.sk,hat,bp.pre,bp.fc⟩;refine⟨y.gx.pre.trans bp.pre,y.gx.le,fun i m e hl=>?_⟩;rcases h2D i s2.ns.length with q|q
 ·exact y.gx.nw i m (b0Z bp.pre q e) hl
 ·rw [nw i m e q];exact⟨fun q=>absurd q (by decide:(31:Int)≠3),fun _=>h3P _⟩
theorem eK1{ns:List Nd}{op im lp:Int}{n:Nd}{m:Nat}(e:ns[lp.toNat]?=some n)(h:n.ks.length=m):eK ns ⟨op,im,[lp]⟩=m:=by
 unfold eK
 show(ns.getD lp.toNat default).ks.length=m;rw [h1A,e];exact h
theorem tM{vo w:List Int} :(old vo w).length=w.length:=by unfold old;simp
theorem g1H{vo w:List Int}{L:Nat}(hv: ∀v∈vo,v<L)(hw: ∀q∈w,0<=q/\q<vo.length): ∀v∈old vo w,v<L:=fun v h=>by
 unfold old at h;obtain⟨q,hq,rfl⟩:=h4O.1 h;have:=hw q hq;rw [h1A,h0U (show q.toNat<vo.length by omega)];exact hv _ (h1B _)
theorem f3A{ns:List Nd}{vo w:List Int}(hv:AV ns vo)(hw: ∀q∈w,0<=q/\q<vo.length):AV ns (old vo w):=fun v h=>by
 unfold old at h;obtain⟨q,hq,rfl⟩:=h4O.1 h;have:=hw q hq;rw [h1A,h0U (show q.toNat<vo.length by omega)];exact hv _ (h1B _)
theorem xK{vo w:List Int}{j k:Nat}(hj:j<w.length)(hk:w[j]=(k:Int))(hv:k<vo.length):old vo (w.take (j+1))=old vo (w.take j)++ [vo[k]]:=by
 unfold old
 rw [h1J hj,h3O,hk];simp only [h2H,h4D,h0Z];rw [h1A,h0U hv];rfl
theorem tN{a:Int}{vo w r:List Int}{L m:Nat}(hv: ∀v∈vo,v<L)(hw: ∀q∈w,0<=q/\q<vo.length)(hl:(a::old vo w++r).length=2*w.length+3): ∀j:Nat,1<=j->j< (a::old vo w++r).length/2->(a::old vo w++r).getD j 0<L:=fun j h1 h2=>by
 rw [hl]at h2;obtain⟨k,rfl⟩: ∃k,j=k+1:=⟨j-1,by omega⟩
 have hk:k< (old vo w).length:=by rw [tM];omega
 rw [h1A,h3E,h4A,h1Z hk,h0U hk];exact g1H hv hw _ (h1B _)
theorem oX{ns:List Nd}{a v st:Int}{vo w:List Int}(ka:SK ns 2 a)(hav:AV ns vo)(hw: ∀q∈w,0<=q/\q<vo.length)(kv:SK ns 1 v)(kt:SK ns 2 st):
  oI ns (a::old vo w++ [v,st]) (2::(List.replicate (w.length+1) 1++2::List.replicate 0 1)):=by
 have h1:oI ns (a::old vo w) (2::List.replicate (old vo w).length 1):=⟨⟨ka,by decide⟩,(f3A hav hw).sks⟩;have h2:oI ns [v,st] [1,2]:=⟨⟨kv,by decide⟩,⟨kt,by decide⟩,trivial⟩;have h3:=h1.append h2;rw [tM]at h3;have e:(2::List.replicate w.length 1++ [1,2]:List Int)=2::(List.replicate (w.length+1) 1++2::List.replicate 0 1):=by
  rw [h4W];simp
 rw [<-e];exact h3
theorem a8Q{ns:List Nd}{ks:List Int}{v:Int}{m j:Nat}(h:oI ns ks (2::(List.replicate m 1++2::List.replicate j 1)))(kv:SK ns 1 v):oI ns (ks++ [v]) (2::(List.replicate m 1++2::List.replicate (j+1) 1)):=by
 have h3:=h.append (oI.one kv (by decide));have e:(2::(List.replicate m 1++2::List.replicate j 1)++ [1]:List Int)=2::(List.replicate m 1++2::List.replicate (j+1) 1):=by
  rw [h4W (n:=j)];simp
 rw [<-e];exact h3
theorem ldW{k:Nat}{w:List Int}{j:Nat}{K:Int->Prop}(hj:j<w.length)(hk:w[j]=(k:Int))(hK:K (k:Int)):aK .i64 (w.map (IV.int .i64)) ((j:Int).toNat*1) K:=
 bV (by rw [h0Z,h1W,h2A,h0U hj,hk];rfl) hK
theorem ldR{k:Nat}{w:List Int}{K:Int->Prop}(hj:k<w.length)(hK:K w[k]):aK .i64 (w.map (IV.int .i64)) (0+(k:Int).toNat*1) K:=
 bV (by rw [h1Q,h0Z,h1W,h2A,h0U hj];rfl) hK
theorem f3B{n:Nat} :fF n [IV.bool false]=(List.replicate n false).map IV.bool:=by
 induction n with
 |zero=>rfl
 |succ n ih=>rw [h5X,h2H,<-ih];rfl
structure LwS where
 id:Nat
 ns:List Nd
 c:IV
 d:IV
 st:Int
 vs:List Int
def LwS.pst(x:LwS)(pa pf:List IV):PSt:=⟨x.ns,[],.vslice none 0 2 2 pa,.vslice none 0 2 9 pf,x.c,x.d,.int .i64 x.st,.int .i64 0⟩
structure LW(f:Int)(k m b:Nat)(R:Option Nat)(g:Heap)(pa pf:List IV)(x:LwS):Prop where
 hid:x.id<g.next
 hg: ∃lv,g.get x.id= .cells ((x.pst pa pf).cells lv)/\LV g x.id lv x.ns
 nm:(k=0/\x.c= .nilslice) \/ ∃io,x.c= .vslice (some io) k k 1 (((bN f).take k).map IV.str)/\g.get io= .tip k/\io<g.next/\NL g x.id io
 vr:(m=0/\x.d= .nilslice) \/ ∃iv,x.d= .hslice iv 0 m 1/\g.get iv= .cells (x.vs.map (IV.int .i64))/\iv<g.next/\iv≠x.id
 vl:x.vs.length=m
 gl:GL x.ns 0
 av:AV x.ns x.vs
 sk:SK x.ns 2 x.st
 ln:x.ns.length<=b
 fr: ∀j,R=some j->g.get j= .tip 5/\j<g.next/\NL g x.id j
theorem b5N{f:Int}{k:Nat}(h:k< (bN f).length):((bN f).take (k+1)).map IV.str=((bN f).take k).map IV.str++ [.str (bN f)[k]]:=by
 rw [h1J h,h3O];rfl
theorem LV.put{g:Heap}{id:Nat}{lv:IV}{ns:List Nd}{a b:List IV}(l:LV g id lv ns)(hg:g.get id= .cells a):LV (g.set id (.cells b)) id lv ns:=l.set hg
theorem LW.nm0{f:Int}{m b:Nat}{R:Option Nat}{g:Heap}{pa pf:List IV}{x:LwS}(w:LW f 0 m b R g pa pf x){s:List UInt8}(hs: ∃h:0< (bN f).length,s=(bN f)[0]){lv:IV}(hg:g.get x.id= .cells ((x.pst pa pf).cells lv)):
  LW f 1 m b R ((g.push (.tip 1)).set x.id (.cells ((({x with c:= .vslice (some g.next) 1 1 1 [.str s] } :LwS).pst pa pf).cells lv))) pa pf {x with c:= .vslice (some g.next) 1 1 1 [.str s] } :=by
 obtain⟨h0,⟨lv',h1,h2⟩,h3,h4,h5,h6,h7,h8,h9,h10⟩:=w;obtain⟨hs0,rfl⟩:=hs;have e:lv'=lv:=by
  rw [hg]at h1;simp only [IObj.cells.injEq,PSt.cells,LwS.pst,h2I,true_and,and_true]at h1;exact h1.symm
 subst e;have hgp:(g.push (.tip 1)).get x.id= .cells ((x.pst pa pf).cells lv'):=(aJ h0).trans hg;have hnl:NL (g.push (.tip 1)) x.id g.next:=fun cs e a z c q hq=>by
  rw [hgp,IObj.cells.injEq]at q;subst q;rcases h2 with⟨_,l1⟩| ⟨io,l1,_,l3,_⟩
  ·rw [l1]at hq;simp [PSt.cells]at hq
  ·rw [l1]at hq;simp only [PSt.cells,h4A,h8B,h0V,IV.vslice.injEq]at hq;omega
 have keep: ∀{j n:Nat},(g.push (.tip 1)).get j= .tip n->NL (g.push (.tip 1)) x.id j->_:=fun{j n} ht hn=>vD (b:=(({x with c:= .vslice (some g.next) 1 1 1 [.str (bN f)[0]] } :LwS).pst pa pf).cells lv') hgp (fun e n z c q=>⟨e,n,z,c,q⟩) ht hn
 refine⟨h1T h0,⟨lv',aH,(h2.push).put hgp⟩,.inr ⟨g.next,?_,(keep aR hnl).1,h1G _,(keep aR hnl).2⟩,?_,h5,h6,h7,h8,h9,fun j hj=>?_⟩
 ·rw [b5N hs0];rfl
 ·rcases h4 with h4| ⟨iv,v1,v2,v3,v4⟩
  ·exact .inl h4
  ·exact .inr ⟨iv,v1,(aE v4).trans ((aJ v3).trans v2),h1T v3,v4⟩
 ·obtain⟨r1,r2,r3⟩:=h10 j hj;obtain⟨t1,t2⟩:=keep ((aJ r2).trans r1) (r3.push h0);exact⟨t1,h1T r2,t2⟩
theorem LW.nm1{f:Int}{k m b io:Nat}{R:Option Nat}{g:Heap}{pa pf:List IV}{x:LwS}(w:LW f k m b R g pa pf x)(hk:k< (bN f).length){c:List IV}(hc:x.c= .vslice (some io) k k 1 c){s:List UInt8}(hs:s=(bN f)[k]){lv:IV}(hg:g.get x.id= .cells ((x.pst pa pf).cells lv)):
  LW f (k+1) m b R ((g.set io (.tip (k+1))).set x.id (.cells ((({x with c:= .vslice (some io) (k+1) (k+1) 1 (c++ [.str s]) } :LwS).pst pa pf).cells lv))) pa pf {x with c:= .vslice (some io) (k+1) (k+1) 1 (c++ [.str s]) } :=by
 obtain⟨h0,⟨lv',h1,h2⟩,h3,h4,h5,h6,h7,h8,h9,h10⟩:=w;have h4k:=(nR f).2;have e:lv'=lv:=by
  rw [hg]at h1;simp only [IObj.cells.injEq,PSt.cells,LwS.pst,h2I,true_and,and_true]at h1;exact h1.symm
 subst e;rcases h3 with⟨_,h3⟩| ⟨io',n1,n2,n3,n4⟩
 ·rw [h3]at hc
  cases hc
 rw [n1]at hc;simp only [IV.vslice.injEq,h0V,true_and]at hc;obtain⟨rfl,rfl⟩:=hc;have hii:io'≠x.id:=fun q=>by rw [q,hg]at n2;cases n2
 have hgp:(g.set io' (.tip (k+1))).get x.id= .cells ((x.pst pa pf).cells lv'):=(aE hii.symm).trans hg;have keep: ∀{j n:Nat},(g.set io' (.tip (k+1))).get j= .tip n->NL (g.set io' (.tip (k+1))) x.id j->_:=fun{j n} ht hn=>vD (b:=(({x with c:= .vslice (some io') (k+1) (k+1) 1 (((bN f).take k).map IV.str++ [.str s]) } :LwS).pst pa pf).cells lv') hgp (fun e n z c q=>⟨e,n,z,c,q⟩) ht hn
 have kk:=keep aH (n4.set hii);refine⟨h0,⟨lv',aH,LV.put ?_ hgp⟩,.inr ⟨io',?_,kk.1,n3,kk.2⟩,?_,h5,h6,h7,h8,h9,fun j hj=>?_⟩
 ·rcases h2 with l| ⟨iL,l1,l2,l3,l4⟩
  ·exact .inl l
  ·refine .inr ⟨iL,l1,(aE fun q=>?_).trans l2,l3,l4⟩;exact n4 _ _ _ _ _ hg (by rw [<-q,l1];rfl)
 ·rw [b5N hk,hs]
 ·rcases h4 with h4| ⟨iv,v1,v2,v3,v4⟩
  ·exact .inl h4
  ·exact .inr ⟨iv,v1,(aE v4).trans ((aE (fun q=>by rw [q,n2]at v2;cases v2)).trans v2),v3,v4⟩
 ·obtain⟨r1,r2,r3⟩:=h10 j hj;have hji:j≠io':=fun q=>by
   rw [q,n2,IObj.tip.injEq]at r1;omega
  obtain⟨t1,t2⟩:=keep ((aE hji).trans r1) (r3.set hii);exact⟨t1,r2,t2⟩
theorem LW.pre{f:Int}{k m b:Nat}{R:Option Nat}{g:Heap}{pa pf:List IV}{x:LwS}(w:LW f k m b R g pa pf x){op im:Int}(ho:bR op/\bR im)(hb:b<=1000):bI g x.id (x.pst pa pf) op im 0 []:=
 ⟨w.hid,w.hg,⟨rfl,rfl⟩,⟨⟨ho.1,ho.2,fun k q=>by cases q⟩,(by decide:([]:List Int).length<=40)⟩,w.gl.ok,by have:=w.ln;show x.ns.length<=1000000;omega⟩
theorem LW.put{f:Int}{k m b:Nat}{R:Option Nat}{g h2:Heap}{pa pf:List IV}{x:LwS}{op im v t:Int}(w:LW f k m b R g pa pf x)(p:aQ g x.id (x.pst pa pf) op im v h2)(ho:op≠3/\op≠31)(hb:bR op/\bR im)(ht:bQ (eK x.ns ⟨op,im,[]⟩) op im []=t)(h0:t≠0):
  ∃ns2,LW f k m (b+1) R h2 pa pf {x with ns:=ns2 } /\SK ns2 t v:=by
 obtain⟨⟨lv,p1,p2⟩,p3,p4⟩:=p;have gp:=w.gl.put (n:=⟨op,im,[]⟩) (s:=t) ⟨⟨hb.1,hb.2,fun k q=>by cases q⟩,(by decide:([]:List Int).length<=40)⟩ (by rw [fL (ks:=[]) (ss:=[]) trivial];exact ht) h0 (fun q=>absurd q ho.1) (fun q=>absurd q ho.1) (fun q=>absurd q ho.2);obtain⟨g1,g2,g3,g4,_⟩:=gp;have p3':v=(fY x.ns ⟨op,im,[]⟩).2:=p3;have p2':LV h2 x.id lv (fY x.ns ⟨op,im,[]⟩).1:=p2;obtain⟨h0',_,n,h4,h5,_,h7,h8,h9,h10⟩:=w;refine⟨(fY x.ns ⟨op,im,[]⟩).1,⟨h1C h0' p4.nx,⟨lv,p1,p2'⟩,?_,?_,h5,g1,h7.mono g3,h8.mono g3,by show(fY x.ns ⟨op,im,[]⟩).1.length<=b+1;omega,fun j hj=>?_⟩,by rw [p3'];exact g2⟩
 ·rcases n with n| ⟨io,n1,n2,n3,n4⟩
  ·exact .inl n
  ·obtain⟨a,c⟩:=p4.tp _ _ n3 n2 n4;exact .inr ⟨io,n1,a,h1C n3 p4.nx,c⟩
 ·rcases h4 with h4| ⟨iv,v1,v2,v3,v4⟩
  ·exact .inl h4
  ·exact .inr ⟨iv,v1,p4.cl _ _ v3 v4 v2,h1C v3 p4.nx,v4⟩
 ·obtain⟨r1,r2,r3⟩:=h10 j hj;obtain⟨a,c⟩:=p4.tp _ _ r2 r1 r3;exact⟨a,h1C r2 p4.nx,c⟩
theorem LW.vr0{f:Int}{k b:Nat}{R:Option Nat}{g:Heap}{pa pf:List IV}{x:LwS}{v:Int}(w:LW f k 0 b R g pa pf x)(hv:SK x.ns 1 v){lv:IV}(hg:g.get x.id= .cells ((x.pst pa pf).cells lv)):
  LW f k 1 b R ((g.push (.cells [.int .i64 v])).set x.id (.cells ((({x with d:= .hslice g.next 0 1 1,vs:=[v] } :LwS).pst pa pf).cells lv))) pa pf {x with d:= .hslice g.next 0 1 1,vs:=[v] } :=by
 obtain⟨h0,⟨lv',h1,h2⟩,h3,h4,h5,h6,h7,h8,h9,h10⟩:=w;have e:lv'=lv:=by
  rw [hg]at h1;simp only [IObj.cells.injEq,PSt.cells,LwS.pst,h2I,true_and,and_true]at h1;exact h1.symm
 subst e;have hgp:(g.push (.cells [.int .i64 v])).get x.id= .cells ((x.pst pa pf).cells lv'):=(aJ h0).trans hg;have keep: ∀{j n:Nat},(g.push (.cells [.int .i64 v])).get j= .tip n->NL (g.push (.cells [.int .i64 v])) x.id j->_:=fun{j n} ht hn=>vD (b:=(({x with d:= .hslice g.next 0 1 1,vs:=[v] } :LwS).pst pa pf).cells lv') hgp (fun e n z c q=>⟨e,n,z,c,q⟩) ht hn
 have hgn:g.next≠x.id:=h3H h0;refine⟨h1T h0,⟨lv',aH,(h2.push).put hgp⟩,?_,.inr ⟨g.next,rfl,(aE hgn).trans aR,h1G _,hgn⟩,rfl,h6,fun q hq=>by rw [h2J.1 hq];exact hv,h8,h9,fun j hj=>?_⟩
 ·rcases h3 with h3| ⟨io,n1,n2,n3,n4⟩
  ·exact .inl h3
  ·obtain⟨t1,t2⟩:=keep ((aJ n3).trans n2) (n4.push h0);exact .inr ⟨io,n1,t1,h1T n3,t2⟩
 ·obtain⟨r1,r2,r3⟩:=h10 j hj;obtain⟨t1,t2⟩:=keep ((aJ r2).trans r1) (r3.push h0);exact⟨t1,h1T r2,t2⟩
theorem LW.vr1{f:Int}{k m b iv:Nat}{R:Option Nat}{g:Heap}{pa pf:List IV}{x:LwS}{v:Int}(w:LW f k m b R g pa pf x)(hd:x.d= .hslice iv 0 m 1)(hv:SK x.ns 1 v){lv:IV}(hg:g.get x.id= .cells ((x.pst pa pf).cells lv)):
  g.get iv= .cells (x.vs.map (IV.int .i64))/\iv≠x.id/\LW f k (m+1) b R ((((g.set iv .dead).push (.cells (List.take (m*1) (x.vs.map (IV.int .i64))++ [.int .i64 v])))).set x.id (.cells ((({x with d:= .hslice g.next 0 (m+1) 1,vs:=x.vs++ [v] } :LwS).pst pa pf).cells lv))) pa pf {x with d:= .hslice g.next 0 (m+1) 1,vs:=x.vs++ [v] } :=by
 obtain⟨h0,⟨lv',h1,h2⟩,h3,h4,h5,h6,h7,h8,h9,h10⟩:=w;have e:lv'=lv:=by
  rw [hg]at h1;simp only [IObj.cells.injEq,PSt.cells,LwS.pst,h2I,true_and,and_true]at h1;exact h1.symm
 subst e;rcases h4 with⟨_,h4⟩| ⟨iv',v1,v2,v3,v4⟩
 ·rw [h4]at hd
  cases hd
 rw [v1]at hd;simp only [IV.hslice.injEq,true_and,and_true]at hd;subst hd;have hgd:(g.set iv' .dead).get x.id= .cells ((x.pst pa pf).cells lv'):=(aE v4.symm).trans hg;have hgp:((g.set iv' .dead).push (.cells (List.take (m*1) (x.vs.map (IV.int .i64))++ [.int .i64 v]))).get x.id= .cells ((x.pst pa pf).cells lv'):=(aJ (show x.id< (g.set iv' .dead).next from h0)).trans hgd;have keep: ∀{j n:Nat},g.get j= .tip n->j<g.next->NL g x.id j->_:=fun{j n} ht hj hn=>vD (m:=n) (j:=j) (b:=(({x with d:= .hslice g.next 0 (m+1) 1,vs:=x.vs++ [v] } :LwS).pst pa pf).cells lv') hgp (fun e n z c q=>⟨e,n,z,c,q⟩) ((aJ (show j< (g.set iv' .dead).next from hj)).trans ((aE (fun q=>by rw [q,v2]at ht;cases ht)).trans ht)) ((hn.set v4).push h0)
 have hgn:g.next≠x.id:=h3H h0;refine⟨v2,v4,⟨h1T h0,⟨lv',aH,((h2.set v2).push).put hgp⟩,?_,.inr ⟨g.next,rfl,?_,h1G _,hgn⟩,by show(x.vs++ [v]).length=m+1;rw [h1E,h5];rfl,h6,fun q hq=>?_,h8,h9,fun j hj=>?_⟩⟩
 ·rcases h3 with h3| ⟨io,n1,n2,n3,n4⟩
  ·exact .inl h3
  ·obtain⟨t1,t2⟩:=keep n2 n3 n4;exact .inr ⟨io,n1,t1,h1T n3,t2⟩
 ·refine(aE hgn).trans (aR.trans ?_);rw [h1H (by rw [h1P,h5];omega),h3O];rfl
 ·rcases h2S.1 hq with hq|hq
  ·exact h7 q hq
  ·rw [h2J.1 hq];exact hv
 ·obtain⟨r1,r2,r3⟩:=h10 j hj;obtain⟨t1,t2⟩:=keep r1 r2 r3;exact⟨t1,h1T r2,t2⟩
theorem LW.fin{f:Int}{k b:Nat}{R:Option Nat}{g:Heap}{pa pf:List IV}{x:LwS}(w:LW f k k b R g pa pf x)(hk:k=(bN f).length)(hp:qG pa pf)(hf:f=0\/f=1)(hb:b<=1000):
  ∃s:BSt,s.f=f/\s.lo=0/\s.ns=x.ns/\BH g x.id s/\GS s:=by
 obtain⟨h0,⟨lv,h1,h2⟩,h3,h4,h5,h6,h7,h8,h9,h10⟩:=w;have hn:=nR f;rcases h3 with⟨h3,_⟩| ⟨io,n1,n2,n3,n4⟩
 ·omega
 rcases h4 with⟨h4,_⟩| ⟨iv,v1,v2,v3,v4⟩
 ·omega
 refine⟨⟨pa,pf,f,x.ns,some io,k,iv,x.vs,x.st,0⟩,rfl,rfl,rfl,⟨h0,⟨lv,?_,h2⟩,v3,v4,v2⟩,⟨h6,h7,h8,by show x.vs.length=_;rw [h5,hk],hp,hf,by show x.ns.length<=100000;omega,by show(0:Int)<=0/\(0:Int)<=10;decide⟩⟩;rw [h1,LwS.pst,PSt.cells,BSt.cells,n1,v1,h1H (by omega),h5,hk]
theorem LW.nm0'{f:Int}{k m b:Nat}{R:Option Nat}{g:Heap}{pa pf:List IV}{x:LwS}(w:LW f k m b R g pa pf x)(h:k=0){s:List UInt8}(hs: ∃h:k< (bN f).length,s=(bN f)[k]){lv:IV}(hg:g.get x.id= .cells ((x.pst pa pf).cells lv)):
  LW f (k+1) m b R ((g.push (.tip 1)).set x.id (.cells ((({x with c:= .vslice (some g.next) 1 1 1 [.str s] } :LwS).pst pa pf).cells lv))) pa pf {x with c:= .vslice (some g.next) 1 1 1 [.str s] } :=by
 subst h;exact w.nm0 hs hg
theorem LW.vr0'{f:Int}{k m b:Nat}{R:Option Nat}{g:Heap}{pa pf:List IV}{x:LwS}{v:Int}(w:LW f k m b R g pa pf x)(h:m=0)(hv:SK x.ns 1 v){lv:IV}(hg:g.get x.id= .cells ((x.pst pa pf).cells lv)):
  LW f k (m+1) b R ((g.push (.cells [.int .i64 v])).set x.id (.cells ((({x with d:= .hslice g.next 0 1 1,vs:=[v] } :LwS).pst pa pf).cells lv))) pa pf {x with d:= .hslice g.next 0 1 1,vs:=[v] } :=by
 subst h;exact w.vr0 hv hg
theorem GL.nil0:GL [] 0:=⟨fun n h=>(by cases h),fun s h=>(by cases h),fun n h=>(by cases h),fun n h=>(by cases h),fun i j n m h=>(by simp at h),fun i n h=>(by simp at h)⟩
def lw0(j:Nat):LwS:=⟨j,[],.nilslice,.nilslice,0,[]⟩
theorem LW.init{f:Int}{R:Option Nat}{g h2:Heap}{pa pf:List IV}{v:Int}(p:aQ (g.push (.cells (((lw0 g.next).pst pa pf).cells .nilslice))) g.next ((lw0 g.next).pst pa pf) 26 0 v h2)(hr: ∀j,R=some j->g.get j= .tip 5/\j<g.next):
  ∃lv ns2,h2.get g.next= .cells (((lw0 g.next).pst pa pf).cells lv)/\LW f 0 0 1 R (h2.set g.next (.cells (((⟨g.next,ns2,.nilslice,.nilslice,v,[]⟩:LwS).pst pa pf).cells lv))) pa pf ⟨g.next,ns2,.nilslice,.nilslice,v,[]⟩:=by
 obtain⟨⟨lv,p1,p2⟩,p3,p4⟩:=p;have gp:=GL.nil0.put (n:=⟨26,0,[]⟩) (s:=2) ⟨⟨(by decide:bR 26),(by decide:bR 0),fun k q=>by cases q⟩,(by decide:([]:List Int).length<=40)⟩ (by rw [fL (ks:=[]) (ss:=[]) trivial];exact b5M) (by decide) (fun q=>by cases q) (fun q=>by cases q) (fun q=>by cases q);obtain⟨g1,g2,_,g4,_⟩:=gp;have p3':v=(fY [] ⟨26,0,[]⟩).2:=p3;refine⟨lv,(fY [] ⟨26,0,[]⟩).1,p1,⟨h1C (h1G _) p4.nx,⟨lv,aH,LV.put p2 p1⟩,.inl ⟨rfl,rfl⟩,.inl ⟨rfl,rfl⟩,rfl,g1,(fun q hq=>by cases hq),by rw [p3'];exact g2,by simpa using g4,fun j hj=>?_⟩⟩;obtain⟨r1,r2⟩:=hr j hj;have hn:NL (g.push (.cells (((lw0 g.next).pst pa pf).cells .nilslice))) g.next j:=fun cs e n z c q hq=>by
  rw [aR,IObj.cells.injEq]at q;subst q
  cases hq
 obtain⟨t1,t2⟩:=p4.tp j 5 (h1T r2) ((aJ r2).trans r1) hn;obtain⟨u1,u2⟩:=vD (b:=((⟨g.next,(fY [] ⟨26,0,[]⟩).1,.nilslice,.nilslice,v,[]⟩:LwS).pst pa pf).cells lv) p1 (fun e n z c q=>⟨e,n,z,c,q⟩) t1 t2;exact⟨u1,h1C (h1T r2) p4.nx,u2⟩
theorem c6K{g:Heap}{pa pf:List IV} :bI (g.push (.cells (((lw0 g.next).pst pa pf).cells .nilslice))) g.next ((lw0 g.next).pst pa pf) 26 0 0 []:=
 ⟨h1G _,⟨.nilslice,aR,.inl ⟨rfl,rfl⟩⟩,⟨rfl,rfl⟩,⟨⟨(by decide:bR 26),(by decide:bR 0),fun k q=>by cases q⟩,(by decide:([]:List Int).length<=40)⟩,fun n h=>(by cases h),h1N _⟩
structure Gr where
 ns:List Nd
 lo:Int
 v:Int
 st:Int
structure GrOk(g:Gr):Prop where
 gl:GL g.ns g.lo
 lo:0<=g.lo/\g.lo<=10
 v:SK g.ns 1 g.v
 st:SK g.ns 2 g.st
 ln:g.ns.length<=2000
def gC(nm:List UInt8)(np:Int)(g:Gr):List IV:=[.str nm,.int .i64 np,.vslice none 0 g.ns.length 3 (g.ns.flatMap cN),.int .i64 g.v,.int .i64 g.st]
def c1C(c:List IV):Prop:= ∃g0 g1:Gr,GrOk g0/\GrOk g1/\c=gC [102] 2 g0++gC [103] 1 g1
theorem c1C.pure{c:List IV}(h:c1C c):aN c=true:=by
 obtain⟨g0,g1,_,_,rfl⟩:=h;simp only [aN,bL,gC,bG,gI,h1L]
structure FnD where
 i:Nat
 F:IV
 jr:Nat
 gr:Gr
 nm:List UInt8
 pc:List (List UInt8)
 lc:List (List UInt8)
 b:List S
 ek:Int
 en:Int
 enm:List UInt8
 eop:Int
 eks:List E
def FnD.R(x:FnD):Option Nat:=if x.i=0 then none else some x.jr
def g5P(x:FnD):Prop:=(x.i=0/\x.F= .nilslice/\x.nm=[102]/\x.pc.length=2) \/ (x.i=1/\x.F= .vslice (some x.jr) 5 1 5 (gC [102] 2 x.gr)/\GrOk x.gr/\x.nm=[103]/\x.pc.length=1)
structure FnP(x:FnD):Prop where
 p:x.pc++x.lc=bN x.i
 gb:GB x.i x.b (.mk x.ek x.en x.enm x.eop x.eks)
 fr:g5P x
structure LwP(ac fc:List IV)(g:Heap)(k:Nat)(x:FnD)(y:LwS):Prop where
 fn:FnP x
 le:k<=x.pc.length
 w:LW x.i k k (1+k) x.R g ac fc y
structure LwQ(ac fc:List IV)(g:Heap)(k:Nat)(x:FnD)(y:LwS):Prop where
 fn:FnP x
 le:k<=x.lc.length
 w:LW x.i (x.pc.length+k) (x.pc.length+k) (1+(x.pc.length+k)) x.R g ac fc y
structure LwO(g:Heap)(i jr:Nat)(c:List IV):Prop where
 p:(i=1/\(∃g0,GrOk g0/\c=gC [102] 2 g0)/\g.get jr= .tip 5/\jr<g.next) \/ (i=2/\∃g0 g1,GrOk g0/\GrOk g1/\c=gC [102] 2 g0++gC [103] 1 g1)
theorem e9A{pc lc l:List (List UInt8)}(h:pc++lc=l){k:Nat}(hk:k<pc.length): ∃h:k<l.length,pc[k]=l[k]:=by
 subst h;exact⟨by rw [h1E];omega,(h7T hk).symm⟩
theorem e9B{pc lc l:List (List UInt8)}(h:pc++lc=l){k:Nat}(hk:k<lc.length): ∃h:pc.length+k<l.length,lc[k]=l[pc.length+k]:=by
 subst h;refine⟨by rw [h1E];omega,?_⟩;rw [h7P (by omega)];simp
theorem cA{g:Heap}{x:PSt}{lv:IV}{j:Nat}(h:g.get j= .cells (x.cells lv)):aY g j 4=some x.d:=by
 unfold aY
 rw [h];rfl
def qV(op:Int)(s:List Int):Bool:=if op=30 then a1H s else a3P op s
def c1D(op im:Int)(k:List Int):Int:=if op=30 then 2 else a1I op im k
theorem c6L{op im:Int}{k:List Int}(h:op≠30):c1D op im k=a1I op im k:=if_neg h
theorem c1E{e:Nat}{op im:Int}{k:List Int}(hr: ∀x∈k,1<=x/\x<=3)(he:k=[3]->e<=33):bQ e op im k=if qV op k=true/\wZ e op im=true then c1D op im k else 0:=by
 by_cases h30:op=30
 ·subst h30;unfold bQ qV wZ c1D
  simp
 ·unfold qV c1D
  rw [if_neg h30,if_neg h30];exact d1B h30 hr he
theorem SIG.finH{l:List Nd}{i j:Nat}{k:List Int}(h:SIG l i j k)(hi:i<l.length)(hj:l[i].ks.length<=j):
  cC (l.take i) (aG (l.take i)) l[i]=(if qV l[i].op k=true/\wZ (eK l l[i]) l[i].op l[i].im=true then c1D l[i].op l[i].im k else 0)/\k.length=l[i].ks.length/\(qV l[i].op k=true->l[i].op=25-> ∃q:Int,l[i].ks=[q]/\(0<=q/\q<l.length)/\3<=(l.getD q.toNat default).ks.length/\(l.getD q.toNat default).ks.length<=33):=by
 have hr:=h.rng;obtain⟨h1,h2,h3,h4⟩:=h.lst hi hj;have h33:k=[3]-> ∃q:Int,l[i].ks=[q]/\(0<=q/\q<l.length)/\3<=(l.getD q.toNat default).ks.length/\(l.getD q.toNat default).ks.length<=33:=fun e=>by
  obtain⟨n,e1,e2,e3,e4⟩:=h;obtain rfl:l[i]=n:=by rw [h0U hi]at e1;exact h1M e1
  rw [h1H hj,e]at e4;have hl:l[i].ks.length=1:=by rw [<-h2,e];rfl
  match hks:l[i].ks,hl with
  | [q],_=>
   rw [hks,h2H,h2I]at e4;have h5:=h3 q (by rw [hks];exact h2C);have h6:=zF e4.1.symm;rw [oV (by have:=h6.1;rw [h1Y]at this;omega)]at h6;exact⟨q,rfl,h5,h6.2⟩
 refine⟨?_,h2,fun v o=>?_⟩
 ·rw [h1];refine c1E hr fun e=>?_
  obtain⟨q,e1,e2,e3,e4⟩:=h33 e;show(l.getD (l[i].ks.getD 0 0).toNat default).ks.length<=33;rw [e1];exact e4
 ·unfold qV a3P at v;rw [o,if_neg (by decide),if_neg (by decide),if_pos rfl,decide_eq_true_eq]at v;exact h33 v
def SPH(h:Heap)(id:Nat)(l:List Nd)(i:Nat)(k0:List Int):Prop:=(i<l.length/\(∀x∈l,x.ks.length<=1000000/\True)/\l.length<=1000000)/\h.get id= .cells (k0.map (IV.int .i64))/\id<h.next/\k0.length=l.length/\k0.take i=aG (l.take i)
def lE(n k:Nat):List Int:=(n:Int)::List.replicate k ((n:Int)+1)++(n:Int)::List.replicate (k-1) ((n:Int)+1)
def iW(n k:Nat):List Nd:=[⟨26,0,[]⟩,⟨1,0,[]⟩,⟨31,0,lE n k⟩]
def Keep.loopC(n k:Nat):List IV:=(iW n k).flatMap cN
theorem a3U{n k:Nat}(h:1<=k):(lE n k).length=2*k+1:=by
 unfold lE
 simp only [h1E,h1O,h3D];omega
theorem a8R{n k:Nat}{ks:List Int}(h:1<=k)(e:ks=(n:Int)::List.replicate (k-1) ((n:Int)+1)):lE n k=(ks++ [(n:Int)+1])++ks:=by
 have e2:(n:Int)::List.replicate k ((n:Int)+1)=ks++ [(n:Int)+1]:=by
  rw [e,h3E,<-List.replicate_succ',show k-1+1=k by omega]
 unfold lE
 rw [e2,<-e]
theorem sE{l:List Nd}{k:Nat} :(l++iW l.length k).flatMap cN=l.flatMap cN++ [.int .i64 26,.int .i64 0,.vslice none 0 0 1 [],.int .i64 1,.int .i64 0,.vslice none 0 0 1 []]++ [.int .i64 31,.int .i64 0,.vslice none 0 (lE l.length k).length 1 ((lE l.length k).map (IV.int .i64))]:=by
 rw [h3M,h2V];rfl
theorem oI.rep{ns:List Nd}{k:Int}(h:SK ns 1 k): ∀m:Nat,oI ns (List.replicate m k) (List.replicate m 1)
 |0=>trivial
 |m+1=>⟨⟨h,by decide⟩,oI.rep h m⟩
theorem c1F{ns:List Nd}{n k:Nat}(h1:SK ns 2 (n:Int))(h2:SK ns 1 ((n:Int)+1)):oI ns (lE n k) (lsL k):=by
 have a:oI ns ((n:Int)::List.replicate k ((n:Int)+1)) (2::List.replicate k 1):=⟨⟨h1,by decide⟩,oI.rep h2 k⟩;have b:oI ns ((n:Int)::List.replicate (k-1) ((n:Int)+1)) (2::List.replicate (k-1) 1):=⟨⟨h1,by decide⟩,oI.rep h2 (k-1)⟩;exact a.append b
theorem sF{l:List Nd}{n:Nd} :(aG (l++ [n])).getD l.length 0=cC l (aG l) n:=by
 rw [gM,h1A,h1V (by rw [bD];exact h1D _),bD,h6E];rfl
theorem b1A{l:List Nd}{k:Nat}(h1:1<=k)(h2:k<=16):aG (l++iW l.length k)=aG l++ [2,1,3]:=by
 have e1:aG (l++ [⟨26,0,[]⟩])=aG l++ [2]:=by
  rw [gM]
  congr 2
 have e2:aG ((l++ [⟨26,0,[]⟩])++ [⟨1,0,[]⟩])=(aG l++ [2])++ [1]:=by
  rw [gM,e1]
  congr 2
 have hl:(aG l).length=l.length:=bD l;have hk:oI ((l++ [⟨26,0,[]⟩])++ [⟨1,0,[]⟩]) (lE l.length k) (lsL k):=by
  refine c1F ⟨by omega,by simp only [h1E,h1O,h1U];omega,?_⟩ ⟨by omega,by simp only [h1E,h1O,h1U];omega,?_⟩
  ·rw [e2,h0Z,h1A,h2V,h1V (by omega),hl,h6E];rfl
  ·rw [e2,show((l.length:Int)+1).toNat=l.length+1 by omega,h1A,h2V,h1V (by omega),hl,h5C];rfl
 have e3:aG (((l++ [⟨26,0,[]⟩])++ [⟨1,0,[]⟩])++ [⟨31,0,lE l.length k⟩])=((aG l++ [2])++ [1])++ [3]:=by
  rw [gM,e2]
  congr 2
  rw [<-e2];exact(fL hk).trans (c6J (by decide) h1 h2)
 have e4:l++iW l.length k=((l++ [⟨26,0,[]⟩])++ [⟨1,0,[]⟩])++ [⟨31,0,lE l.length k⟩]:=by
  rw [h2V,h2V];rfl
 rw [e4,e3,h2V,h2V];rfl
def tT(l:List Nd)(p:Int×Nat):List Nd:=if p.1=1 then l++ [⟨1,0,[]⟩]else if p.1=2 then l++ [⟨26,0,[]⟩]else l++iW l.length p.2
def a3V(l:List Nd)(p:Int×Nat):Nat:=if p.1=1\/p.1=2 then l.length else l.length+2
theorem c6M{l:List Nd}{p:Int×Nat}(h:(p.1=1\/p.1=2\/p.1=3)/\(1<=p.2/\p.2<=16)):l<+:tT l p/\SK (tT l p) p.1 (a3V l p:Int)/\(p.1=3->((tT l p).getD (a3V l p) default).ks.length=2*p.2+1):=by
 obtain⟨s,m⟩:=p;obtain⟨hs,h1,h2⟩:=h;dsimp only at hs h1 h2;have hl:(aG l).length=l.length:=bD l;rcases hs with rfl|rfl|rfl
 ·refine⟨h3Y _ _,⟨by omega,?_,?_⟩,fun q=>absurd q (by dsimp only;decide)⟩
  ·show((l.length:Nat):Int)< ((l++ [⟨1,0,[]⟩]:List Nd).length:Int);rw [h1E];simp only [h1O,h1U];omega
  ·show(aG (l++ [⟨1,0,[]⟩])).getD ((l.length:Nat):Int).toNat 0=1;rw [h0Z,sF];exact(fL (ks:=[]) (ss:=[]) trivial).trans eJ
 ·refine⟨h3Y _ _,⟨by omega,?_,?_⟩,fun q=>absurd q (by dsimp only;decide)⟩
  ·show((l.length:Nat):Int)< ((l++ [⟨26,0,[]⟩]:List Nd).length:Int);rw [h1E];simp only [h1O,h1U];omega
  ·show(aG (l++ [⟨26,0,[]⟩])).getD ((l.length:Nat):Int).toNat 0=2;rw [h0Z,sF];exact(fL (ks:=[]) (ss:=[]) trivial).trans b5M
 ·refine⟨h3Y _ _,⟨by omega,?_,?_⟩,fun _=>?_⟩
  ·show((l.length+2:Nat):Int)< ((l++iW l.length m).length:Int);rw [h1E];show((l.length+2:Nat):Int)< ((l.length+3:Nat):Int);omega
  ·show(aG (l++iW l.length m)).getD ((l.length+2:Nat):Int).toNat 0=3;rw [h0Z,b1A h1 h2,h1A,h1V (by omega),hl,h5C];rfl
  ·show((l++iW l.length m).getD (l.length+2) default).ks.length=2*m+1;rw [h1A,h1V (by omega),h5C];exact a3U h1
def iD(a:List Nd×List Int)(ps:List (Int×Nat)):List Nd×List Int:=ps.foldl (fun a p=>(tT a.1 p,a.2++ [(a3V a.1 p:Int)])) a
def okP(p:Int×Nat):Prop:=(p.1=1\/p.1=2\/p.1=3)/\(1<=p.2/\p.2<=16)
theorem c6N: ∀(ps:List (Int×Nat))(l:List Nd)(ks ss:List Int),oI l ks ss->(∀p∈ps,okP p)->oI (iD (l,ks) ps).1 (iD (l,ks) ps).2 (ss++ps.map Prod.fst)/\l<+:(iD (l,ks) ps).1/\ks<+:(iD (l,ks) ps).2
 | [],l,ks,ss,h,_=>by
  rw [h4D,h3V];exact⟨h,h4F _,h4F _⟩
 |p::r,l,ks,ss,h,hp=>by
  have h0:=hp p h2C;obtain⟨f1,f2,_⟩:=c6M h0;have hne:p.1≠0:=by
   have:=h0.1;omega
  obtain⟨g1,g2,g3⟩:=c6N r (tT l p) (ks++ [(a3V l p:Int)]) (ss++ [p.1]) ((h.mono f1).append (oI.one f2 hne)) fun q hq=>hp q (h2N _ hq)
  rw [h2V]at g1;exact⟨g1,f1.trans g2,(h3Y _ _).trans g3⟩
theorem d4Z{ps:List (Int×Nat)}(hp: ∀p∈ps,okP p)(op im:Int)(e:Nat)(he: ∀p,ps=[p]->p.1=3->e=2*p.2+1):
  cC (iD ([],[]) ps).1 (aG (iD ([],[]) ps).1) ⟨op,im,(iD ([],[]) ps).2⟩=bQ e op im (ps.map Prod.fst):=by
 have g1:=(c6N ps [] [] [] trivial hp).1;rw [h3U]at g1;rw [fL g1];refine a3M fun q=>?_
 clear g1
 match ps,q,he,hp with
 | [],q,_,_=>cases q
 |_::_::_,q,_,_=>exact absurd q (by simp)
 | [p],q,he,hp=>
  have h3:p.1=3:=by simpa using q
  obtain⟨_,_,f3⟩:=c6M (l:=[]) (hp p h2C);rw [he p rfl h3];exact f3 h3
def vE(l:List Nd)(k0:List Int)(q:Int):Int×Nat:=(k0.getD q.toNat 0,if k0.getD q.toNat 0=3 then((l.getD q.toNat default).ks.length-1)/2 else 1)
def kY(l:List Nd)(i j:Nat)(k0:List Int):List (Int×Nat):=((l.getD i default).ks.take j).map (vE l k0)
structure NGP(l:List Nd)(i:Nat)(k0:List Int):Prop where
 hi:i<l.length
 hll:l.length<=100000
 hks: ∀n∈l,n.ks.length<=40
 hkl:k0.length=l.length
 hkt:k0.take i=aG (l.take i)
 hko:(l.getD i default).ks.all (dL (aG (l.take i)))=true
theorem NGP.kid{l:List Nd}{i:Nat}{k0:List Int}(h:NGP l i k0){q:Int}(hq:q∈ (l.getD i default).ks):(0<=q/\q<i)/\q.toNat<k0.length/\k0.getD q.toNat 0=(aG (l.take i)).getD q.toNat 0/\(k0.getD q.toNat 0=1\/k0.getD q.toNat 0=2\/k0.getD q.toNat 0=3)/\(k0.getD q.toNat 0=3->(l.getD q.toNat default).ks.length%2=1/\3<=(l.getD q.toNat default).ks.length/\(l.getD q.toNat default).ks.length<=33):=by
 obtain⟨p1,p2,p3⟩:=qF (h2L.1 h.hko q hq);have hl:=h.hkl;have hi:=h.hi;rw [bD,h1Y]at p2;have e:k0.getD q.toNat 0=(aG (l.take i)).getD q.toNat 0:=by
  rw [<-h.hkt,h1A,h1A,h3L (by omega)]
 have hlt:q.toNat< (aG (l.take i)).length:=by rw [bD,h1Y];omega
 have e2:(aG (l.take i)).getD q.toNat 0=(aG (l.take i))[q.toNat]:=by rw [h1A,h0U hlt];rfl
 have hr:=a3O _ _ (h1B hlt);refine⟨⟨p1,by omega⟩,by omega,e,by rw [e];rw [e2]at p3⊢;omega,fun h3=>?_⟩;rw [e]at h3;have a:=a3L h3;have b:=zF h3;rw [oV (by omega)]at a b;exact⟨a,b.2⟩
theorem NGP.okp{l:List Nd}{i:Nat}{k0:List Int}(h:NGP l i k0){q:Int}(hq:q∈ (l.getD i default).ks):okP (vE l k0 q):=by
 obtain⟨_,_,_,a,b⟩:=h.kid hq;refine⟨a,?_⟩;unfold vE
 dsimp only;split
 ·rename_i c;have:=b c;omega
 ·omega
theorem NGP.ps{l:List Nd}{i:Nat}{k0:List Int}(h:NGP l i k0)(j:Nat): ∀p∈kY l i j k0,okP p:=by
 intro p hp;unfold kY at hp;obtain⟨q,hq,rfl⟩:=h4O.1 hp;exact h.okp (h4X hq)
theorem d1D(a:List Nd×List Int)(ps:List (Int×Nat))(p:Int×Nat):iD a (ps++ [p])=(tT (iD a ps).1 p,(iD a ps).2++ [(a3V (iD a ps).1 p:Int)]):=by
 unfold iD
 rw [h7M];rfl
theorem d5A{l:List Nd}{i j:Nat}{k0:List Int}(hj:j< (l.getD i default).ks.length):kY l i (j+1) k0=kY l i j k0++ [vE l k0 (l.getD i default).ks[j]]:=by
 unfold kY
 rw [h1J hj,h3O];rfl
theorem a3W{l:List Nd}{i j:Nat}{k0:List Int}(hj:j< (l.getD i default).ks.length){few:List Nd}{kids:List Int}(e:(few,kids)=iD ([],[]) (kY l i j k0)):(tT few (vE l k0 (l.getD i default).ks[j]),kids++ [(a3V few (vE l k0 (l.getD i default).ks[j]):Int)])=iD ([],[]) (kY l i (j+1) k0):=by
 rw [d5A hj,d1D,<-e]
theorem a8S{l:List Nd}{i j:Nat}{k0:List Int}(hj:j< (l.getD i default).ks.length){few:List Nd}{kids:List Int}(e:(few,kids)=iD ([],[]) (kY l i j k0))(s:k0.getD ((l.getD i default).ks[j]).toNat 0=1):(few++ [⟨1,0,[]⟩],kids++ [(few.length:Int)])=iD ([],[]) (kY l i (j+1) k0):=by
 rw [<-a3W hj e];have a:tT few (vE l k0 (l.getD i default).ks[j])=few++ [⟨1,0,[]⟩]:=if_pos s;have b:a3V few (vE l k0 (l.getD i default).ks[j])=few.length:=if_pos (.inl s);rw [a,b]
theorem a8T{l:List Nd}{i j:Nat}{k0:List Int}(hj:j< (l.getD i default).ks.length){few:List Nd}{kids:List Int}(e:(few,kids)=iD ([],[]) (kY l i j k0))(s:k0.getD ((l.getD i default).ks[j]).toNat 0=2):(few++ [⟨26,0,[]⟩],kids++ [(few.length:Int)])=iD ([],[]) (kY l i (j+1) k0):=by
 rw [<-a3W hj e];have a:tT few (vE l k0 (l.getD i default).ks[j])=few++ [⟨26,0,[]⟩]:=(if_neg (fun c=>by have:k0.getD ((l.getD i default).ks[j]).toNat 0=1:=c;omega)).trans (if_pos s);have b:a3V few (vE l k0 (l.getD i default).ks[j])=few.length:=if_pos (.inr s);rw [a,b]
theorem a8U{l:List Nd}{i j:Nat}{k0:List Int}(hj:j< (l.getD i default).ks.length){few:List Nd}{kids:List Int}(e:(few,kids)=iD ([],[]) (kY l i j k0))(s:k0.getD ((l.getD i default).ks[j]).toNat 0=3):(few++iW few.length (((l.getD ((l.getD i default).ks[j]).toNat default).ks.length-1)/2),kids++ [((few.length+2:Nat):Int)])=iD ([],[]) (kY l i (j+1) k0):=by
 rw [<-a3W hj e];have m:(vE l k0 (l.getD i default).ks[j]).2=((l.getD ((l.getD i default).ks[j]).toNat default).ks.length-1)/2:=if_pos s;have a:tT few (vE l k0 (l.getD i default).ks[j])=few++iW few.length (vE l k0 (l.getD i default).ks[j]).2:=(if_neg (fun c=>by have:k0.getD ((l.getD i default).ks[j]).toNat 0=1:=c;omega)).trans (if_neg (fun c=>by have:k0.getD ((l.getD i default).ks[j]).toNat 0=2:=c;omega));have b:a3V few (vE l k0 (l.getD i default).ks[j])=few.length+2:=if_neg (fun c=>by have:k0.getD ((l.getD i default).ks[j]).toNat 0=1\/k0.getD ((l.getD i default).ks[j]).toNat 0=2:=c;omega);rw [a,b,m]
theorem d5B: ∀(ps:List (Int×Nat))(a:List Nd×List Int),(iD a ps).1.length<=a.1.length+3*ps.length/\(iD a ps).2.length=a.2.length+ps.length
 | [],a=>⟨h1D _,rfl⟩
 |p::r,a=>by
  obtain⟨h1,h2⟩:=d5B r (tT a.1 p,a.2++ [(a3V a.1 p:Int)]);have h3:(tT a.1 p).length<=a.1.length+3:=by
   unfold tT
   split
   ·simp
   split
   ·simp
   ·simp [iW]
  have e:iD a (p::r)=iD (tT a.1 p,a.2++ [(a3V a.1 p:Int)]) r:=rfl;rw [e];simp only [h1E,h1O,h1U]at h1 h2⊢;exact⟨by omega,by omega⟩
theorem e6A{l:List Nd}{p:Int×Nat}(hp:okP p)(h: ∀x∈l,x.ks.length<=1000000): ∀x∈tT l p,x.ks.length<=1000000:=by
 intro x hx;unfold tT at hx;split at hx
 ·rcases h2S.1 hx with hx|hx
  ·exact h x hx
  ·rw [h2J.1 hx];simp
 split at hx
 ·rcases h2S.1 hx with hx|hx
  ·exact h x hx
  ·rw [h2J.1 hx];simp
 ·rcases h2S.1 hx with hx|hx
  ·exact h x hx
  ·unfold iW at hx;simp only [h2O,h4G,or_false]at hx;have:=hp.2;rcases hx with rfl|rfl|rfl
   ·simp
   ·simp
   ·show(lE _ _).length<=_;rw [a3U this.1];omega
theorem d5C: ∀(ps:List (Int×Nat))(a:List Nd×List Int),(∀p∈ps,okP p)->(∀x∈a.1,x.ks.length<=1000000)-> ∀x∈ (iD a ps).1,x.ks.length<=1000000
 | [],a,_,h=>h
 |p::r,a,hp,h=>d5C r _ (fun q hq=>hp q (h2N _ hq)) (e6A (hp p h2C) h)
theorem NGP.sz{l:List Nd}{i:Nat}{k0:List Int}(h:NGP l i k0){j:Nat}(hj:j<=(l.getD i default).ks.length){few:List Nd}{kids:List Int}(e:(few,kids)=iD ([],[]) (kY l i j k0)):few.length<=120/\kids.length=j/\j<=40/\∀x∈few,x.ks.length<=1000000:=by
 obtain⟨h1,h2⟩:=d5B (kY l i j k0) ([],[]);have h3:=d5C (kY l i j k0) ([],[]) (h.ps j) (fun x hx=>(h4G hx).elim);rw [<-e]at h1 h2 h3;have hm:(l.getD i default) ∈l:=by
  rw [h1A,h0U h.hi];exact h1B h.hi
 have:=h.hks _ hm;have hl:(kY l i j k0).length=j:=by
  unfold kY
  rw [h1P,h1Y];omega
 rw [hl]at h1 h2;simp only [h1U]at h1 h2;exact⟨by omega,by omega,by omega,h3⟩
theorem NGP.fin{l:List Nd}{i:Nat}{k0:List Int}(h:NGP l i k0){few:List Nd}{kids:List Int}(e:(few,kids)=iD ([],[]) (kY l i (l.getD i default).ks.length k0)):
  (aG (few++ [⟨(l.getD i default).op,(l.getD i default).im,kids⟩])).getD few.length 0=cC (l.take i) (aG (l.take i)) (l.getD i default):=by
 have h1:=d4Z (h.ps (l.getD i default).ks.length) (l.getD i default).op (l.getD i default).im (eK (l.take i) (l.getD i default)) fun p e1 e2=>by
  unfold kY at e1;rw [h5Q]at e1;have hl:(l.getD i default).ks.length=1:=by have:=congrArg List.length e1;rw [h1P]at this;exact this
  match hk:(l.getD i default).ks,hl with
  | [q],_=>
   rw [hk,h2H,h4D,h2I]at e1;obtain⟨a,b,c,d,f⟩:=h.kid (q:=q) (by rw [hk];exact h2C);have h3:k0.getD q.toNat 0=3:=by rw [<-e1.1]at e2;exact e2
   have:=f h3;rw [<-e1.1];unfold eK vE
   rw [hk];dsimp only;rw [if_pos h3];show((l.take i).getD q.toNat default).ks.length=_;rw [oV (by omega)];omega
 rw [<-e]at h1;rw [sF];dsimp only at h1;rw [h1];unfold cC
 rw [if_pos h.hko]
 congr 1
 unfold kY
 rw [h5Q,List.map_map];refine h5B fun q hq=>?_
 exact(h.kid hq).2.2.1
end Go.M10
end
end
