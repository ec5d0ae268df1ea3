/-
  Texts of this proof, one after the other.
  Conditions: none.
-/
import Derived.Test.YtkonebkblgemkaaGreatZ8
set_option linter.unusedVariables false
set_option linter.unusedSimpArgs false
set_option maxRecDepth 100000
set_option maxHeartbeats 4000000
noncomputable section
section
namespace Go.M15
open Go.Pv
end Go.M15
namespace Go.Pv
open Go.M15
theorem fC{sz:Nat}{cs:List IV}{off:Nat}{A:Prop}{K:Nat->Nat->Nat->List IV->Prop}(e:cs[off]?=some .nilslice)(ha:A):cK sz cs off A K:=by
 unfold cK;rw [e];exact ha
theorem dI{sz:Nat}{cs:List IV}{off:Nat}{A:Prop}{K:Nat->Nat->Nat->List IV->Prop}{i:Nat}{a n:Nat}{c:List IV}(e:cs[off]?=some (.vslice (some i) a n sz c))(hk:K i a n c):cK sz cs off A K:=by
 unfold cK;rw [e];simpa using hk
theorem kW{sz:Nat}{cs:List IV}{off:Nat}{A:Prop}{K:Nat->Nat->Nat->Prop}(e:cs[off]?=some .nilslice)(ha:A):cT sz cs off A K:=by
 unfold cT;rw [e];exact ha
theorem cZ{sz:Nat}{cs:List IV}{off:Nat}{A:Prop}{K:Nat->Nat->Nat->Prop}{i a n:Nat}(e:cs[off]?=some (.hslice i a n sz))(hk:K i a n):cT sz cs off A K:=by
 unfold cT;rw [e];simpa using hk
theorem bF{k:IntKind}{cs:List IV}{off:Nat}{K:Int->Prop}{n:Int}(e:cs[off]?=some (.int k n))(hk:K n):aK k cs off K:=by
 unfold aK;rw [e];simpa using hk
end Go.Pv
namespace Go.M15
open Go.Pv
structure Nd where
 op:Int
 im:Int
 ks:List Int
 deriving DecidableEq,Inhabited
def okN(n:Nd):Prop:=bR n.op/\bR n.im/\∀k∈n.ks,bR k
def a1G(n:Nd):List Nd->Nat->Option Nat
 | [],_=>none
 |x::r,i=>if n=x then some i else a1G n r (i+1)
def fY(l:List Nd)(n:Nd):List Nd×Int:=match a1G n l 0 with
 |some i=>(l,i)
 |none=>(l++ [n],l.length)
end Go.M15
namespace Go.Pv
open Go.M15
def cN(n:Nd):List IV:=[.int .i64 n.op,.int .i64 n.im,.vslice none 0 n.ks.length 1 (n.ks.map (IV.int .i64))]
theorem gI: ∀{l:List Nd},aN (l.flatMap cN)=true
 | []=>rfl
 |x::r=>by
  rw [h2P,bG,gI,h1L];simp only [cN,aN,bL,cH,h1L]
theorem a8J{l:List Nd}{i j:Nat}(h:i<l.length)(hj:j<3):(l.flatMap cN)[i*3+j]?=(cN l[i])[j]?:=by
 induction l generalizing i with
 |nil=>simp at h
 |cons x r ih=>
  cases i with
  |zero=>
   rw [h2P,h5K,h1Q,h1Z (by exact hj)];rfl
  |succ i=>
   rw [h2P,h1V (by show 3<=_;omega),show(i+1)*3+j- (cN x).length=i*3+j by show(i+1)*3+j-3=_;omega];exact ih (by simpa using h)
theorem a6X{l:List Nd}{i o:Nat}{K:Int->Int->Option Nat->Nat->Nat->List IV->Prop}(h:i<l.length)(ho:o=i*3)(hk:K l[i].op l[i].im none 0 l[i].ks.length (l[i].ks.map (IV.int .i64))):
  aK .i64 (l.flatMap cN) o fun a=>aK .i64 (l.flatMap cN) (o+1) fun b=>bH 1 (l.flatMap cN) (o+1+1) fun p q r s=>K a b p q r s:=by
 subst ho;have e0:=a8J (j:=0) h (by omega);have e1:=a8J (j:=1) h (by omega);have e2:=a8J (j:=2) h (by omega);unfold aK bH
 simp only [h6U]at e0;simp only [h5D,Nat.reduceAdd,e0,e1,e2];exact hk
end Go.Pv
namespace Go.Pv
theorem jY{cs:List IV}{off id:Nat}{K:Nat->Prop}(e:cs[off]?=some (.map id))(hk:K id):qY cs off K:=by
 unfold qY;rw [e];exact hk
theorem sA{sz:Nat}{cs:List IV}{off:Nat}{K:Option Nat->Nat->Nat->List IV->Prop}{i:Option Nat}{a n:Nat}{c:List IV}(e:cs[off]?=some (.vslice i a n sz c))(hk:K i a n c):bH sz cs off K:=by
 unfold bH;rw [e];simpa using hk
theorem eQ{h:Heap}{id:Nat}{d:TypeDesc}{key v:IV}{es:List (IV×IV)}{K:List IV->Prop}{A:Prop}(e:h.get id= .map es)(f:fU d key es=some (some v))(hk:K [v]):fV h id d key K A:=by
 unfold fV;rw [e];simp only [f];exact hk
theorem iV{h:Heap}{id:Nat}{d:TypeDesc}{key:IV}{es:List (IV×IV)}{K:List IV->Prop}{A:Prop}(e:h.get id= .map es)(f:fU d key es=some none)(hk:A):fV h id d key K A:=by
 unfold fV;rw [e];simp only [f];exact hk
theorem gJ{h:Heap}{id:Nat}{d:TypeDesc}{key v:IV}{es es':List (IV×IV)}{K:List (IV×IV)->Prop}(e:h.get id= .map es)(f:oK d key v es=some es')(hk:K es'):kS h id d key v K:=by
 unfold kS;rw [e];simp only [f];exact hk
end Go.Pv
namespace Go.M15
open Go.Pv
def fH(op im:Int)(k:List Int):Int:=
 if oU op=false\/ (k.length:Int)≠ar op\/lB op im=false then 0
 else if op=3 then(if im%16=0 then 2 else 1)
 else if op=26 then 2
 else if op=22 then(if k.getD 0 0≠1\/k.getD 1 0≠k.getD 2 0\/k.getD 1 0=3 then 0 else k.getD 1 0)
 else if op=23 then(if k=[2,1]then 1 else 0)
 else if op=24 then(if k=[2]then 1 else 0)
 else if op=27\/op=29 then(if k=[2,1]then 2 else 0)
 else if op=28 then(if k=[2,1,1]then 2 else 0)
 else if k.all (fun x=>decide (x=1))=true then 1 else 0
def dL(out:List Int)(q:Int):Bool:=decide (0<=q) && (decide (q<out.length) &&decide (out.getD q.toNat 0≠0))
def g0V(out:List Int)(n:Nd):Int:=if n.ks.all (dL out)=true then fH n.op n.im (n.ks.map fun q=>out.getD q.toNat 0)else 0
def sB:List Int->List Nd->List Int
 |out,[]=>out
 |out,n::r=>sB (out++ [g0V out n]) r
def vB(l:List Nd):List Int:=sB [] l
theorem a3D: ∀(l:List Nd)(out:List Int),out<+:sB out l
 | [],out=>h4F _
 |x::l,out=>(h3Y _ _).trans (a3D l _)
theorem a3E: ∀(l r:List Nd)(out:List Int),sB out (l++r)=sB (sB out l) r
 | [],r,out=>rfl
 |x::l,r,out=>by rw [h3E,sB,sB,a3E l r]
theorem c0V{l y:List Nd}(h:l<+:y):vB l<+:vB y:=by
 obtain⟨r,rfl⟩:=h;unfold vB
 rw [a3E];exact a3D _ _
theorem sC{a b:List Int}(h:a<+:b){i:Nat}(hi:i<a.length):b.getD i 0=a.getD i 0:=by
 obtain⟨r,rfl⟩:=h;simp only [h1A,h1Z hi]
def SK(k:List Int)(id idK:Nat)(h:Heap):Prop:=0<k.length/\h.get idK= .tip k.length/\idK<h.next/\idK≠id
theorem a8K{out:List Int}{q:Int}(h:q<0):dL out q=false:=by
 unfold dL
 rw [decide_eq_false (by omega),h3Z]
theorem a8L{out:List Int}{q:Int}(h:(out.length:Int)<=q):dL out q=false:=by
 unfold dL
 rw [decide_eq_false (p:=q<_) (by omega),h3Z,h5M]
theorem a3F{out:List Int}{q:Int}(h:q.toNat<out.length)(hz:out[q.toNat]=0):dL out q=false:=by
 have e:out.getD q.toNat 0=0:=by rw [h1A,h0U h];exact hz
 unfold dL
 rw [e];simp
theorem a0R{out:List Int}{q:Int}(h0:0<=q)(h:q.toNat<out.length)(hz:out[q.toNat]≠0):dL out q=true/\out.getD q.toNat 0=out[q.toNat]:=by
 have e:out.getD q.toNat 0=out[q.toNat]:=by rw [h1A,h0U h];rfl
 unfold dL
 rw [e];refine⟨?_,rfl⟩;simp only [h0Y,decide_eq_true_eq];exact⟨h0,by omega,hz⟩
theorem d0X{op im:Int}{k:List Int}(h:op≠25/\op≠30/\op≠31):oU op=true->(k.length:Int)=ar op->lB op im=true->fH op im k=(if op=3 then(if im%16=0 then 2 else 1)else if op=26 then 2 else if op=22 then(if k.getD 0 0≠1\/k.getD 1 0≠k.getD 2 0\/k.getD 1 0=3 then 0 else k.getD 1 0)
  else if op=23 then(if k=[2,1]then 1 else 0)else if op=24 then(if k=[2]then 1 else 0)else if op=27\/op=29 then(if k=[2,1]then 2 else 0)else if op=28 then(if k=[2,1,1]then 2 else 0)else if k.all (fun x=>decide (x=1))=true then 1 else 0):=by
 intro h1 h2 h3;unfold fH
 rw [if_neg (by simp [h1,h2,h3])]
def c6B(op:Int):Prop:=op=1\/ (4<=op/\op<=22)
def WFN(l:List Nd):Prop:= ∀s∈vB l,s≠0
theorem d0Y{op im:Int}{k:List Int}(ho:c6B op)(hk:(k.length:Int)=ar op)(hi:lB op im=true)(h1: ∀x∈k,x=1):fH op im k=1:=by
 unfold c6B at ho;have ha:oU op=true:=by unfold oU;rw [decide_eq_true_eq];omega
 unfold fH
 rw [if_neg (by simp [ha,hk,hi]),if_neg (by omega),if_neg (by omega)]
 by_cases h22:op=22
 ·subst h22
  have h3:k.length=3:=by have:ar 22=3:=by decide
                         omega
  match k,h3 with
  | [a,b,c],_=>
   have ea:=h1 a (by simp);have eb:=h1 b (by simp);have ec:=h1 c (by simp);subst ea eb ec;rfl
 ·rw [if_neg h22,if_neg (by omega),if_neg (by omega),if_neg (by omega),if_neg (by omega),if_pos];rw [h2L];intro x hx;simp [h1 x hx]
def e8X:List Nd:=[⟨2,0,[]⟩,⟨2,1,[]⟩,⟨26,0,[]⟩]
def NW(i:Nat)(x:List Nd):Prop:=(3<=x.length/\x.length<=3+i)/\(∀n∈x,okN n/\n.ks.length<=3/\(n.op≠25/\n.op≠30/\n.op≠31))/\WFN x/\(e8X<+:x/\x.Nodup/\∀n∈x,n.op≠3)
def KS(x:List Nd)(op:Int)(ks:List Int):Prop:=(ks.length:Int)<=ar op/\∀(i:Nat)(k:Int),ks[i]?=some k->0<=k/\k<x.length/\(vB x).getD k.toNat 0=d4R op i
theorem f2S{op:Int}(h:d4S op=true):1<=op/\op<=29/\op≠25/\0<=ar op:=by
 have:=f2R h;unfold d4S at h;rw [decide_eq_true_eq]at h;omega
theorem NW.has{i:Nat}{x:List Nd}(h:NW i x)(op k:Int):d4R op k∈vB x:=by
 obtain⟨r,hr⟩:=c0V h.2.2.2.1;have:vB e8X=[1,1,2]:=rfl;rw [<-hr,this];unfold d4R
 split<;>simp
theorem KS.nil{x:List Nd}{op:Int}(h:d4S op=true):KS x op []:=⟨(f2S h).2.2.2,fun i k h=>by simp at h⟩
end Go.M15
end
end
