/-
  Texts of this proof, one after the other.
  Conditions: none.
-/
import Derived.Test.YtkonebkblgemkaaGreatW10
set_option linter.unusedVariables false
set_option linter.unusedSimpArgs false
set_option maxRecDepth 100000
set_option maxHeartbeats 4000000
noncomputable section
variable{i j m b:Nat}{x y z u v:Int}{h g:Go.Pv.Heap}{c d l:List Go.Pv.IV}{A B C:List Go.M15.Nd}{K L:Y12}{p s t:Go.Pv.IV}{F:List Go.M10.E}{D:Go.Pv.Meta}{V W:List Go.Value}{T U:Go.TypeId}{o:Bool}{X Y:Go.Value}{G:Go.M10.BSt}{O:Go.Oper}{N:Y10}{H:Array Go.Value}
section
namespace Go.Proofs.YtkonebkblgemkaaGreat
open Go.Pv Go.M15 Go.M10
def d3H(l:List (Y11))(s:Y11):Inv':=eY Nat (fun i=>[(0,.v (.vslice none 0 l.length 1 (l.map IV.str))),(1,.v (.str s)),(5,.v (.int .i64 (i:Int)))]) (fun _=>[]) (fun _=>Heap.empty) (fun i=>i<=l.length/\s∉l.take i) (fun i=>l.length-i)
def a6V(xs:Y14)(h:Heap)(K:KT):Prop:=match xs with
 | [.vslice none 0 m 1 c,.str s]=> ∃l:List (Y11),(m=l.length/\c=l.map IV.str)/\l.length<=1000/\K (.bool (decide (s∈l))) h
 |_=>False
theorem d3I(l:List Bs)(s:Bs)(h:Heap)(Q:KT):dF (aS c5Z) env 201 dL (kR 3 (d3H l s)) bS [.vslice none 0 l.length 1 (l.map IV.str),.str s] h Q=(
 aD (aM [IV.vslice none 0 l.length 1 (List.map IV.str l),IV.str s]) ((∃(x:Nat),some (TV.v (.vslice none 0 l.length 1 (List.map IV.str l)))=some (TV.v (.vslice none 0 l.length 1 (List.map IV.str l)))/\some (TV.v (.str s))=some (TV.v (.str s))/\tI 0=tI (x:Int)/\Heap.mk PT.nil 0=Heap.mk PT.nil 0/\(x<=l.length/\¬s∈List.take x l)/\True)/\∀(x:Nat)(b:FF),x<=l.length/\¬s∈List.take x l->aJ (decide ((x:Int)< (l.length:Int))) (aD (decide (0<=(x:Int)) &&decide ((x:Int)< (l.length:Int))) (bL (List.map IV.str l) ((x:Int).toNat*1) fun(i:Y11)=>aJ (i==s) (Q (.bool true) h) (∃(g:Nat),some (TV.v (.vslice none 0 l.length 1 (List.map IV.str l)))=some (TV.v (.vslice none 0 l.length 1 (List.map IV.str l)))/\some (TV.v (.str s))=some (TV.v (.str s))/\tI (wW ((x:Int)+1))=tI (g:Int)/\Heap.mk PT.nil 0=Heap.mk PT.nil 0/\(g<=l.length/\¬s∈List.take g l)/\l.length-g<l.length-x))) (Q (.bool false) h))):=by kernel_rfl
theorem d3J: ∀xs h Q,a6V xs h Q->aO env 201 xs h Q:=by
 intro xs h Q j;unfold a6V at j;split at j
 ·rename_i m c s;obtain⟨l,⟨rfl,rfl⟩,z,j⟩:=j;refine aN (c0W) (d3I l s h Q) ?_;delta tI wW;refine aA (by simp only [aM,bI,bF,cB,bN,cJ,AT]) ⟨⟨0,IR,IR,IR,IR,⟨AR _,IP⟩,trivial⟩,?_⟩;rintro i _ ⟨hi,u⟩;refine dA (fun c=>?_) (fun c=>?_)
  ·have g:i<l.length:=IM;refine bG IM (gO (b:=l[i]) (by rw [AE,AO,BL,AA g];rfl) (aC (fun p=>?_) (fun p=>⟨i+1,IR,IR,(by(try dsimp only);rw [AB _ IM];rfl),IR,⟨g,?_⟩,IM⟩)))
   ·rw [beq_iff_eq]at p;have e:s∈l:=p▸AG g
    rwa [decide_eq_true e]at j
   ·rw [beq_eq_false_iff_ne]at p;rw [BI g,CB,BO];exact fun q=>q.elim u fun q=>p q.symm
  ·rw [AP IM]at u
   rwa [decide_eq_false u]at j
 ·exact j.elim
def c0X:=aT 201 a6V c5Z
theorem c6A:aP env c0X:=aF d3J (c0W)
def c6B(xs:Y14)(h:Heap)(K:KT):Prop:=match xs with
 | [.str s]=>s∈lT/\K (.bool true) h
 |_=>False
theorem d6L: ∀xs h Q,c6B xs h Q->aO env 198 xs h Q:=by
 intro xs h Q g;unfold c6B at g;split at g
 ·rename_i s;obtain⟨hs,g⟩:=g;simp only [lT,BQ,DF,or_false]at hs;rcases hs with rfl|rfl|rfl|rfl|rfl|rfl|rfl|rfl|rfl<;>exact⟨60,_,h,by kernel_rfl,g⟩
 ·exact g.elim
def c6C:=aT 198 c6B c0X
theorem c0Y:aP env c6C:=aF d6L (c6A)
def c6D(xs:Y14)(h:Heap)(K:KT):Prop:=match xs with
 | [.agg [.vslice none 0 2 2 ac,.vslice none 0 2 9 fc],.str s]=>jY ac fc/\(s=[102] \/s=[103])/\K (.int .i64 (if s=[102]then 0 else 1)) h
 |_=>False
theorem d6M(D G:Int)(z:List S)(K L:Int)(j:Y11)(l:Int)(g:List E)(A:List S)(O T:Int)(p:Y11)(u:Int)(i:List E)(s:Y11)(h:Heap)(Q:KT):dF (aS c6C) env 202 (fun k=>if k=3 then 3 else 0) bS bS [.agg [.vslice none 0 2 2 [.str [97],.int .i64 D,.str [98],.int .i64 G],.vslice none 0 2 9 [.str [102],.vslice none 1 2 1 [.str [120],.str [121]],.vslice none 1 2 1 [.str [105],.str [106]],.vslice none 0 z.length 17 (aY z),.int .i64 K,.int .i64 L,.str j,.int .i64 l,.vslice none 0 g.length 5 (aW g),.str [103],.vslice none 1 1 1 [.str [110]],.vslice none 1 1 1 [.str [105]],.vslice none 0 A.length 17 (aY A),.int .i64 O,.int .i64 T,.str p,.int .i64 u,.vslice none 0 i.length 5 (aW i)]],.str s] h Q=(
 aD (aM [IV.agg [IV.vslice none 0 2 2 [IV.str [97],iI D,IV.str [98],iI G],IV.vslice none 0 2 9 [IV.str [102],IV.vslice none 1 2 1 [IV.str [120],IV.str [121]],IV.vslice none 1 2 1 [IV.str [105],IV.str [106]],IV.vslice none 0 z.length 17 (aY z),iI K,iI L,IV.str j,iI l,IV.vslice none 0 g.length 5 (aW g),IV.str [103],IV.vslice none 1 1 1 [IV.str [110]],IV.vslice none 1 1 1 [IV.str [105]],IV.vslice none 0 A.length 17 (aY A),iI O,iI T,IV.str p,iI u,IV.vslice none 0 i.length 5 (aW i)]],IV.str s]) (aJ ([102]==s) (Q (.int .i64 0) h) (aJ ([103]==s) (Q (.int .i64 1) h) (Q (.int .i64 (-1)) h)))):=by kernel_rfl
theorem d6N: ∀xs h Q,c6D xs h Q->aO env 202 xs h Q:=by
 intro xs h Q g;unfold c6D at g;split at g
 ·rename_i X Y s;obtain⟨⟨G,K,A,⟨L,O,j,l,i⟩,D,⟨T,V,u,z,p⟩,rfl,rfl⟩,hs,g⟩:=g;refine aN (c0Y) (d6M G K A L O j l i D T V u z p s h Q) ?_;delta iI;refine aA (by simp only [aM,bI,bF,cB,bN,cJ,AT]) ?_;rcases hs with rfl|rfl
  ·exact aC (fun _=>g) (fun c=>absurd c IN)
  ·exact aC (fun c=>absurd c IN) (fun _=>aC (fun _=>g) (fun c=>absurd c IN))
 ·exact g.elim
def c6E:=aT 202 c6D c6C
theorem c0Z:aP env c6E:=aF d6N (c0Y)
def a6W(xs:Y14)(h:Heap)(K:KT):Prop:=match xs with
 | [.int .i64 op]=>K (.bool (decide (4<=op/\op<=18))) h
 |_=>False
theorem d3K(op:Int)(h:Heap)(Q:KT):dF (aS c6E) env 220 dL bS bS [.int .i64 op] h Q=(
 aJ (decide (op>=4)) (Q (.bool (decide (op<=18))) h) (Q (.bool false) h)):=by kernel_rfl
theorem d3L: ∀xs h Q,a6W xs h Q->aO env 220 xs h Q:=by
 intro xs h Q g;unfold a6W at g;split at g
 ·rename_i op;refine aN (c0Z) (d3K op h Q) ?_;refine dA (fun c=>fI g ?_) (fun c=>fI g ?_)
  ·congr 1
   rw [decide_eq_decide];omega
  ·congr 1
   rw [decide_eq_false_iff_not];omega
 ·exact g.elim
def a6X:=aT 220 a6W c6E
theorem a6Y:aP env a6X:=aF d3L (c0Z)
def a6Z(xs:Y14)(h:Heap)(K:KT):Prop:=match xs with
 | [.agg [.int .i64 k,.int .i64 n,.str nm,.int .i64 op,.vslice none 0 m 5 c]]=>(k=0/\n=0/\nm=[]/\op=0/\m=0/\c=[])/\K (.bool true) h
 |_=>False
theorem d3M(k n:Int)(nm:Y11)(op:Int)(m:Nat)(c:Y14)(h:Heap)(Q:KT):dF (aS a6X) env 230 dL bS bS [.agg [.int .i64 k,.int .i64 n,.str nm,.int .i64 op,.vslice none 0 m 5 c]] h Q=(
 aD (aM [IV.agg [.int .i64 k,iI n,IV.str nm,iI op,IV.vslice none 0 m 5 c]]) (aJ (k==0) (aJ (n==0) (aJ (nm==[]) (aJ (op==0) (Q (.bool ((m:Int)==0)) h) (Q (.bool false) h)) (Q (.bool false) h)) (Q (.bool false) h)) (Q (.bool false) h))):=by kernel_rfl
theorem d3N: ∀xs h Q,a6Z xs h Q->aO env 230 xs h Q:=by
 intro xs h Q g;unfold a6Z at g;split at g
 ·rename_i k n nm op m c;refine aN (a6Y) (d3M k n nm op m c h Q) ?_;delta iI;obtain⟨⟨rfl,rfl,rfl,rfl,rfl,rfl⟩,g⟩:=g;exact aA rfl g
 ·exact g.elim
def a7A:=aT 230 a6Z a6X
theorem a7B:aP env a7A:=aF d3N (a6Y)
def d3O(k n:Int)(nm:Y11)(op:Int)(ks:List E):Inv':=eY (Nat×Nat) (fun x=>[(1,.l 1 0),(3,.v (.int .i64 (x.2:Int))),(4,.v (.int .i64 (x.1:Int)))]) (fun _=>[(1,[.int .i64 k,.int .i64 n,.str nm,.int .i64 op,.vslice none 0 ks.length 5 (aW ks)])]) (fun _=>Heap.empty) (fun x=>x.1<=ks.length/\x.2=Es.dp (ks.take x.1)) (fun x=>ks.length-x.1)
def Gg(d:Nat)(xs:Y14)(h:Heap)(K:KT):Prop:=match xs with
 | [.agg [.int .i64 k,.int .i64 n,.str nm,.int .i64 op,.vslice none 0 m 5 c]]=> ∃(ks:List E)(f:Int),(m=ks.length/\c=aW ks)/\(Es.dp ks<d/\Es.dp ks<=1000/\ks.length<=3/\Es.wf f ks)/\K (.int .i64 (Es.dp ks:Int)) h
 |_=>False
def P6(k n op:Int)(nm:Y11)(ks:List E):=[iI k,iI n,IV.str nm,iI op,IV.vslice none 0 ks.length 5 (aW ks)]
def Gh:=TV.l 1 0
theorem d3P(j:Nat)(k n:Int)(nm:Y11)(op:Int)(ks:List E)(h:Heap)(Q:KT):dF (aS (aT 197 (Gg j) a7A)) env 197 dL (kR 4 (d3O k n nm op ks)) bS [.agg [.int .i64 k,.int .i64 n,.str nm,.int .i64 op,.vslice none 0 ks.length 5 (aW ks)]] h Q=(
 aD (aM [IV.agg (P6 k n op nm ks)]) ((∃(x:Nat×Nat),some Gh=some Gh/\tI 0=tI (x.2:Int)/\tI 0=tI (x.1:Int)/\some (P6 k n op nm ks)=some (P6 k n op nm ks)/\Heap.mk PT.nil 0=Heap.mk PT.nil 0/\(x.1<=ks.length/\x.2=Es.dp (List.take x.1 ks))/\True)/\∀(x:Nat×Nat)(b:FF),x.1<=ks.length/\x.2=Es.dp (List.take x.1 ks)->aJ (decide ((x.1:Int)< (ks.length:Int))) (aD (decide (0<=(x.1:Int)) &&decide ((x.1:Int)< (ks.length:Int))) (aI .i64 (aW ks) ((x.1:Int).toNat*5) fun A=>aI .i64 (aW ks) (((x.1):Int).toNat*5+1) fun D=>bL (aW ks) ((x.1:Int).toNat*5+1+1) fun(K:Y11)=>aI .i64 (aW ks) ((x.1:Int).toNat*5+1+1+1) fun G=>aX 5 (aW ks) ((x.1:Int).toNat*5+1+1+1+1) fun(z:Y10)(u p:Nat)(l:Y14)=> ∃(g:List E)(f:Int),(p=g.length/\l=aW g)/\(Es.dp g<j/\Es.dp g<=1000/\g.length<=(3:Nat)/\Es.wf f g)/\∃(i:Nat×Nat),some Gh=some Gh/\tI (if wW ((1:Int)+((Es.dp g):Int))>(x.2:Int)then wW ((1:Int)+((Es.dp g):Int))else(x.2:Int))=tI (i.2:Int)/\tI (wW ((x.1:Int)+1))=tI (i.1:Int)/\some (P6 k n op nm ks)=some (P6 k n op nm ks)/\Heap.mk PT.nil 0=Heap.mk PT.nil 0/\(i.1<=ks.length/\i.2=Es.dp (List.take i.1 ks))/\ks.length-i.1<ks.length-x.1)) (Q (.int .i64 (x.2:Int)) h))):=by kernel_rfl
theorem d3Q: ∀d xs h Q,Gg d xs h Q->aO env 197 xs h Q:=by
 intro d
 induction d with
 |zero=>
  intro xs h Q g;unfold Gg at g;split at g
  ·rename_i k n nm op m c;obtain⟨ks,f,⟨rfl,rfl⟩,⟨hd,A,p,z⟩,g⟩:=g;omega
  ·exact g.elim
 |succ dd ih=>
  intro xs h Q g;unfold Gg at g;split at g
  ·rename_i k n nm op m c;obtain⟨ks,f,⟨rfl,rfl⟩,⟨hd,A,p,z⟩,g⟩:=g;refine aN (aF ih (a7B)) (d3P dd k n nm op ks h Q) ?_;delta P6 Gh tI wW iI;refine aA (by simp only [aM,bI,bF,cB,bN,cJ,AT]) ⟨⟨(0,0),IR,IR,IR,IR,IR,⟨AR _,rfl⟩,trivial⟩,?_⟩;rintro⟨i,m⟩ _ ⟨hi,u⟩;dsimp only at hi u⊢;subst u;refine dA (fun c=>?_) (fun c=>?_)
   ·have j:i<ks.length:=IM;refine bG IM (U1 j (by rw [AE]) fun T V D G q e=>?_);have K:=Es.dp_mem (AG j);have h2:ks[i].dp=Es.dp q:=by rw [e];rfl
    have L:=Es.dp_take j;have O:=Es.dp_le (ks:=ks) i;have l:=EW.of (Es.wf_mem z (AG j));rw [e]at l;refine⟨q,f,⟨rfl,rfl⟩,⟨IM,IM,l.1,l.2⟩,(i+1,Es.dp (ks.take (i+1))),IR,?_,(by(try dsimp only);rw [AB _ IM];rfl),IR,IR,⟨j,rfl⟩,IS⟩;dsimp only;rw [AB _ IM]
    congr 3
    split<;>omega
   ·rw [AP IM];exact g
  ·exact g.elim
def a7C:=aT 197 (fun xs h K=> ∃d,Gg d xs h K) a7A
theorem a7D:aP env a7C:=aF (fun xs h Q g=>g.elim fun d g=>d3Q d xs h Q g) (a7B)
def c6F(l:List S)(dp:Nat):Inv':=eY (Nat×Nat×Nat×Nat) (fun x=>[(0,.v (.vslice none 0 l.length 17 (aY l))),(1,.v (.int .i64 (dp:Int))),(7,.v (.int .i64 (x.2.1:Int))),(8,.v (.int .i64 (x.2.2.1:Int))),(9,.v (.int .i64 (x.2.2.2:Int))),(10,.v (.int .i64 (x.1:Int)))]) (fun _=>[]) (fun _=>Heap.empty)
 (fun x=>x.1<=l.length/\x.2.1=Ss.cnt (l.take x.1)/\x.2.2.1=Ss.whl (l.take x.1)/\x.2.2.2=Ss.dp dp (l.take x.1)) (fun x=>l.length-x.1)
def Gi(d:Nat)(xs:Y14)(h:Heap)(K:KT):Prop:=match xs with
 | [.vslice none 0 m 17 c,.int .i64 q]=> ∃(l:List S)(dp:Nat),(m=l.length/\c=aY l/\q=(dp:Int))/\(Ss.cnt l<d/\Ss.cnt l<=1000/\Ss.dp dp l<=1000/\dp+Ss.cnt l<=2000)/\K (.tuple [.int .i64 (Ss.cnt l:Int),.int .i64 (Ss.whl l:Int),.int .i64 (Ss.dp dp l:Int)]) h
 |_=>False
def P7(l:List S)(x:Nat×Nat×Nat×Nat):=decide (0<=(x.1:Int)) &&decide ((x.1:Int)< (l.length:Int))
def Gj(l:List S):=TV.v (.vslice none 0 l.length 17 (aY l))
def lM(x:Nat×Nat×Nat×Nat):=x.2.2
def Gk:=TV.v (.int .i64 0)
def Gl(dp:Nat):=TV.v (.int .i64 (dp:Int))
abbrev a7E(j i:Nat)(g:List M10.S):=Ss.cnt g<j/\Ss.cnt g<=1000/\Ss.dp i g<=1000/\i+Ss.cnt g<=2000
abbrev a7F(j i:Nat)(g:List M10.S):=Ss.cnt g<j/\Ss.cnt g<=1000/\Ss.dp i g<=1000/\i+Ss.cnt g<=2000
def Mv(dp g i:Nat)(l:List S)(p u:List M10.S)(x:Nat×Nat×Nat×Nat)(y0:Int):Prop:= ∃(j:Nat×Nat×Nat×Nat),some (Gj l)=some (Gj l)/\some (Gl dp)=some (Gl dp)/\tI (wW (wW (wW ((x.2.1:Int)+1)+((Ss.cnt p):Int))+((Ss.cnt u):Int)))=tI (j.2.1:Int)/\tI (y0)=tI (j.2.2.1:Int)/\tI (if(if((Ss.dp i u):Int)>(↑(Ss.dp g p)
 :Int)then((Ss.dp i u):Int)else((Ss.dp g p):Int))>if(dp:Int)>(↑((lM x).2):Int)then(dp:Int)else(↑((lM x).2):Int)then if((Ss.dp i u):Int)>((Ss.dp g p):Int)then((Ss.dp i u):Int)else((Ss.dp g p):Int)else if
 (dp:Int)>(↑((lM x).2):Int)then(dp:Int)else(↑((lM x).2):Int))=tI (j.2.2.2:Int)/\tI (wW ((x.1:Int)+1))=tI (j.1:Int)/\Heap.mk PT.nil 0=Heap.mk PT.nil 0/\(j.1<=l.length/\j.2.1=Ss.cnt (List.take j.1 l)/\j.2.2.1=Ss.whl (List.take j.1 l)
 /\j.2.2.2=Ss.dp dp (List.take j.1 l))/\l.length-j.1<l.length-x.1
theorem d3R(u:Nat)(l:List S)(dp:Nat)(h:Heap)(Q:KT):dF (aS (aT 195 (Gi u) a7C)) env 195 dL (kR 4 (c6F l dp)) bS [.vslice none 0 l.length 17 (aY l),.int .i64 (dp:Int)] h Q=(
 aD (aM [IV.vslice none 0 l.length 17 (aY l),iI (dp:Int)]) ((∃(x:Nat×Nat×Nat×Nat),some (Gj l)=some (Gj l)/\some (Gl dp)=some (Gl dp)/\some Gk=tI (x.2.1:Int)/\some Gk=tI (↑((lM x).1):Int)/\some Gk=tI (↑((lM x).2):Int)/\some Gk=tI (x.1:Int)/\Heap.mk PT.nil 0=Heap.mk PT.nil 0/\(x.1<=l.length/\Prod.fst x.2=Ss.cnt (List.take x.1 l)/\Prod.fst (lM x)=Ss.whl (List.take x.1 l)/\Prod.snd (lM x)=Ss.dp dp (List.take x.1 l))/\True)/\∀(x:Nat×Nat×Nat×Nat)(b:FF),x.1<=l.length/\x.2.1=Ss.cnt (List.take x.1 l)/\Prod.fst (lM x)=Ss.whl (List.take x.1 l)/\Prod.snd (lM x)=Ss.dp dp (List.take x.1 l)->aJ (decide ((x.1:Int)< (l.length:Int))) (aD (P7 l x) (aI .i64 (aY l) ((x.1:Int).toNat*17+0) fun(Y:Int)=>aJ (Y==4) (aD (P7 l x) (aX 17 (aY l) ((x.1:Int).toNat*17+15) fun(i1:Y10)(Z V:Nat)(c4:Y14)=> ∃(j:List M10.S)(g:Nat),(V=j.length/\c4=aY j/\wW ((dp:Int)+(1:Int))=(g:Int))/\(a7E u g j)/\aD (P7 l x) (aX 17 (aY l) ((x.1:Int).toNat*17+16) fun(i5:Y10)(e6 X:Nat)(K:Y14)=> ∃(p:List M10.S)(i:Nat),(X=p.length/\K=aY p/\wW ((dp:Int)+1)=(i:Int))/\(a7F u i p)/\Mv dp g i l j p x (wW (wW (wW ((↑((lM x).1):Int)+1)+((Ss.whl j):Int))+((Ss.whl p):Int)))))) (aD (P7 l x) (aX 17 (aY l) ((x.1:Int).toNat*17+15) fun(i9:Y10)(L D:Nat)(z:Y14)=> ∃(j:List M10.S)(g:Nat),(D=j.length/\z=aY j/\wW ((dp:Int)+1)=(g:Int))/\(a7E u g j)/\aD (P7 l x) (aX 17 (aY l) ((x.1:Int).toNat*17+16) fun(T:Y10)(O G:Nat)(A:Y14)=> ∃(p:List M10.S)(i:Nat),(G=p.length/\A=aY p/\wW ((dp:Int)+1)=(i:Int))/\(a7F u i p)/\Mv dp g i l j p x (wW (wW ((↑((lM x).1):Int)+((Ss.whl j):Int))+((Ss.whl p):Int)))))))) (Q (.tuple [.int .i64 (x.2.1:Int),iI (↑((lM x).1):Int),iI (↑((lM x).2):Int)]) h))):=by kernel_rfl
theorem d3S: ∀d xs h Q,Gi d xs h Q->aO env 195 xs h Q:=by
 intro d
 induction d with
 |zero=>
  intro xs h Q j;unfold Gi at j;split at j
  ·rename_i m c q;obtain⟨l,dp,⟨rfl,rfl,rfl⟩,⟨hd,Y,D,G⟩,j⟩:=j;omega
  ·exact j.elim
 |succ dd ih=>
  intro xs h Q j;unfold Gi at j;split at j
  ·rename_i m c q;obtain⟨l,dp,⟨rfl,rfl,rfl⟩,⟨hd,Y,D,G⟩,j⟩:=j;refine aN (aF ih (a7D)) (d3R dd l dp h Q) ?_;delta Mv P7 Gj lM Gk Gl a7E a7F tI wW iI;have lc:=Ss.len_cnt l;refine aA (by simp only [aM,bI,bF,cB,bN,cJ,AT]) ⟨⟨(0,0,0,0),IR,IR,IR,IR,IR,IR,IR,⟨AR _,rfl,rfl,rfl⟩,trivial⟩,?_⟩;rintro⟨i,a,b,m⟩ _ ⟨hi,ha,A,O⟩;dsimp only at hi ha A O⊢;subst ha A O;refine dA (fun c=>?_) (fun c=>?_)
   ·have g:i<l.length:=IM;obtain⟨k,nm,to,n,ak,an,V,X,T,vk,vn,a0,a1,Z,K,p,u,e⟩:=d1K l[i];have h1:=Ss.cnt_mem (AG g);have h2:=Ss.dp_mem (d:=dp) (AG g);have e1:l[i].cnt=1+Ss.cnt p+Ss.cnt u:=by rw [e];rfl
    have e2:l[i].dp dp=max dp (max (Ss.dp (dp+1) p) (Ss.dp (dp+1) u)):=by rw [e];rfl
    have L:l[i].whl=(if k=4 then 1 else 0)+Ss.whl p+Ss.whl u:=by rw [e];rfl
    have t1:=Ss.cnt_take g;have t2:=Ss.whl_take g;have t3:=Ss.dp_take (d:=dp) g;have b1:=Ss.cnt_le (l:=l) (i+1);have b2:=Ss.whl_cnt (l.take i);have b3:=Ss.dp_le (d:=dp) (l:=l) i;have b4:=Ss.whl_cnt p;have b5:=Ss.whl_cnt u;refine bG IM (c3E g e (by rw [AE];rfl) (aC (fun z=>?_) (fun z=>?_)))
    ·rw [beq_iff_eq]at z;rw [if_pos z]at L;refine bG IM (O7 g e (by rw [AE]) ⟨p,dp+1,⟨rfl,rfl,(by rw [AB _ IM];rfl)⟩,⟨IM,IM,IM,IM⟩,bG IM (O8 g e (by rw [AE]) ⟨u,dp+1,⟨rfl,rfl,(by rw [AB _ IM];rfl)⟩,⟨IM,IM,IM,IM⟩,(i+1,Ss.cnt (l.take (i+1)),Ss.whl (l.take (i+1)),Ss.dp dp (l.take (i+1))),IR,IR,?_,?_,?_,(by(try dsimp only);rw [AB _ IM];rfl),IR,⟨g,rfl,rfl,rfl⟩,IS⟩)⟩)
     ·dsimp only;rw [AB (_+1) IM,AB (_+1+_) IM,AB _ IM]
      congr 3
      omega
     ·dsimp only;rw [AB (_+1) IM,AB (_+1+_) IM,AB _ IM]
      congr 3
      omega
     ·dsimp only
      congr 3
      split<;>split<;>split<;>omega
    ·rw [beq_eq_false_iff_ne]at z;rw [if_neg z]at L;refine bG IM (O7 g e (by rw [AE]) ⟨p,dp+1,⟨rfl,rfl,(by rw [AB _ IM];rfl)⟩,⟨IM,IM,IM,IM⟩,bG IM (O8 g e (by rw [AE]) ⟨u,dp+1,⟨rfl,rfl,(by rw [AB _ IM];rfl)⟩,⟨IM,IM,IM,IM⟩,(i+1,Ss.cnt (l.take (i+1)),Ss.whl (l.take (i+1)),Ss.dp dp (l.take (i+1))),IR,IR,?_,?_,?_,(by(try dsimp only);rw [AB _ IM];rfl),IR,⟨g,rfl,rfl,rfl⟩,IS⟩)⟩)
     ·dsimp only;rw [AB (_+1) IM,AB (_+1+_) IM,AB _ IM]
      congr 3
      omega
     ·dsimp only;rw [AB (((Ss.whl (List.take i l):Nat):Int)+((Ss.whl p:Nat):Int)) IM,AB _ IM]
      congr 3
      omega
     ·dsimp only
      congr 3
      split<;>split<;>split<;>omega
   ·rw [AP IM];exact j
  ·exact j.elim
def a7G:=aT 195 (fun xs h K=> ∃d,Gi d xs h K) a7C
theorem a7H:aP env a7G:=aF (fun xs h Q g=>g.elim fun d g=>d3S d xs h Q g) (a7D)
def c1A(l:List S):Inv':=eY Nat (fun i=>[(0,.v (.vslice none 0 l.length 17 (aY l))),(3,.v (.int .i64 (i:Int)))]) (fun _=>[]) (fun _=>Heap.empty) (fun i=>i<=l.length) (fun i=>l.length-i)
def a7I(d:Nat)(xs:Y14)(h:Heap)(K:KT):Prop:=match xs with
 | [.vslice none 0 m 17 c]=> ∃(l:List S)(f:Int),(m=l.length/\c=aY l)/\(Ss.cnt l<d/\Ss.cnt l<=1000/\Ss.wf f l/\Ss.ed 5 l)/\K (.bool false) h
 |_=>False
abbrev P8(d:Nat)(ks:List E)(f:Int):=Es.dp ks<d/\Es.dp ks<=1000/\ks.length<=3/\Es.wf f ks
def Gm(l:List S):=TV.v (.vslice none 0 l.length 17 (aY l))
def P9(ks:List E):=decide (((Es.dp ks):Int)>20)
def Y7(l:List S)(x:Nat):Prop:= ∃(g:Nat),some (Gm l)=some (Gm l)/\tI (wW ((x:Int)+1))=tI (g:Int)/\Heap.mk PT.nil 0=Heap.mk PT.nil 0/\Nat.le g l.length/\l.length-g<l.length-x
theorem d6O(O:Nat)(l:List S)(h:Heap)(Q:KT):dF (aS (aT 196 (a7I O) a7G)) env 196 (fun k=>if k=9 then 3 else 0) (kR 3 (c1A l)) bS [.vslice none 0 l.length 17 (aY l)] h Q=(
 aD (aM [IV.vslice none 0 l.length 17 (aY l)]) ((∃(x:Nat),some (Gm l)=some (Gm l)/\tI 0=tI (x:Int)/\Heap.mk PT.nil 0=Heap.mk PT.nil 0/\Nat.le x l.length/\True)/\∀(x:Nat)(b:FF),x<=l.length->aJ (decide ((x:Int)< (l.length:Int))) (aD (decide (0<=(x:Int)) &&decide ((x:Int)< (l.length:Int))) (aI .i64 (aY l) ((x:Int).toNat*17) fun n0=>bL (aY l) ((x:Int).toNat*(17:Nat)+1) fun(s1:Y11)=>bL (aY l) ((x:Int).toNat*17+1+1) fun(s2:Y11)=>aI .i64 (aY l) ((x:Int).toNat*17+1+1+1) fun n3=>aI .i64 (aY l) ((x:Int).toNat*17+1+1+1+1) fun n4=>aI .i64 (aY l) ((x:Int).toNat*17+1+1+1+1+1) fun n5=>bL (aY l) ((x:Int).toNat*17+1+1+(1:Nat)+1+1+1) fun(s6:Y11)=>aI .i64 (aY l) ((x:Int).toNat*17+1+1+1+1+1+1+1) fun n7=>aX 5 (aY l) ((x:Int).toNat*17+1+(1:Nat)+1+1+1+1+1+1) fun(i8:Y10)(e9 T:Nat)(u:Y14)=>aI .i64 (aY l) ((x:Int).toNat*17+1+1+1+1+1+1+1+1+(1:Nat)) fun b6=>aI .i64 (aY l) ((x:Int).toNat*17+1+1+1+1+1+1+1+1+1+1) fun b7=>bL (aY l) ((x:Int).toNat*17+1+1+(1:Nat)+1+1+1+1+1+1+1+1) fun(d0:Y11)=>aI .i64 (aY l) ((x:Int).toNat*17+1+1+1+1+1+1+1+1+1+(1:Nat)+1+1) fun b9=>aX 5 (aY l) ((x:Int).toNat*17+1+1+1+1+1+1+1+1+1+1+1+1+1) fun(a9:Y10)(a2 V:Nat)(z:Y14)=>aX 5 (aY l) ((x:Int).toNat*17+1+1+1+1+1+1+1+1+1+1+1+1+1+1) fun(b0:Y10)(a3 i:Nat)(g:Y14)=>aX 17 (aY l) ((x:Int).toNat*17+1+1+1+1+1+1+1+1+1+1+1+1+1+1+1) fun(b1:Y10)(a4 X:Nat)(A:Y14)=>aX 17 (aY l) ((x:Int).toNat*17+1+1+1+1+1+1+1+1+1+1+1+1+1+1+1+1) fun(b2:Y10)(a5 Y:Nat)(D:Y14)=> ∃(d:Nat)(ks:List E)(f:Int),(T=ks.length/\u=aW ks)/\(P8 d ks f)/\aJ (P9 ks) (Q (.bool true) h) (∃(d:Nat)(ks:List E)(f:Int),(V=ks.length/\z=aW ks)/\(P8 d ks f)/\aJ (P9 ks) (Q (.bool true) h) (∃(j:List M10.S)(f:Int),(X=j.length/\A=aY j)/\(Ss.cnt j<O/\Ss.cnt j<=1000/\Ss.wf f j/\Ss.ed 5 j)/\∃(p:List M10.S)(f:Int),(Y=p.length/\D=aY p)/\(Ss.cnt p<O/\Ss.cnt p<=1000/\Ss.wf f p/\Ss.ed 5 p)/\aJ (decide (0< (i:Int))) (aD (true&&decide (0< (i:Int))) (aI .i64 g 0 fun c0=>aI .i64 g 1 fun c1=>bL g 2 fun(d1:Y11)=>aI .i64 g 3 fun c2=>aX 5 g 4 fun(b3:Y10)(a6 Z:Nat)(G:Y14)=> ∃(d:Nat)(ks:List E)(f:Int),(Z=ks.length/\G=aW ks)/\(P8 d ks f)/\aJ (P9 ks) (Q (.bool true) h) (aJ (decide (1< (i:Int))) (aD (true&&decide (1< (i:Int))) (aI .i64 g 5 fun c3=>aI .i64 g 6 fun c5=>bL g 7 fun(d2:Y11)=>aI .i64 g 8 fun c6=>aX 5 g 9 fun(b4:Y10)(a7 a0:Nat)(K:Y14)=> ∃(d:Nat)(ks:List E)(f:Int),(a0=ks.length/\K=aW ks)/\(P8 d ks f)/\aJ (P9 ks) (Q (.bool true) h) (aJ (decide (2< (i:Int))) (aD (true&&decide (2< (i:Int))) (aI .i64 g 10 fun c7=>aI .i64 g 11 fun(c8:Int)=>bL g 12 fun(d3:Y11)=>aI .i64 g 13 fun c9=>aX 5 g 14 fun(b5:Y10)(a8 a1:Nat)(L:Y14)=> ∃(d:Nat)(ks:List E)(f:Int),(a1=ks.length/\L=aW ks)/\(P8 d ks f)/\aJ (P9 ks) (Q (.bool true) h) False)) (Y7 l x)))) (Y7 l x)))) (Y7 l x))))) (Q (.bool false) h))):=by kernel_rfl
theorem d6P: ∀d xs h Q,a7I d xs h Q->aO env 196 xs h Q:=by
 intro d
 induction d with
 |zero=>
  intro xs h Q j;unfold a7I at j;split at j
  ·rename_i m c;obtain⟨l,f,⟨rfl,rfl⟩,⟨hd,hb,hw,he⟩,j⟩:=j;omega
  ·exact j.elim
 |succ dd ih=>
  intro xs h Q j;unfold a7I at j;split at j
  ·rename_i m c;obtain⟨l,f,⟨rfl,rfl⟩,⟨hd,hb,hw,he⟩,j⟩:=j;refine aN (aF ih (a7H)) (d6O dd l h Q) ?_;delta Y7 P8 Gm P9 tI wW;have lc:=Ss.len_cnt l;refine aA (by simp only [aM,bI,bF,cB,bN,cJ,AT]) ⟨⟨0,IR,IR,IR,AR _,trivial⟩,?_⟩;rintro i _ hi;refine dA (fun c=>?_) (fun c=>j);have g:i<l.length:=IM;refine bG IM (b4Q g (by rw [AE]) fun k nm to n ak an a0 a1 u vk vn a8 a9 D p th el e=>?_);have h1:=Ss.cnt_mem (AG g);have e1:l[i].cnt=1+Ss.cnt th+Ss.cnt el:=by rw [e];rfl
   have A:=Ss.wf_mem hw (AG g);have z:=Ss.ed_mem he (AG g);rw [e]at A z;obtain⟨hn,L,O⟩:=A;obtain⟨⟨ha,hv,hr⟩,G,K⟩:=z;have a2:Es.dp u<=5:=ha;have a3:Es.dp D<=5:=hv;have h2:=hn.args2;obtain⟨w1,w2,w3⟩:=hn.ew;refine⟨10,u,f,⟨rfl,rfl⟩,⟨IM,IM,w1.1,w1.2⟩,lR IM ⟨10,D,f,⟨rfl,rfl⟩,⟨IM,IM,w2.1,w2.2⟩,lR IM ⟨th,f,⟨rfl,rfl⟩,⟨IM,IM,L,G⟩,el,f,⟨rfl,rfl⟩,⟨IM,IM,O,K⟩,dA (fun Z=>?_) (fun Z=>⟨i+1,IR,(by(try dsimp only);rw [AB _ IM];rfl),IR,g,IM⟩)⟩⟩⟩;have T:0<p.length:=IM;refine aA (by rw [BN,decide_eq_true_eq];exact Z) (U1 (i:=0) T rfl fun k2 n2 a4 a6 q e2=>?_);have q1:Es.dp q<=5:=by have:=hr _ (AG T);rw [e2]at this;exact this
   have X:=EW.of (Es.wf_mem w3 (AG T));rw [e2]at X;refine⟨10,q,f,⟨rfl,rfl⟩,⟨IM,IM,X.1,X.2⟩,lR IM (dA (fun c2=>?_) (fun c2=>⟨i+1,IR,(by(try dsimp only);rw [AB _ IM];rfl),IR,g,IM⟩))⟩;have V:1<p.length:=IM;refine aA (by rw [BN,decide_eq_true_eq];exact c2) (U1 (i:=1) V rfl fun k3 n3 a5 a7 q3 e3=>?_);have q2:Es.dp q3<=5:=by have:=hr _ (AG V);rw [e3]at this;exact this
   have Y:=EW.of (Es.wf_mem w3 (AG V));rw [e3]at Y;exact⟨10,q3,f,⟨rfl,rfl⟩,⟨IM,IM,Y.1,Y.2⟩,lR IM (lR IM ⟨i+1,IR,(by(try dsimp only);rw [AB _ IM];rfl),IR,g,IM⟩)⟩
  ·exact j.elim
def c6G:=aT 196 (fun xs h K=> ∃d,a7I d xs h K) a7G
theorem c1B:aP env c6G:=aF (fun xs h Q g=>g.elim fun d g=>d6P d xs h Q g) (a7H)
def c6H(xs:Y14)(h:Heap)(K:KT):Prop:=match xs with
 | [.agg [.vslice none 0 2 2 ac,.vslice none 0 2 9 fc]]=>oV ac fc/\K (.bool false) h
 |_=>False
def nW:=IV.bool true
abbrev a7J(d dp:Nat)(l:List M10.S):=Ss.cnt l<d/\Ss.cnt l<=1000/\Ss.dp dp l<=1000/\dp+Ss.cnt l<=2000
theorem d6Q(G K:Int)(j:List S)(L O:Int)(u:Y11)(z:Int)(g:List E)(p:List S)(T V:Int)(A:Y11)(D:Int)(i:List E)(h:Heap)(Q:KT):dF (aS c6G) env 142 (fun k=>if k=5 then 3 else if k=10 then 3 else 0) bS bS [.agg [.vslice none 0 2 2 [.str [97],.int .i64 G,.str [98],.int .i64 K],.vslice none 0 2 9 [.str [102],.vslice none 1 2 1 [.str [120],.str [121]],.vslice none 1 2 1 [.str [105],.str [106]],.vslice none 0 j.length 17 (aY j),.int .i64 L,.int .i64 O,.str u,.int .i64 z,.vslice none 0 g.length 5 (aW g),.str [103],.vslice none 1 1 1 [.str [110]],.vslice none 1 1 1 [.str [105]],.vslice none 0 p.length 17 (aY p),.int .i64 T,.int .i64 V,.str A,.int .i64 D,.vslice none 0 i.length 5 (aW i)]]] h Q=(
 aD (aM [IV.agg [.vslice none 0 2 2 [IV.str [97],iI G,IV.str [98],iI K],IV.vslice none 0 2 9 [IV.str [102],IV.vslice none 1 2 1 [IV.str [120],IV.str [121]],IV.vslice none 1 2 1 [IV.str [105],IV.str [106]],IV.vslice none 0 j.length 17 (aY j),iI L,iI O,IV.str u,iI z,IV.vslice none 0 (g.length) 5 (aW g),IV.str [103],IV.vslice none 1 1 1 [IV.str [110]],IV.vslice none 1 1 1 [IV.str [105]],IV.vslice none 0 p.length 17 (aY p),iI T,iI V,IV.str A,iI D,IV.vslice none 0 i.length 5 (aW i)]]]) (aJ (decide (G<1)) (Q nW h) (aJ (decide (G>16)) (Q nW h) (aJ (decide (K<1)) (Q nW h) (aJ (decide (K>16)) (Q nW h) (∃(d:Nat)(l:List M10.S)(dp:Nat),(j.length=l.length/\aY j=aY l/\(0:Int)=(dp:Int))/\(a7J d dp l)/\aJ (decide (((Ss.cnt l):Int)>200)) (Q nW h) (aJ (decide (((Ss.whl l):Int)>16)) (Q nW h) (aJ (decide (((Ss.dp dp l):Int)>20)) (Q nW h) (∃(d:Nat)(l:List M10.S)(f:Int),(j.length=l.length/\aY j=aY l)/\(Ss.cnt l<d/\Ss.cnt l<=1000/\Ss.wf f l/\Ss.ed 5 l)/\∃(d:Nat)(ks:List E)(f:Int),(g.length=ks.length/\aW g=aW ks)/\(Es.dp ks<d/\Es.dp ks<=(1000:Nat)/\ks.length<=3/\Es.wf f ks)/\aJ (decide (((Es.dp ks):Int)>20)) (Q nW h) (∃(d:Nat)(l:List M10.S)(dp:Nat),(p.length=l.length/\aY p=aY l/\(0:Int)=(dp:Int))/\(a7J d dp l)/\aJ (decide (((Ss.cnt l):Int)>200)) (Q nW h) (aJ (decide (((Ss.whl l):Int)>16)) (Q nW h) (aJ (decide (((Ss.dp dp l):Int)>20)) (Q nW h) (∃(d:Nat)(l:List M10.S)(f:Int),(p.length=l.length/\aY p=aY l)/\(Ss.cnt l<d/\Ss.cnt l<=1000/\Ss.wf f l/\Ss.ed 5 l)/\∃(d:Nat)(ks:List E)(f:Int),(i.length=ks.length/\aW i=aW ks)/\(Es.dp ks<d/\Es.dp ks<=1000/\ks.length<=3/\Es.wf f ks)/\aJ (decide (((Es.dp ks):Int)>20)) (Q nW h) (Q (.bool false) h)))))))))))))):=by kernel_rfl
theorem d6R: ∀xs h Q,c6H xs h Q->aO env 142 xs h Q:=by
 intro xs h Q p;unfold c6H at p;split at p
 ·rename_i ac fc;obtain⟨⟨V,X,u,⟨Y,Z,A,D,j⟩,z,⟨wk,wn,G,K,l⟩,T,rfl,rfl⟩,p⟩:=p;refine aN (c1B) (d6Q V X u Y Z A D j z wk wn G K l h Q) ?_;delta nW a7J iI;obtain⟨⟨a1,a2,a3,a4⟩,g,i⟩:=T;have L:=EW.of g.vw;have O:=EW.of i.vw;have x0:=g.cnt;have x1:=g.whl;have x2:=g.dp;have x3:Es.dp j<=5:=g.vd;have y0:=i.cnt;have y1:=i.whl;have y2:=i.dp;have y3:Es.dp l<=5:=i.vd;exact aA (by simp only [aM,bI,bF,cB,bN,cJ,AT]) (lR IM (lR IM (lR IM (lR IM ⟨1000,u,0,⟨rfl,rfl,rfl⟩,⟨IM,IM,IM,IM⟩,lR IM (lR IM (lR IM ⟨1000,u,0,⟨rfl,rfl⟩,⟨IM,IM,g.wf,g.ed⟩,1000,j,0,⟨rfl,rfl⟩,⟨IM,IM,L.1,L.2⟩,lR IM ⟨1000,z,0,⟨rfl,rfl,rfl⟩,⟨IM,IM,IM,IM⟩,lR IM (lR IM (lR IM ⟨1000,z,1,⟨rfl,rfl⟩,⟨IM,IM,i.wf,i.ed⟩,1000,l,1,⟨rfl,rfl⟩,⟨IM,IM,O.1,O.2⟩,lR IM p⟩))⟩⟩))⟩))))
 ·exact p.elim
def c6I:=aT 142 c6H c6G
theorem c1C:aP env c6I:=aF d6R (c1B)
def c6J(k n:Int)(nm:Y11)(op:Int)(ks:List E):Inv':=eY Nat (fun i=>[(1,.l 1 0),(3,.v (.int .i64 (i:Int)))]) (fun _=>[(1,[.int .i64 k,.int .i64 n,.str nm,.int .i64 op,.vslice none 0 ks.length 5 (aW ks)])]) (fun _=>Heap.empty) (fun i=>i<=ks.length) (fun i=>ks.length-i)
def a7K(d:Nat)(xs:Y14)(h:Heap)(K:KT):Prop:=match xs with
 | [.agg [.int .i64 k,.int .i64 n,.str nm,.int .i64 op,.vslice none 0 m 5 c]]=> ∃(ks:List E)(f:Int),(m=ks.length/\c=aW ks)/\(Es.dp ks<d/\E.wf f (.mk k n nm op ks))/\K (.bool true) h
 |_=>False
def Q0(k n op:Int)(nm:Y11)(ks:List E):=[iI k,iI n,IV.str nm,iI op,IV.vslice none 0 ks.length 5 (aW ks)]
def kI:=IV.bool false
def Gn:=TV.l 1 0
def a7L(op:Int)(ks:List E)(h:Heap)(Q:KT):=aJ ((ks.length:Int)==1) (aJ (op==20) (Q (.bool true) h) (Q (.bool (op==21)) h)) (Q kI h)
theorem d6S(j:Nat)(k n:Int)(nm:Y11)(op:Int)(ks:List E)(h:Heap)(Q:KT):dF (aS (aT 200 (a7K j) c6I)) env 200 dL (kR 3 (c6J k n nm op ks)) bS [.agg [.int .i64 k,.int .i64 n,.str nm,.int .i64 op,.vslice none 0 ks.length 5 (aW ks)]] h Q=(
 aD (aM [IV.agg (Q0 k n op nm ks)]) ((∃(x:Nat),some Gn=some Gn/\tI 0=tI (x:Int)/\some (Q0 k n op nm ks)=some (Q0 k n op nm ks)/\Heap.mk PT.nil 0=Heap.mk PT.nil 0/\Nat.le x (ks.length)/\True)/\∀(x:Nat)(b:FF),x<=ks.length->aJ (decide ((x:Int)< (ks.length:Int))) (aD (decide (0<=(x:Int)) &&decide ((x:Int)< (ks.length:Int))) (aI .i64 (aW ks) ((x:Int).toNat*5) fun u=>aI .i64 (aW ks) ((x:Int).toNat*5+1) fun z=>bL (aW ks) ((x:Int).toNat*5+1+1) fun(D:Y11)=>aI .i64 (aW ks) ((x:Int).toNat*5+1+1+1) fun A=>aX 5 (aW ks) ((x:Int).toNat*5+1+1+1+1) fun(K:Y10)(G p:Nat)(l:Y14)=> ∃(g:List E)(f:Int),(p=g.length/\l=aW g)/\(Es.dp g<j/\E.wf f (E.mk u z D A g))/\∃(i:Nat),some Gn=some Gn/\tI (wW ((x:Int)+1))=tI (i:Int)/\some (Q0 k n op nm ks)=some (Q0 k n op nm ks)/\Heap.mk PT.nil 0=Heap.mk PT.nil 0/\Nat.le i ks.length/\ks.length-i<ks.length-x)) (aJ (k==1) (aJ ((ks.length:Int)==0) (aJ (nm==[]) (Q (.bool (op==0)) h) (Q kI h)) (Q kI h)) (aJ (k==2) (aJ ((ks.length:Int)==0) (aJ (n==0) (aJ (op==0) (List.Mem nm lT/\Q (IV.bool true) h) (Q kI h)) (Q kI h)) (Q kI h)) (aJ (k==3) (aJ ((ks.length:Int)==1) (aJ (n==0) (aJ (op==0) (List.Mem nm lT/\Q (.bool true) h) (Q kI h)) (Q kI h)) (Q kI h)) (aJ (k==4) (aJ (n==0) (aJ (nm==[]) (aJ ((ks.length:Int)==2) (aJ (decide (4<=op/\op<=18)) (Q (.bool true) h) (a7L op ks h Q)) (a7L op ks h Q)) (Q kI h)) (Q kI h)) (aJ (k==5) (aJ ((ks.length:Int)==3) (aJ (n==0) (aJ (nm==[]) (Q (.bool (op==0)) h) (Q kI h)) (Q kI h)) (Q kI h)) (Q kI h)))))))):=by kernel_rfl
theorem d6T: ∀d xs h Q,a7K d xs h Q->aO env 200 xs h Q:=by
 intro d
 induction d with
 |zero=>
  intro xs h Q g;unfold a7K at g;split at g
  ·rename_i k n nm op m c;obtain⟨ks,f,⟨rfl,rfl⟩,⟨hd,A⟩,g⟩:=g;omega
  ·exact g.elim
 |succ dd ih=>
  intro xs h Q g;unfold a7K at g;split at g
  ·rename_i k n nm op m c;obtain⟨ks,f,⟨rfl,rfl⟩,⟨hd,A⟩,g⟩:=g;refine aN (aF ih (c1C)) (d6S dd k n nm op ks h Q) ?_;delta Q0 kI Gn a7L tI wW iI;have V:=(EW.of A).1;refine aA (by simp only [aM,bI,bF,cB,bN,cJ,AT]) ⟨⟨0,IR,IR,IR,IR,AR _,trivial⟩,?_⟩;rintro i _ hi;refine dA (fun c=>?_) (fun c=>?_)
   ·have l:i<ks.length:=IM;refine bG IM (U1 l (by rw [AE]) fun X Y L O q e=>?_);have T:=Es.dp_mem (AG l);have h2:ks[i].dp=Es.dp q:=by rw [e];rfl
    have D:=Es.wf_mem A.2 (AG l);rw [e]at D;exact⟨q,f,⟨rfl,rfl⟩,⟨IM,D⟩,i+1,IR,(by(try dsimp only);rw [AB _ IM];rfl),IR,IR,l,IM⟩
   have G:K0 f k n nm op ks.length:=A.1;unfold K0 at G;rcases G with⟨rfl,rfl,rfl,j,_⟩| ⟨rfl,rfl,rfl,j,p⟩| ⟨rfl,rfl,rfl,j,p⟩| ⟨rfl,rfl,rfl,⟨j,u,z⟩| ⟨j,u,z⟩⟩| ⟨rfl,rfl,rfl,rfl,j⟩
   ·exact bt rfl (bt (by rw [j];rfl) (bt rfl g))
   ·exact bf rfl (bt rfl (bt (by rw [j];rfl) (bt rfl (bt rfl ⟨Rr p,g⟩))))
   ·exact bf rfl (bf rfl (bt rfl (bt (by rw [j];rfl) (bt rfl (bt rfl ⟨a1G p,g⟩)))))
   ·exact bf rfl (bf rfl (bf rfl (bt rfl (bt rfl (bt rfl (bt (by rw [j];rfl) (bt (decide_eq_true ⟨u,z⟩) g)))))))
   ·refine bf rfl (bf rfl (bf rfl (bt rfl (bt rfl (bt rfl (bf (by rw [j];rfl) (bt (by rw [j];rfl) ?_)))))));have K:op=20\/op=21:=IM;rcases K with rfl|rfl
    ·exact bt rfl g
    ·exact bf rfl g
   ·exact bf rfl (bf rfl (bf rfl (bf rfl (bt rfl (bt (by rw [j];rfl) (bt rfl (bt rfl g)))))))
  ·exact g.elim
def c6K:=aT 200 (fun xs h K=> ∃d,a7K d xs h K) c6I
theorem c1D:aP env c6K:=aF (fun xs h Q g=>g.elim fun d g=>d6T d xs h Q g) (c1C)
def c6L(xs:Y14)(h:Heap)(K:KT):Prop:=match xs with
 | [.agg [.int .i64 k,.str nm,.str to,.int .i64 n,.int .i64 ak,.int .i64 an,.str anm,.int .i64 aop,.vslice none 0 am 5 ac,.int .i64 vk,.int .i64 vn,.str vnm,.int .i64 vop,.vslice none 0 vm 5 vc,.vslice none 0 m 5 c,.vslice none 0 mt 17 ct,.vslice none 0 ml 17 cl]]=>((nm=[]/\to=[]/\n=0)/\(ak=0/\an=0/\anm=[]/\aop=0/\am=0/\ac=[])/\(m=0/\c=[])/\aM vc=true/\aM ct=true/\aM cl=true)/\K (.bool true) h
 |_=>False
theorem d6U(k n:Int)(nm D:Y11)(u A:Int)(g:Y11)(i:Int)(z:Nat)(p:Y14)(V Y:Int)(j:Y11)(l:Int)(X:Nat)(T:Y14)(m:Nat)(c:Y14)(O:Nat)(K:Y14)(L:Nat)(G:Y14)(h:Heap)(Q:KT):dF (aS c6K) env 231 dL bS bS [.agg [.int .i64 k,.str nm,.str D,.int .i64 n,.int .i64 u,.int .i64 A,.str g,.int .i64 i,.vslice none 0 z 5 p,.int .i64 V,.int .i64 Y,.str j,.int .i64 l,.vslice none 0 X 5 T,.vslice none 0 m 5 c,.vslice none 0 O 17 K,.vslice none 0 L 17 G]] h Q=(
 aD (aM [IV.agg [iI k,IV.str nm,IV.str D,iI n,iI u,iI A,IV.str g,iI i,IV.vslice none 0 z 5 p,iI V,iI Y,IV.str j,iI l,IV.vslice none 0 X 5 T,IV.vslice none 0 m 5 c,IV.vslice none 0 O 17 K,IV.vslice none 0 L 17 G]]) (aJ (nm==[]) (aJ (D==[]) (aJ (n==0) ((u=0/\A=0/\g=[]/\i=0/\z=0/\p=[])/\Q (.bool ((m:Int)==0)) h) (Q (.bool false) h)) (Q (.bool false) h)) (Q (.bool false) h))):=by kernel_rfl
theorem d6V: ∀xs h Q,c6L xs h Q->aO env 231 xs h Q:=by
 intro xs h Q g;unfold c6L at g;split at g
 ·rename_i k nm Y n z D i j A u vk vn l p vm Z m c O K L G;refine aN (c1D) (d6U k n nm Y z D i j A u vk vn l p vm Z m c O K L G h Q) ?_;delta iI;obtain⟨⟨⟨rfl,rfl,rfl⟩,⟨rfl,rfl,rfl,rfl,rfl,rfl⟩,⟨rfl,rfl⟩,T,V,X⟩,g⟩:=g;exact aA (by simp only [aM,bI,T,V,X,AT]) (bt rfl (bt rfl (bt rfl ⟨⟨rfl,rfl,rfl,rfl,rfl,rfl⟩,g⟩)))
 ·exact g.elim
def c6M:=aT 231 c6L c6K
theorem c1E:aP env c6M:=aF d6V (c1D)
def c6N(xs:Y14)(h:Heap)(K:KT):Prop:=match xs with
 | [.agg [.int .i64 k,.str nm,.str to,.int .i64 n,.int .i64 ak,.int .i64 an,.str anm,.int .i64 aop,.vslice none 0 am 5 ac,.int .i64 vk,.int .i64 vn,.str vnm,.int .i64 vop,.vslice none 0 vm 5 vc,.vslice none 0 m 5 c,.vslice none 0 mt 17 ct,.vslice none 0 ml 17 cl]]=> ∃(i j g:List E)(p l:List S)(f:Int),(am=i.length/\ac=aW i/\vm=j.length/\vc=aW j/\m=g.length/\c=aW g/\mt=p.length/\ct=aY p/\ml=l.length/\cl=aY l)/\(jX f k nm to n (.mk ak an anm aop i) (.mk vk vn vnm vop j) g p l/\(E.dp (.mk ak an anm aop i)<=5/\E.dp (.mk vk vn vnm vop j)<=5/\∀x∈g,x.dp<=5))/\K (.bool true) h
 |_=>False
def Tr(k n D G p L O z:Int)(nm K l u:Y11)(j g i:List E)(T A:List S)(h:Heap)(Q:KT):=aJ ((T.length:Int)==0) (aJ (k==1) (aJ ((A.length:Int)==0) (List.Mem nm lT/\aJ (K==[]) (aJ (n==0) ((D=0/\G=0/\l=[]/\p=0/\j.length=0/\aW j=[])/\aJ ((i.length:Int)==0) (∃(d:Nat)(ks:List E)(f:Int),(g.length=ks.length/\aW
 g=aW ks)/\(Es.dp ks<d/\E.wf f (E.mk L O u z ks))/\Q (.bool true) h) (Q (.bool false) h)) (Q (.bool false) h)) (Q (.bool false) h)) (Q (.bool false) h)) (aJ (k==2) (aJ ((A.length:Int)==0) (List.Mem nm lT/\aJ (K==[]) (aJ (n==0) (∃(d:Nat)(ks:List E)(f:Int),
 (j.length=ks.length/\aW j=aW ks)/\(Es.dp ks<d/\E.wf f (E.mk D G l p ks))/\aJ ((i.length:Int)==0) (∃(d:Nat)(ks:List E)(f:Int),(g.length=ks.length/\aW g=aW ks)/\(Es.dp ks<d/\E.wf f (E.mk L O u z ks))/\Q (.bool true) h) (Q (.bool false)
 h)) (Q (.bool false) h)) (Q (.bool false) h)) (Q (.bool false) h)) (aJ (k==3) (((nm=[]/\K=[]/\n=0)/\(D=0/\G=0/\l=[]/\p=0/\j.length=0/\aW j=[])/\(i.length=0/\aW i=[])/\aM (aW g)=true/\aM (aY T)=true/\aM (aY A)=true)/\∃ (d
 :Nat),∃(ks:List E)(f:Int),(g.length=ks.length/\aW g=aW ks)/\(Es.dp ks<d/\E.wf f (E.mk L O u z ks))/\Q (.bool true) h) (aJ (k==4) (((nm=[]/\K=[]/\n=0)/\(D=0/\G=0/\l=[]/\p=0/\j.length=0/\aW j=[])/\(i.length=0/\aW i=
 [])/\aM (aW g)=true/\aM (aY T)=true/\aM (aY A)=true)/\∃(d:Nat)(ks:List E)(f:Int),(g.length=ks.length/\aW g=aW ks)/\(Es.dp ks<d/\E.wf f (E.mk L O u z ks))/\Q (.bool ((A.length:Int)==0)) h) (aJ (k==5) (aJ ((A.length:Int)==0)
 (((nm=[]/\K=[]/\n=0)/\(D=0/\G=0/\l=[]/\p=0/\j.length=0/\aW j=[])/\(i.length=0/\aW i=[])/\aM (aW g)=true/\aM (aY T)=true/\aM (aY A)=true)/\∃(d:Nat)(ks:List E)(f:Int),(g.length=ks.length/\aW g=aW ks)
 /\(Es.dp ks<d/\E.wf f (E.mk L O u z ks))/\Q (.bool true) h) (Q (.bool false) h)) (aJ (k==6) (aJ ((A.length:Int)==0) (List.Mem nm lT/\List.Mem K lT/\aJ (n==0) ((D=0/\G=0/\l=[]/\p=0/\j.length=0/\aW j=[])/\(L=0/\O=0/\u=[]/\z=0/\
 g.length=0/\aW g=[])/\Q (.bool true) h) (Q (.bool false) h)) (Q (.bool false) h)) (aJ (k==7) (aJ ((A.length:Int)==0) (aJ (nm==[]) (aJ (K==[]) (aJ (decide (n>=0)) (aJ (decide (n<=1000000)) ((D=0/\G=0/\l=[]/\p=0/\j.length=0/\aW j=[])/\(L=0
 /\O=0/\u=[]/\z=0/\g.length=0/\aW g=[])/\Q (.bool ((i.length:Int)==0)) h) (Q (.bool false) h)) (Q (.bool false) h)) (Q (.bool false) h)) (Q (.bool false) h)) (Q (.bool false) h)) (Q (.bool false) h)))))))) (aJ (k==1) (Q (.bool false) h) (aJ (k==2) (Q (.bool false)
 h) (aJ (k==3) (((nm=[]/\K=[]/\n=0)/\(D=0/\G=0/\l=[]/\p=0/\j.length=0/\aW j=[])/\(i.length=0/\aW i=[])/\aM (aW g)=true/\aM (aY T)=true/\aM (aY A)=true)/\∃(d:Nat)(ks:List E)(f:Int),(g.length=ks.length/\
 aW g=aW ks)/\(Es.dp ks<d/\E.wf f (E.mk L O u z ks))/\Q (.bool true) h) (aJ (k==4) (((nm=[]/\K=[]/\n=0)/\(D=0/\G=0/\l=[]/\p=0/\j.length=0/\aW j=[])/\(i.length=0/\aW i=[])/\aM (aW g)=true/\aM (aY T)=true/\aM (aY
 A)=true)/\∃(d:Nat)(ks:List E)(f:Int),(g.length=ks.length/\aW g=aW ks)/\(Es.dp ks<d/\E.wf f (E.mk L O u z ks))/\Q (.bool ((A.length:Int)==0)) h) (aJ (k==5) (Q (.bool false) h) (aJ (k==6) (Q (.bool false) h) (aJ (k==7) (Q (.bool false) h) (Q (.bool
 false) h))))))))
theorem d6W(k:Int)(nm L:Y11)(n:Int)(G K:Int)(l:Y11)(p:Int)(i:List E)(O T:Int)(u:Y11)(z:Int)(j:List E)(g:List E)(D A:List S)(h:Heap)(Q:KT):dF (aS c6M) env 219 (fun k=>if k=3 then 3 else 0) bS bS [.agg [.int .i64 k,.str nm,.str L,.int .i64 n,.int .i64 G,.int .i64 K,.str l,.int .i64 p,.vslice none 0 i.length 5 (aW i),.int .i64 O,.int .i64 T,.str u,.int .i64 z,.vslice none 0 j.length 5 (aW j),.vslice none 0 g.length 5 (aW g),.vslice none 0 D.length 17 (aY D),.vslice none 0 A.length 17 (aY A)]] h Q=(
 aD (aM [IV.agg [.int .i64 k,IV.str nm,IV.str L,iI n,iI G,iI K,IV.str l,iI p,IV.vslice none 0 i.length 5 (aW i),iI O,iI T,IV.str u,iI z,IV.vslice none 0 j.length 5 (aW j),IV.vslice none 0 g.length 5 (aW g),IV.vslice none 0 D.length 17 (aY D),IV.vslice none 0 A.length 17 (aY A)]]) (aJ (decide (0< ((g.length):Int))) (aD (true&&decide (0< (g.length:Int))) (aI .i64 (aW g) 0 fun n0=>aI .i64 (aW g) 1 fun n1=>bL (aW g) 2 fun(s2:Y11)=>aI .i64 (aW g) 3 fun n3=>aX 5 (aW g) 4 fun(i4:Y10)(e5 l6:Nat)(c7:Y14)=> ∃(d:Nat)(ks:List E)(f:Int),(l6=ks.length/\c7=aW ks)/\(Es.dp ks<d/\E.wf f (E.mk n0 n1 s2 n3 ks))/\aJ (decide (1< (g.length:Int))) (aD (true&&decide ((1:Int)< (g.length:Int))) (aI .i64 (aW g) 5 fun n8=>aI .i64 (aW g) 6 fun n9=>bL (aW g) 7 fun(a4:Y11)=>aI .i64 (aW g) 8 fun a0=>aX 5 (aW g) 9 fun(a8:Y10)(a6 Y:Nat)(V:Y14)=> ∃(d:Nat)(ks:List E)(f:Int),(Y=ks.length/\V=aW ks)/\(Es.dp ks<d/\E.wf f (E.mk n8 n9 a4 a0 ks))/\aJ (decide (2< (g.length:Int))) (aD (true&&decide (2< (g.length:Int))) (aI .i64 (aW g) 10 fun a1=>aI .i64 (aW g) 11 fun a2=>bL (aW g) 12 fun(a5:Y11)=>aI .i64 (aW g) 13 fun a3=>aX 5 (aW g) 14 fun(a9:Y10)(a7 Z:Nat)(X:Y14)=> ∃(d:Nat)(ks:List E)(f:Int),(Z=ks.length/\X=aW ks)/\(Es.dp ks<d/\E.wf f (E.mk a1 a2 a5 a3 ks))/\False)) (Tr k n G K p O T z nm L l u i j g D A h Q))) (Tr k n G K p O T z nm L l u i j g D A h Q))) (Tr k n G K p O T z nm L l u i j g D A h Q))):=by kernel_rfl
theorem d6X: ∀xs h Q,c6N xs h Q->aO env 219 xs h Q:=by
 intro xs h Q j;unfold c6N at j;split at j
 ·rename_i k nm to n ak an D G am ac vk vn T V vm vc m c mt ct ml cl;obtain⟨A,g,u,th,el,f,⟨rfl,rfl,rfl,rfl,rfl,rfl,rfl,rfl,rfl,rfl⟩,⟨hn,he⟩,j⟩:=j;refine aN (c1E) (d6W k nm to n ak an D G A vk vn T V g u th el h Q) ?_;delta Tr iI;obtain⟨da,dv,Z⟩:=he;have a2:Es.dp A<=5:=da;have a3:Es.dp g<=5:=dv;refine aA (by simp only [aM,bI,bF,cB,bN,cJ,AT]) ?_;unfold jX at hn;rcases hn with⟨rfl,p,rfl,rfl,ha,l,rfl,rfl,rfl⟩| ⟨rfl,p,rfl,rfl,ha,l,rfl,rfl,rfl⟩| ⟨rfl,rfl,rfl,rfl,ha,l,rfl⟩| ⟨rfl,rfl,rfl,rfl,ha,l,rfl,rfl⟩| ⟨rfl,rfl,rfl,rfl,ha,l,rfl,rfl,rfl⟩| ⟨rfl,p,K,rfl,ha,l,z,rfl,rfl⟩| ⟨rfl,rfl,rfl,⟨a4,a5⟩,ha,l,rfl,rfl,rfl⟩
  ·obtain⟨rfl,rfl,rfl,rfl,rfl⟩:=E.mk.inj (ha:E.mk _ _ _ _ _=E.mk 0 0 [] 0 []);exact lR IN (bt rfl (bt rfl (bt rfl ⟨Rr p,bt rfl (bt rfl ⟨⟨rfl,rfl,rfl,rfl,rfl,rfl⟩,bt rfl ⟨1000,g,f,⟨rfl,rfl⟩,⟨IM,l⟩,j⟩⟩)⟩)))
  ·exact lR IN (bt rfl (bf rfl (bt rfl (bt rfl ⟨a1G p,bt rfl (bt rfl ⟨1000,A,f,⟨rfl,rfl⟩,⟨IM,ha⟩,bt rfl ⟨1000,g,f,⟨rfl,rfl⟩,⟨IM,l⟩,j⟩⟩)⟩))))
  ·obtain⟨rfl,rfl,rfl,rfl,rfl⟩:=E.mk.inj (ha:E.mk _ _ _ _ _=E.mk 0 0 [] 0 []);exact lR IN (bx (bf rfl (bf rfl (bt rfl ⟨⟨⟨rfl,rfl,rfl⟩,⟨rfl,rfl,rfl,rfl,rfl,rfl⟩,⟨rfl,rfl⟩,cB _,bN _,bN _⟩,1000,g,f,⟨rfl,rfl⟩,⟨IM,l⟩,j⟩))) (bf rfl (bf rfl (bt rfl ⟨⟨⟨rfl,rfl,rfl⟩,⟨rfl,rfl,rfl,rfl,rfl,rfl⟩,⟨rfl,rfl⟩,cB _,bN _,bN _⟩,1000,g,f,⟨rfl,rfl⟩,⟨IM,l⟩,j⟩))))
  ·obtain⟨rfl,rfl,rfl,rfl,rfl⟩:=E.mk.inj (ha:E.mk _ _ _ _ _=E.mk 0 0 [] 0 []);exact lR IN (bx (bf rfl (bf rfl (bf rfl (bt rfl ⟨⟨⟨rfl,rfl,rfl⟩,⟨rfl,rfl,rfl,rfl,rfl,rfl⟩,⟨rfl,rfl⟩,cB _,bN _,bN _⟩,1000,g,f,⟨rfl,rfl⟩,⟨IM,l⟩,j⟩)))) (bf rfl (bf rfl (bf rfl (bt rfl ⟨⟨⟨rfl,rfl,rfl⟩,⟨rfl,rfl,rfl,rfl,rfl,rfl⟩,⟨rfl,rfl⟩,cB _,bN _,bN _⟩,1000,g,f,⟨rfl,rfl⟩,⟨IM,l⟩,j⟩)))))
  ·obtain⟨rfl,rfl,rfl,rfl,rfl⟩:=E.mk.inj (ha:E.mk _ _ _ _ _=E.mk 0 0 [] 0 []);exact lR IN (bt rfl (bf rfl (bf rfl (bf rfl (bf rfl (bt rfl (bt rfl ⟨⟨⟨rfl,rfl,rfl⟩,⟨rfl,rfl,rfl,rfl,rfl,rfl⟩,⟨rfl,rfl⟩,cB _,bN _,bN _⟩,1000,g,f,⟨rfl,rfl⟩,⟨IM,l⟩,j⟩)))))))
  ·obtain⟨rfl,rfl,rfl,rfl,rfl⟩:=E.mk.inj (ha:E.mk _ _ _ _ _=E.mk 0 0 [] 0 []);obtain⟨rfl,rfl,rfl,rfl,rfl⟩:=E.mk.inj (l:E.mk _ _ _ _ _=E.mk 0 0 [] 0 []);have L:0<u.length:=IM;refine Yl IM (aA (by rw [BN,decide_eq_true_eq];omega) (U1 (i:=0) L rfl fun k2 n2 a6 a8 q e2=>?_));have w4:=Es.wf_mem z (AG L);have X:=Z _ (AG L);rw [e2]at w4 X;have a0:Es.dp q<=5:=X;refine⟨1000,q,f,⟨rfl,rfl⟩,⟨IM,w4⟩,?_⟩;rcases K with⟨rfl,hl⟩| ⟨rfl,hl⟩
   ·have O:1<u.length:=IM;refine Yl IM (aA (by rw [BN,decide_eq_true_eq];omega) (U1 (i:=1) O rfl fun k3 n3 a7 a9 q3 e3=>?_));have w5:=Es.wf_mem z (AG O);have Y:=Z _ (AG O);rw [e3]at w5 Y;have a1:Es.dp q3<=5:=Y;exact⟨1000,q3,f,⟨rfl,rfl⟩,⟨IM,w5⟩,lR IM (bt rfl (bf rfl (bf rfl (bf rfl (bf rfl (bf rfl (bt rfl (bt rfl ⟨Rr p,(by first|decide|exact fE IN),bt rfl ⟨⟨rfl,rfl,rfl,rfl,rfl,rfl⟩,⟨rfl,rfl,rfl,rfl,rfl,rfl⟩,j⟩⟩))))))))⟩
   ·exact lR IM (bt rfl (bf rfl (bf rfl (bf rfl (bf rfl (bf rfl (bt rfl (bt rfl ⟨Rr p,(by first|decide|exact fE IN),bt rfl ⟨⟨rfl,rfl,rfl,rfl,rfl,rfl⟩,⟨rfl,rfl,rfl,rfl,rfl,rfl⟩,j⟩⟩))))))))
  ·obtain⟨rfl,rfl,rfl,rfl,rfl⟩:=E.mk.inj (ha:E.mk _ _ _ _ _=E.mk 0 0 [] 0 []);obtain⟨rfl,rfl,rfl,rfl,rfl⟩:=E.mk.inj (l:E.mk _ _ _ _ _=E.mk 0 0 [] 0 []);exact lR IN (bt rfl (bf rfl (bf rfl (bf rfl (bf rfl (bf rfl (bf rfl (bt rfl (bt rfl (bt rfl (bt rfl (Yl IM (Yl IM ⟨⟨rfl,rfl,rfl,rfl,rfl,rfl⟩,⟨rfl,rfl,rfl,rfl,rfl,rfl⟩,j⟩)))))))))))))
 ·exact j.elim
def c6O:=aT 219 c6N c6M
theorem c1F:aP env c6O:=aF d6X (c1E)
def a7M(d:Nat)(xs:Y14)(h:Heap)(K:KT):Prop:=match xs with
 | [.vslice none 0 m 17 c]=> ∃(l:List S)(f:Int),(m=l.length/\c=aY l)/\(Ss.cnt l<d/\Ss.cnt l<=1000/\Ss.wf f l/\Ss.ed 5 l)/\K (.bool true) h
 |_=>False
def Gp(l:List S):=TV.v (.vslice none 0 l.length 17 (aY l))
theorem d6Y(dd:Nat)(l:List S)(h:Heap)(Q:KT):dF (aS (aT 199 (a7M dd) c6O)) env 199 dL (kR 3 (c1A l)) bS [.vslice none 0 l.length 17 (aY l)] h Q=(
 aD (aM [IV.vslice none 0 l.length 17 (aY l)]) ((∃(x:Nat),some (Gp l)=some (Gp l)/\tI 0=tI (x:Int)/\Heap.mk PT.nil 0=Heap.mk PT.nil 0/\Nat.le x l.length/\True)/\∀(x:Nat)(b:FF),x<=l.length->aJ (decide ((x:Int)< (l.length:Int))) (aD (decide (0<=(x:Int)) &&decide ((x:Int)< (l.length:Int))) (aI .i64 (aY l) ((x:Int).toNat*17) fun n0=>bL (aY l) ((x:Int).toNat*(17:Nat)+1) fun(s1:Y11)=>bL (aY l) ((x:Int).toNat*17+1+1) fun(s2:Y11)=>aI .i64 (aY l) ((x:Int).toNat*17+1+1+1) fun n3=>aI .i64 (aY l) ((x:Int).toNat*17+1+1+1+1) fun n4=>aI .i64 (aY l) ((x:Int).toNat*17+1+1+1+1+1) fun n5=>bL (aY l) ((x:Int).toNat*17+1+1+(1:Nat)+1+1+1) fun(s6:Y11)=>aI .i64 (aY l) ((x:Int).toNat*17+1+1+1+1+1+1+1) fun n7=>aX 5 (aY l) ((x:Int).toNat*17+1+(1:Nat)+1+1+1+1+1+1) fun(i8:Y10)(e9 a0:Nat)(L:Y14)=>aI .i64 (aY l) ((x:Int).toNat*17+1+1+1+1+1+1+1+1+(1:Nat)) fun A=>aI .i64 (aY l) ((x:Int).toNat*17+1+1+1+1+1+1+1+1+1+1) fun D=>bL (aY l) ((x:Int).toNat*17+1+1+(1:Nat)+1+1+1+1+1+1+1+1) fun(K:Y11)=>aI .i64 (aY l) ((x:Int).toNat*17+1+1+1+1+1+1+1+1+1+(1:Nat)+1+1) fun G=>aX 5 (aY l) ((x:Int).toNat*17+1+1+1+1+1+1+1+1+1+1+1+1+1) fun(b3:Y10)(a7 a1:Nat)(O:Y14)=>aX 5 (aY l) ((x:Int).toNat*17+1+1+1+1+1+1+1+1+1+1+1+1+1+1) fun(b4:Y10)(a8 a2:Nat)(T:Y14)=>aX 17 (aY l) ((x:Int).toNat*17+1+1+1+1+1+1+1+1+1+1+1+1+1+1+1) fun(b5:Y10)(a9 a3:Nat)(V:Y14)=>aX 17 (aY l) ((x:Int).toNat*17+1+1+1+1+1+1+1+1+1+1+1+1+1+1+1+1) fun(b6:Y10)(b0 a4:Nat)(X:Y14)=> ∃(p u g:List E)(th el:List M10.S)(f:Int),(a0=p.length/\L=aW p/\a1=u.length/\O=aW u/\a2=g.length/\T=aW g/\a3=th.length/\V=aY th/\a4=el.length/\X=aY el)/\(jX f n0 s1 s2 n3 (E.mk n4 n5 s6 n7 p) (E.mk A D K G u) g th el/\E.dp (E.mk n4 n5 s6 n7 p)<=5/\E.dp (E.mk A D K G u)<=5/\∀(x:E),x∈g->E.dp x<=5)/\aD (decide (0<=(x:Int)) &&decide ((x:Int)< ((l.length):Int))) (aX 17 (aY l) ((x:Int).toNat*17+15) fun(b7:Y10)(b1 a5:Nat)(Y:Y14)=> ∃(i:List M10.S)(f:Int),(a5=i.length/\Y=aY i)/\(Ss.cnt i<dd/\Ss.cnt i<=1000/\Ss.wf f i/\Ss.ed 5 i)/\aD (decide (0<=(x:Int)) &&decide ((x:Int)< (l.length:Int))) (aX 17 (aY l) ((x:Int).toNat*17+16) fun(b9:Y10)(b2 a6:Nat)(Z:Y14)=> ∃(j:List M10.S)(f:Int),(a6=j.length/\Z=aY j)/\(Ss.cnt j<dd/\Ss.cnt j<=1000/\Ss.wf f j/\Ss.ed 5 j)/\∃(z:Nat),some (Gp l)=some (Gp l)/\tI (wW ((x:Int)+1))=tI (z:Int)/\Heap.mk PT.nil 0=Heap.mk PT.nil 0/\Nat.le z l.length/\l.length-z<l.length-x)))) (Q (.bool true) h))):=by kernel_rfl
theorem d6Z: ∀d xs h Q,a7M d xs h Q->aO env 199 xs h Q:=by
 intro d
 induction d with
 |zero=>
  intro xs h Q j;unfold a7M at j;split at j
  ·rename_i m c;obtain⟨l,f,⟨rfl,rfl⟩,⟨hd,hb,Z,Y⟩,j⟩:=j;omega
  ·exact j.elim
 |succ dd ih=>
  intro xs h Q j;unfold a7M at j;split at j
  ·rename_i m c;obtain⟨l,f,⟨rfl,rfl⟩,⟨hd,hb,Z,Y⟩,j⟩:=j;refine aN (aF ih (c1F)) (d6Y dd l h Q) ?_;delta Gp tI wW;have lc:=Ss.len_cnt l;refine aA (by simp only [aM,bI,bF,cB,bN,cJ,AT]) ⟨⟨0,IR,IR,IR,AR _,trivial⟩,?_⟩;rintro i _ hi;refine dA (fun c=>?_) (fun c=>j);have g:i<l.length:=IM;refine bG IM (b4Q g (by rw [AE]) fun k nm to n ak an a0 a1 A vk vn a2 a3 X p V D e=>?_);have h1:=Ss.cnt_mem (AG g);have e1:l[i].cnt=1+Ss.cnt V+Ss.cnt D:=by rw [e];rfl
   have z:=Ss.wf_mem Z (AG g);have u:=Ss.ed_mem Y (AG g);rw [e]at z u;obtain⟨hn,O,T⟩:=z;obtain⟨G,K,L⟩:=u;exact⟨A,X,p,V,D,f,⟨rfl,rfl,rfl,rfl,rfl,rfl,rfl,rfl,rfl,rfl⟩,⟨hn,G⟩,bG IM (O7 g e (by rw [AE]) ⟨V,f,⟨rfl,rfl⟩,⟨IM,IM,O,K⟩,bG IM (O8 g e (by rw [AE]) ⟨D,f,⟨rfl,rfl⟩,⟨IM,IM,T,L⟩,i+1,IR,(by(try dsimp only);rw [AB _ IM];rfl),IR,g,IM⟩)⟩)⟩
  ·exact j.elim
def c6P:=aT 199 (fun xs h K=> ∃d,a7M d xs h K) c6O
theorem c1G:aP env c6P:=aF (fun xs h Q g=>g.elim fun d g=>d6Z d xs h Q g) (c1F)
def c6Q(xs:Y14)(h:Heap)(K:KT):Prop:=match xs with
 | [.agg [.vslice none 0 2 2 ac,.vslice none 0 2 9 fc]]=>oV ac fc/\K (.bool true) h
 |_=>False
theorem d7A(T V:Int)(A:List S)(G K:Int)(j:Y11)(p:Int)(g:List E)(D:List S)(L O:Int)(u:Y11)(z:Int)(i:List E)(h:Heap)(Q:KT):dF (aS c6P) env 143 (fun k=>if k=3 then 3 else if k=8 then 3 else if k=13 then 6 else 0) bS bS [.agg [.vslice none 0 2 2 [.str [97],.int .i64 T,.str [98],.int .i64 V],.vslice none 0 2 9 [.str [102],.vslice none 1 2 1 [.str [120],.str [121]],.vslice none 1 2 1 [.str [105],.str [106]],.vslice none 0 A.length 17 (aY A),.int .i64 G,.int .i64 K,.str j,.int .i64 p,.vslice none 0 g.length 5 (aW g),.str [103],.vslice none 1 1 1 [.str [110]],.vslice none 1 1 1 [.str [105]],.vslice none 0 D.length 17 (aY D),.int .i64 L,.int .i64 O,.str u,.int .i64 z,.vslice none 0 i.length 5 (aW i)]]] h Q=(
 aD (aM [IV.agg [.vslice none 0 2 2 [IV.str [97],iI T,IV.str [98],iI V],IV.vslice none 0 2 9 [IV.str [102],IV.vslice none 1 2 1 [IV.str [120],IV.str [121]],IV.vslice none 1 2 1 [IV.str [105],IV.str [106]],IV.vslice none 0 A.length 17 (aY A),iI G,iI K,IV.str j,iI p,IV.vslice none 0 (g.length) 5 (aW g),IV.str [103],IV.vslice none 1 1 1 [IV.str [110]],IV.vslice none 1 1 1 [IV.str [105]],IV.vslice none 0 D.length 17 (aY D),iI L,iI O,IV.str u,iI z,IV.vslice none 0 i.length 5 (aW i)]]]) (List.Mem [97] lT/\List.Mem [98] lT/\List.Mem [102] lT/\List.Mem [120] lT/\List.Mem [121] lT/\List.Mem [105] lT/\List.Mem [106] lT/\∃(d:Nat)(l:List M10.S)(f:Int),(A.length=l.length/\aY A=aY l)/\(Ss.cnt l<d/\Ss.cnt l<=1000/\Ss.wf f l/\Ss.ed 5 l)/\∃(d:Nat)(ks:List E)(f:Int),(g.length=ks.length/\aW g=aW ks)/\(Es.dp ks<d/\E.wf f (E.mk G K j p ks))/\List.Mem [103] lT/\List.Mem [110] lT/\List.Mem [105] lT/\∃(d:Nat)(l:List M10.S)(f:Int),(D.length=l.length/\aY D=aY l)/\(Ss.cnt l<d/\Ss.cnt l<=1000/\Ss.wf f l/\Ss.ed 5 l)/\∃(d:Nat)(ks:List E)(f:Int),(i.length=ks.length/\aW i=aW ks)/\(Es.dp ks<d/\E.wf f (E.mk L O u z ks))/\Q (.bool true) h)):=by kernel_rfl
theorem d7B: ∀xs h Q,c6Q xs h Q->aO env 143 xs h Q:=by
 intro xs h Q j;unfold c6Q at j;split at j
 ·rename_i ac fc;obtain⟨⟨O,T,G,⟨V,X,u,z,g⟩,K,⟨Y,Z,A,D,i⟩,L,rfl,rfl⟩,j⟩:=j;refine aN (c1G) (d7A O T G V X u z g K Y Z A D i h Q) ?_;delta tI wW iI;obtain⟨_,l,p⟩:=L;have x0:=l.cnt;have x3:Es.dp g<=5:=l.vd;have y0:=p.cnt;have y3:Es.dp i<=5:=p.vd;exact aA (by simp only [aM,bI,bF,cB,bN,cJ,AT]) ⟨(by first|decide|exact fE IN),(by first|decide|exact fE IN),(by first|decide|exact fE IN),(by first|decide|exact fE IN),(by first|decide|exact fE IN),(by first|decide|exact fE IN),(by first|decide|exact fE IN),1000,G,0,⟨rfl,rfl⟩,⟨IM,IM,l.wf,l.ed⟩,1000,g,0,⟨rfl,rfl⟩,⟨IM,l.vw⟩,(by first|decide|exact fE IN),(by first|decide|exact fE IN),(by first|decide|exact fE IN),1000,K,1,⟨rfl,rfl⟩,⟨IM,IM,p.wf,p.ed⟩,1000,i,1,⟨rfl,rfl⟩,⟨IM,p.vw⟩,j⟩
 ·exact j.elim
def c6R:=aT 143 c6Q c6P
theorem c1H:aP env c6R:=aF d7B (c1G)
def c6S(xs:Y14)(h:Heap)(K:KT):Prop:=match xs with
 | [.agg [.vslice none 0 2 2 ac,.vslice none 0 2 9 fc]]=>jY ac fc/\K (.bool false) h
 |_=>False
def qY:=IV.bool true
def vK:Y11:=[97]
def yU:Y11:=[98]
abbrev a7N(l:List (Y11)):=(2:Nat)=l.length/\[IV.str vK,IV.str yU]=List.map IV.str l
theorem d7C(G K:Int)(A:List S)(L O:Int)(j:Y11)(p:Int)(g:List E)(D:List S)(T V:Int)(u:Y11)(z:Int)(i:List E)(h:Heap)(Q:KT):dF (aS c6R) env 144 (fun k=>7) bS bS [.agg [.vslice none 0 2 2 [.str [97],.int .i64 G,.str [98],.int .i64 K],.vslice none 0 2 9 [.str [102],.vslice none 1 2 1 [.str [120],.str [121]],.vslice none 1 2 1 [.str [105],.str [106]],.vslice none 0 A.length 17 (aY A),.int .i64 L,.int .i64 O,.str j,.int .i64 p,.vslice none 0 g.length 5 (aW g),.str [103],.vslice none 1 1 1 [.str [110]],.vslice none 1 1 1 [.str [105]],.vslice none 0 D.length 17 (aY D),.int .i64 T,.int .i64 V,.str u,.int .i64 z,.vslice none 0 i.length 5 (aW i)]]] h Q=(
 aD (aM [IV.agg [.vslice none 0 2 2 [IV.str vK,iI G,IV.str yU,iI K],IV.vslice none 0 2 9 [IV.str [102],IV.vslice none 1 2 1 [IV.str [120],IV.str [121]],IV.vslice none 1 2 1 [IV.str [105],IV.str [106]],IV.vslice none 0 A.length 17 (aY A),iI L,iI O,IV.str j,iI p,IV.vslice none 0 g.length 5 (aW g),IV.str [103],IV.vslice none 1 1 1 [IV.str [110]],IV.vslice none 1 1 1 [IV.str [105]],IV.vslice none 0 D.length 17 (aY D),iI T,iI V,IV.str u,iI z,IV.vslice none 0 i.length 5 (aW i)]]]) (∃(l:List (Y11)),((0:Nat)=l.length/\[]=List.map IV.str l)/\l.length<=1000/\aJ (decide (vK∈l)) (Q qY h) (∃(l:List (Y11)),((1:Nat)=l.length/\[IV.str vK]=List.map IV.str l)/\l.length<=1000/\aJ (decide (yU∈l)) (Q qY h) (∃(l:List (Y11)),((0:Nat)=l.length/\[]=List.map IV.str l)/\l.length<=1000/\aJ (decide ([102] ∈l)) (Q qY h) (∃(l:List (Y11)),(a7N l)/\l.length<=(1000:Nat)/\aJ (decide ([120] ∈l)) (Q qY h) (∃(l:List (Y11)),((3:Nat)=l.length/\[IV.str vK,IV.str yU,IV.str [120]]=List.map IV.str l)/\l.length<=1000/\aJ (decide ([121] ∈l)) (Q qY h) (∃(l:List (Y11)),((4:Nat)=l.length/\[IV.str vK,IV.str yU,IV.str [120],IV.str [121]]=List.map IV.str l)/\l.length<=1000/\aJ (decide ([105] ∈l)) (Q qY h) (∃(l:List (Y11)),((5:Nat)=l.length/\[IV.str vK,IV.str yU,IV.str [(120:UInt8)],IV.str [121],IV.str [105]]=List.map IV.str l)/\l.length<=1000/\aJ (decide ([106] ∈l)) (Q qY h) (∃(l:List (Y11)),((1:Nat)=l.length/\[IV.str [102]]=List.map IV.str l)/\l.length<=1000/\aJ (decide ([103] ∈l)) (Q qY h) (∃(l:List (Y11)),(a7N l)/\l.length<=1000/\aJ (decide ([110] ∈l)) (Q qY h) (∃(l:List (Y11)),((3:Nat)=l.length/\[IV.str vK,IV.str yU,IV.str [110]]=List.map IV.str l)/\l.length<=(1000:Nat)/\aJ (decide ([105] ∈l)) (Q qY h) (Q (.bool false) h)))))))))))):=by kernel_rfl
theorem d7D: ∀xs h Q,c6S xs h Q->aO env 144 xs h Q:=by
 intro xs h Q g;unfold c6S at g;split at g
 ·rename_i X Y;obtain⟨⟨G,K,A,⟨L,O,j,l,i⟩,D,⟨T,V,u,z,p⟩,rfl,rfl⟩,g⟩:=g;refine aN (c1H) (d7C G K A L O j l i D T V u z p h Q) ?_;delta qY vK yU a7N iI;exact aA (by simp only [aM,bI,bF,cB,bN,cJ,AT]) ⟨[],⟨rfl,rfl⟩,(by first|decide|exact fE IN),lR ((by first|decide|exact fE IN)) ⟨[[97]],⟨rfl,rfl⟩,(by first|decide|exact fE IN),lR ((by first|decide|exact fE IN)) ⟨[],⟨rfl,rfl⟩,(by first|decide|exact fE IN),lR ((by first|decide|exact fE IN)) ⟨[[97],[98]],⟨rfl,rfl⟩,(by first|decide|exact fE IN),lR ((by first|decide|exact fE IN)) ⟨[[97],[98],[120]],⟨rfl,rfl⟩,(by first|decide|exact fE IN),lR ((by first|decide|exact fE IN)) ⟨[[97],[98],[120],[121]],⟨rfl,rfl⟩,(by first|decide|exact fE IN),lR ((by first|decide|exact fE IN)) ⟨[[97],[98],[120],[121],[105]],⟨rfl,rfl⟩,(by first|decide|exact fE IN),lR ((by first|decide|exact fE IN)) ⟨[[102]],⟨rfl,rfl⟩,(by first|decide|exact fE IN),lR ((by first|decide|exact fE IN)) ⟨[[97],[98]],⟨rfl,rfl⟩,(by first|decide|exact fE IN),lR ((by first|decide|exact fE IN)) ⟨[[97],[98],[110]],⟨rfl,rfl⟩,(by first|decide|exact fE IN),lR ((by first|decide|exact fE IN)) g⟩⟩⟩⟩⟩⟩⟩⟩⟩⟩
 ·exact g.elim
def c6T:=aT 144 c6S c6R
theorem c1I:aP env c6T:=aF d7D (c1H)
def c6U(f:Int)(g j:Y14)(k n:Int)(nm:Y11)(op:Int)(ks:List E):Inv':=eY Nat (fun i=>[(2,.l 2 0),(3,.l 3 0),(5,.v (.int .i64 (i:Int)))]) (fun _=>[(2,[.vslice none 0 (bM f).length 1 ((bM f).map IV.str),.vslice none 0 2 1 (nK.map IV.str),.vslice none 0 2 2 g,.vslice none 0 2 9 j]),(3,[.int .i64 k,.int .i64 n,.str nm,.int .i64 op,.vslice none 0 ks.length 5 (aW ks)])]) (fun _=>Heap.empty) (fun i=>i<=ks.length) (fun i=>ks.length-i)
def a7O(d:Nat)(xs:Y14)(h:Heap)(K:KT):Prop:=match xs with
 | [.agg [.vslice none 0 nv 1 cv,.vslice none 0 2 1 ca,.vslice none 0 2 2 pa,.vslice none 0 2 9 pf],.agg [.int .i64 k,.int .i64 n,.str nm,.int .i64 op,.vslice none 0 m 5 c]]=> ∃(f:Int)(ks:List E),(nv=(bM f).length/\cv=(bM f).map IV.str/\ca=nK.map IV.str)/\(m=ks.length/\c=aW ks)/\(Es.dp ks<d/\(f=0\/f=1)/\(E.wf f (.mk k n nm op ks) \/ (k=0/\ks=[]))/\aM pa=true/\aM pf=true)/\K (.bool true) h
 |_=>False
def Gq:=[IV.str [97],IV.str [98]]
def Q1(f:Int)(g i:Y14):=[IV.vslice none 0 ((bM f).length) 1 (List.map IV.str (bM f)),IV.vslice none 0 2 1 Gq,IV.vslice none 0 2 2 g,IV.vslice none 0 2 9 i]
def Q2(k n op:Int)(nm:Y11)(ks:List E):=[iI k,iI n,IV.str nm,iI op,IV.vslice none 0 ks.length 5 (aW ks)]
def a7P(k:Int)(nm:Y11)(h:Heap)(Q:KT):=aJ (k !=3) (Q (.bool true) h) (∃(l:List (Y11)),((2:Nat)=l.length/\Gq=List.map IV.str l)/\l.length<=1000/\Q (.bool (decide (nm∈l))) h)
def Gs:=TV.l 2 0
def Gt:=TV.l 3 0
theorem d7E(z:Nat)(f:Int)(j p:Y14)(k n:Int)(nm:Y11)(op:Int)(ks:List E)(h:Heap)(Q:KT):dF (aS (aT 146 (a7O z) c6T)) env 146 dL (kR 3 (c6U f j p k n nm op ks)) bS [.agg [.vslice none 0 (bM f).length 1 ((bM f).map IV.str),.vslice none 0 2 1 (nK.map IV.str),.vslice none 0 2 2 j,.vslice none 0 2 9 p],.agg [.int .i64 k,.int .i64 n,.str nm,.int .i64 op,.vslice none 0 ks.length 5 (aW ks)]] h Q=(
 aD (aM [IV.agg (Q1 f j p),IV.agg (Q2 k n op nm ks)]) ((∃(x:Nat),some Gs=some Gs/\some Gt=some Gt/\tI 0=tI (x:Int)/\some (Q1 f j p)=some (Q1 f j p)/\some (Q2 k n op nm ks)=some (Q2 k n op nm ks)/\Heap.mk PT.nil 0=Heap.mk PT.nil 0/\Nat.le x ks.length/\True)/\∀(x:Nat)(b:FF),x<=ks.length->aJ (decide ((x:Int)< (ks.length:Int))) (aD (decide (0<=(x:Int)) &&decide ((x:Int)< (ks.length:Int))) (aI .i64 (aW ks) ((x:Int).toNat*5) fun A=>aI .i64 (aW ks) ((x:Int).toNat*5+1) fun K=>bL (aW ks) ((x:Int).toNat*5+1+1) fun(O:Y11)=>aI .i64 (aW ks) ((x:Int).toNat*5+1+1+1) fun L=>aX 5 (aW ks) ((x:Int).toNat*5+1+1+1+1) fun(V:Y10)(T G:Nat)(D:Y14)=> ∃(i:Int)(g:List E),((bM f).length=(bM i).length/\List.map IV.str (bM f)=List.map IV.str (bM i)/\Gq=Gq)/\(G=g.length/\D=aW g)/\(Es.dp g<z/\(i=0\/i=1)/\(E.wf i (E.mk A K O L g) \/A=0/\g=[])/\aM j=true/\aM p=true)/\∃(u:Nat),some Gs=some Gs/\some Gt=some Gt/\tI (wW ((x:Int)+1))=tI (u:Int)/\some (Q1 f j p)=some (Q1 f j p)/\some (Q2 k n op nm ks)=some (Q2 k n op nm ks)/\Heap.mk PT.nil 0=Heap.mk PT.nil 0/\Nat.le u ks.length/\ks.length-u<ks.length-x)) (aJ (k !=2) (a7P k nm h Q) (∃(l:List (Y11)),((bM f).length=l.length/\List.map IV.str (bM f)=List.map IV.str l)/\l.length<=1000/\aJ (decide (nm∈l)) (a7P k nm h Q) (Q (.bool false) h))))):=by kernel_rfl
theorem d7F: ∀d xs h Q,a7O d xs h Q->aO env 146 xs h Q:=by
 intro d
 induction d with
 |zero=>
  intro xs h Q g;unfold a7O at g;split at g
  ·rename_i X T O K L k n nm op m c;obtain⟨f,ks,⟨rfl,rfl,rfl⟩,⟨rfl,rfl⟩,⟨hd,hf,j,u,z⟩,g⟩:=g;omega
  ·exact g.elim
 |succ dd ih=>
  intro xs h Q g;unfold a7O at g;split at g
  ·rename_i X T O K L k n nm op m c;obtain⟨f,ks,⟨rfl,rfl,rfl⟩,⟨rfl,rfl⟩,⟨hd,hf,j,u,z⟩,g⟩:=g;refine aN (aF ih (c1I)) (d7E dd f K L k n nm op ks h Q) ?_;delta Q1 Q2 a7P Gs Gt Gq tI wW iI;have h3:ks.length<=3:=by
    rcases j with j| ⟨_,rfl⟩
    ·exact(EW.of j).1
    ·simp
   have A:Es.wf f ks:=by
    rcases j with j| ⟨_,rfl⟩
    ·exact j.2
    ·trivial
   refine aA (by simp only [aM,bI,bF,cB,bN,cJ,AT,u,z]) ⟨⟨0,IR,IR,IR,IR,IR,IR,AR _,trivial⟩,?_⟩;rintro i _ hi;refine dA (fun c=>?_) (fun c=>?_)
   ·have l:i<ks.length:=IM;refine bG IM (U1 l (by rw [AE]) fun k2 n2 V Y q e=>?_);have Z:=Es.dp_mem (AG l);have h2:ks[i].dp=Es.dp q:=by rw [e];rfl
    have D:=Es.wf_mem A (AG l);rw [e]at D;exact⟨f,q,⟨rfl,rfl,rfl⟩,⟨rfl,rfl⟩,⟨IM,hf,.inl D,u,z⟩,i+1,IR,IR,(by(try dsimp only);rw [AB _ IM];rfl),IR,IR,IR,l,IM⟩
   rcases j with j| ⟨rfl,_⟩
   ·have G:K0 f k n nm op ks.length:=j.1;unfold K0 at G;rcases G with⟨rfl,_⟩| ⟨rfl,_,_,_,p⟩| ⟨rfl,_,_,_,p⟩| ⟨rfl,_⟩| ⟨rfl,_⟩
    ·exact bt rfl (bt rfl g)
    ·exact bf rfl ⟨bM f,⟨rfl,rfl⟩,uZ f,Yl p (bt rfl g)⟩
    ·exact bt rfl (bf rfl ⟨nK,⟨rfl,rfl⟩,(by first|decide|exact fE IN),fI g (by rw [decide_eq_true p])⟩)
    ·exact bt rfl (bt rfl g)
    ·exact bt rfl (bt rfl g)
   ·exact bt rfl (bt rfl g)
  ·exact g.elim
def c6V:=aT 146 (fun xs h K=> ∃d,a7O d xs h K) c6T
theorem c1J:aP env c6V:=aF (fun xs h Q g=>g.elim fun d g=>d7F d xs h Q g) (c1I)
def c6W(xs:Y14)(h:Heap)(K:KT):Prop:=match xs with
 | [.agg [.vslice none 0 nv 1 cv,.vslice none 0 2 1 ca,.vslice none 0 2 2 pa,.vslice none 0 2 9 pf],.agg [.int .i64 k,.str nm,.str to,.int .i64 n,.int .i64 ak,.int .i64 an,.str anm,.int .i64 aop,.vslice none 0 am 5 ac,.int .i64 vk,.int .i64 vn,.str vnm,.int .i64 vop,.vslice none 0 vm 5 vc,.vslice none 0 m 5 c,.vslice none 0 mt 17 ct,.vslice none 0 ml 17 cl]]=> ∃(i j g:List E)(p l:List S)(f:Int),(am=i.length/\ac=aW i/\vm=j.length/\vc=aW j/\m=g.length/\c=aW g/\mt=p.length/\ct=aY p/\ml=l.length/\cl=aY l)/\jY pa pf/\(nv=(bM f).length/\cv=(bM f).map IV.str/\ca=nK.map IV.str)/\((f=0\/f=1)/\jX f k nm to n (.mk ak an anm aop i) (.mk vk vn vnm vop j) g p l/\(E.dp (.mk ak an anm aop i)<=5/\E.dp (.mk vk vn vnm vop j)<=5/\∀x∈g,x.dp<=5))/\K (.bool true) h
 |_=>False
def qZ:=[IV.str [97],IV.str [98]]
def Ts(f k:Int)(i j:Y14)(nm g:Y11)(h:Heap)(Q:KT):=aJ (k==6) (∃(l:List (Y11)),((bM f).length=l.length/\List.map IV.str (bM f)=List.map IV.str l)/\l.length<=1000/\aJ (decide (nm∈l)) (jY i j/\(g=[102] \/g=[103])/\Q (.bool (decide ((if g=[102]then(0:Int)else(1:Int))>=0))) h) (Q (.bool false) h)) (aJ
 (k==2) (∃(l:List (Y11)),((2:Nat)=l.length/\qZ=List.map IV.str l)/\l.length<=1000/\Q (.bool (decide (nm∈l))) h) (Q (.bool true) h))
def Tt(f:Int)(nm:Y11)(h:Heap)(Q:KT):=(∃(l:List (Y11)),((bM f).length=l.length/\List.map IV.str (bM f)=List.map IV.str l)/\l.length<=1000/\Q (.bool (decide (nm∈l))) h)
abbrev Tu(f g:Int):=(bM f).length=(bM g).length/\List.map IV.str (bM f)=List.map IV.str (bM g)/\qZ=qZ
abbrev Tv(f g:Int):=(bM f).length=(bM g).length/\List.map IV.str (bM f)=List.map IV.str (bM g)/\qZ=qZ
abbrev a7Q(f g:Int):=(bM f).length=(bM g).length/\List.map IV.str (bM f)=List.map IV.str (bM g)/\qZ=qZ
abbrev Tw(g ks:List E):=g.length=ks.length/\aW g=aW ks
abbrev Ty(g ks:List E):=g.length=ks.length/\aW g=aW ks
theorem d7G(f:Int)(z A:Y14)(k:Int)(nm Z:Y11)(n:Int)(T X:Int)(D:Y11)(G:Int)(p:List E)(V vn:Int)(L:Y11)(O:Int)(u:List E)(g:List E)(th el:List S)(h:Heap)(Q:KT):dF (aS c6V) env 203 (fun k=>if k=3 then 3 else 0) bS bS [.agg [.vslice none 0 (bM f).length 1 ((bM f).map IV.str),.vslice none 0 2 1 (nK.map IV.str),.vslice none 0 2 2 z,.vslice none 0 2 9 A],.agg [.int .i64 k,.str nm,.str Z,.int .i64 n,.int .i64 T,.int .i64 X,.str D,.int .i64 G,.vslice none 0 p.length 5 (aW p),.int .i64 V,.int .i64 vn,.str L,.int .i64 O,.vslice none 0 u.length 5 (aW u),.vslice none 0 g.length 5 (aW g),.vslice none 0 th.length 17 (aY th),.vslice none 0 el.length 17 (aY el)]] h Q=(
 aD (aM [IV.agg [.vslice none 0 ((bM f).length) 1 (List.map IV.str (bM f)),IV.vslice none 0 2 1 qZ,IV.vslice none 0 2 2 z,IV.vslice none 0 2 9 A],IV.agg [.int .i64 k,IV.str nm,IV.str Z,iI n,iI T,iI X,IV.str D,iI G,IV.vslice none 0 p.length 5 (aW p),iI V,iI vn,IV.str L,iI O,IV.vslice none 0 u.length 5 (aW u),IV.vslice none 0 g.length 5 (aW g),IV.vslice none 0 th.length 17 (aY th),IV.vslice none 0 el.length 17 (aY el)]]) (aJ (decide (0< (g.length:Int))) (aD (true&&decide ((0:Int)< (g.length:Int))) (aI .i64 (aW g) 0 fun n0=>aI .i64 (aW g) 1 fun n1=>bL (aW g) 2 fun(s2:Y11)=>aI .i64 (aW g) 3 fun n3=>aX 5 (aW g) 4 fun(i4:Y10)(e5 l6:Nat)(c7:Y14)=> ∃(d:Nat)(l:Int)(ks:List E),(a7Q f l)/\(l6=ks.length/\c7=aW ks)/\(Es.dp ks<d/\(l=0\/l=1)/\(E.wf l (E.mk n0 n1 s2 n3 ks) \/n0=0/\ks=[])/\aM z=true/\aM A=true)/\aJ (decide (1< (g.length:Int))) (aD (true&&decide (1< (g.length:Int))) (aI .i64 (aW g) 5 fun n8=>aI .i64 (aW g) 6 fun n9=>bL (aW g) 7 fun(a7:Y11)=>aI .i64 (aW g) 8 fun a4=>aX 5 (aW g) 9 fun(b1:Y10)(a9 a2:Nat)(a0:Y14)=> ∃(d:Nat)(i:Int)(ks:List E),(Tu f i)/\(a2=ks.length/\a0=aW ks)/\(Es.dp ks<d/\(i=0\/i=1)/\(E.wf i (E.mk n8 n9 a7 a4 ks) \/n8=0/\ks=[])/\aM z=true/\aM A=true)/\aJ (decide (2< (g.length:Int))) (aD (true&&decide (2< (g.length:Int))) (aI .i64 (aW g) 10 fun Y=>aI .i64 (aW g) 11 fun(a5:Int)=>bL (aW g) 12 fun(a8:Y11)=>aI .i64 (aW g) 13 fun a6=>aX 5 (aW g) 14 fun(b2:Y10)(b0 a3:Nat)(a1:Y14)=> ∃(d:Nat)(j:Int)(ks:List E),(Tv f j)/\(a3=ks.length/\a1=aW ks)/\(Es.dp ks<d/\(j=0\/j=1)/\(E.wf j (E.mk Y a5 a8 a6 ks) \/Y=0/\ks=[])/\aM z=true/\aM A=true)/\False)) (∃(d:Nat)(j:Int)(ks:List E),(Tv f j)/\(Tw p ks)/\(Es.dp ks<d/\(j=0\/j=(1:Int))/\(E.wf j (E.mk T X D G ks) \/T=0/\ks=[])/\aM z=true/\aM A=true)/\∃(d:Nat)(K:Int)(ks:List E),((bM f).length=(bM K).length/\List.map IV.str (bM f)=List.map IV.str (bM K)/\qZ=qZ)/\(Ty u ks)/\(Es.dp ks<d/\(K=0\/K=1)/\(E.wf K (E.mk V vn L O ks) \/V=0/\ks=[])/\aM z=true/\aM A=true)/\aJ (k==1) (Tt f nm h Q) (Ts f k z A nm Z h Q)))) (∃(d:Nat)(i:Int)(ks:List E),(Tu f i)/\(Tw p ks)/\(Es.dp ks<d/\(i=0\/i=1)/\(E.wf i (E.mk T X D G ks) \/T=0/\ks=[])/\aM z=true/\aM A=true)/\∃(d:Nat)(j:Int)(ks:List E),(Tv f j)/\(Ty u ks)/\(Es.dp ks<d/\(j=0\/j=1)/\(E.wf j (E.mk V vn L O ks) \/V=0/\ks=[])/\aM z=true/\aM A=true)/\aJ (k==1) (Tt f nm h Q) (Ts f k z A nm Z h Q)))) (∃(d:Nat)(l:Int)(ks:List E),(a7Q f l)/\(Tw p ks)/\(Es.dp ks<d/\(l=0\/l=1)/\(E.wf l (E.mk T X D G ks) \/T=0/\ks=[])/\aM z=true/\aM A=true)/\∃(d:Nat)(i:Int)(ks:List E),(Tu f i)/\(Ty u ks)/\(Es.dp ks<d/\(i=0\/i=1)/\(E.wf i (E.mk V vn L O ks) \/V=0/\ks=[])/\aM z=true/\aM A=true)/\aJ (k==1) (Tt f nm h Q) (Ts f k z A nm Z h Q)))):=by kernel_rfl
theorem d7H: ∀xs h Q,c6W xs h Q->aO env 203 xs h Q:=by
 intro xs h Q A;unfold c6W at A;split at A
 ·rename_i nv cv ca pa pf k nm to n ak an T V am ac vk vn a0 a1 vm vc m c mt ct ml cl;obtain⟨l,p,G,th,el,f,⟨rfl,rfl,rfl,rfl,rfl,rfl,rfl,rfl,rfl,rfl⟩,L,⟨rfl,rfl,rfl⟩,⟨hf,X,he⟩,A⟩:=A;refine aN (c1J) (d7G f pa pf k nm to n ak an T V l vk vn a0 a1 p G th el h Q) ?_;delta Ts qZ Tt Tu Tv a7Q Tw Ty iI;obtain⟨da,dv,dr⟩:=he;have a4:Es.dp l<=5:=da;have a5:Es.dp p<=5:=dv;obtain⟨g,j⟩:=L.pure;obtain⟨u,z,a8⟩:=X.e;refine aA (by simp only [aM,bI,bF,cB,bN,cJ,AT,g,j]) ?_;unfold jX at X;rcases X with⟨rfl,D,rfl,rfl,ha,O,rfl,rfl,rfl⟩| ⟨rfl,D,rfl,rfl,ha,O,rfl,rfl,rfl⟩| ⟨rfl,rfl,rfl,rfl,ha,O,rfl⟩| ⟨rfl,rfl,rfl,rfl,ha,O,rfl,rfl⟩| ⟨rfl,rfl,rfl,rfl,ha,O,rfl,rfl,rfl⟩| ⟨rfl,D,Y,rfl,ha,O,K,rfl,rfl⟩| ⟨rfl,rfl,rfl,⟨a6,a7⟩,ha,O,rfl,rfl,rfl⟩
  ·exact lR ((by first|decide|exact fE IN)) ⟨1000,f,l,⟨rfl,rfl,rfl⟩,⟨rfl,rfl⟩,⟨IM,hf,kH u,g,j⟩,1000,f,p,⟨rfl,rfl,rfl⟩,⟨rfl,rfl⟩,⟨IM,hf,kH z,g,j⟩,bt rfl ⟨bM f,⟨rfl,rfl⟩,uZ f,fI A (by rw [decide_eq_true D])⟩⟩
  ·exact lR ((by first|decide|exact fE IN)) ⟨1000,f,l,⟨rfl,rfl,rfl⟩,⟨rfl,rfl⟩,⟨IM,hf,kH u,g,j⟩,1000,f,p,⟨rfl,rfl,rfl⟩,⟨rfl,rfl⟩,⟨IM,hf,kH z,g,j⟩,bf rfl (bf rfl (bt rfl ⟨nK,⟨rfl,rfl⟩,(by first|decide|exact fE IN),fI A (by rw [decide_eq_true D])⟩))⟩
  ·exact lR ((by first|decide|exact fE IN)) ⟨1000,f,l,⟨rfl,rfl,rfl⟩,⟨rfl,rfl⟩,⟨IM,hf,kH u,g,j⟩,1000,f,p,⟨rfl,rfl,rfl⟩,⟨rfl,rfl⟩,⟨IM,hf,kH z,g,j⟩,bf rfl (bf rfl (bf rfl A))⟩
  ·exact lR ((by first|decide|exact fE IN)) ⟨1000,f,l,⟨rfl,rfl,rfl⟩,⟨rfl,rfl⟩,⟨IM,hf,kH u,g,j⟩,1000,f,p,⟨rfl,rfl,rfl⟩,⟨rfl,rfl⟩,⟨IM,hf,kH z,g,j⟩,bf rfl (bf rfl (bf rfl A))⟩
  ·exact lR ((by first|decide|exact fE IN)) ⟨1000,f,l,⟨rfl,rfl,rfl⟩,⟨rfl,rfl⟩,⟨IM,hf,kH u,g,j⟩,1000,f,p,⟨rfl,rfl,rfl⟩,⟨rfl,rfl⟩,⟨IM,hf,kH z,g,j⟩,bf rfl (bf rfl (bf rfl A))⟩
  ·have Z:0<G.length:=IM;refine Yl IM (aA (by rw [BN,decide_eq_true_eq];omega) (U1 (i:=0) Z rfl fun k2 n2 a9 b1 q e2=>?_));have w4:=Es.wf_mem K (AG Z);have d4:=dr _ (AG Z);rw [e2]at w4 d4;have a2:Es.dp q<=5:=d4;refine⟨1000,f,q,⟨rfl,rfl,rfl⟩,⟨rfl,rfl⟩,⟨IM,hf,.inl w4,g,j⟩,?_⟩;rcases Y with⟨rfl,hl⟩| ⟨rfl,hl⟩
   ·have l1:1<G.length:=IM;refine Yl IM (aA (by rw [BN,decide_eq_true_eq];omega) (U1 (i:=1) l1 rfl fun k3 n3 b0 b2 q3 e3=>?_));have w5:=Es.wf_mem K (AG l1);have d5:=dr _ (AG l1);rw [e3]at w5 d5;have a3:Es.dp q3<=5:=d5;exact⟨1000,f,q3,⟨rfl,rfl,rfl⟩,⟨rfl,rfl⟩,⟨IM,hf,.inl w5,g,j⟩,lR IM ⟨1000,f,l,⟨rfl,rfl,rfl⟩,⟨rfl,rfl⟩,⟨IM,hf,kH u,g,j⟩,1000,f,p,⟨rfl,rfl,rfl⟩,⟨rfl,rfl⟩,⟨IM,hf,kH z,g,j⟩,bf rfl (bt rfl ⟨bM f,⟨rfl,rfl⟩,uZ f,Yl D ⟨L,.inl rfl,A⟩⟩)⟩⟩
   ·exact lR IM ⟨1000,f,l,⟨rfl,rfl,rfl⟩,⟨rfl,rfl⟩,⟨IM,hf,kH u,g,j⟩,1000,f,p,⟨rfl,rfl,rfl⟩,⟨rfl,rfl⟩,⟨IM,hf,kH z,g,j⟩,bf rfl (bt rfl ⟨bM f,⟨rfl,rfl⟩,uZ f,Yl D ⟨L,.inr rfl,A⟩⟩)⟩
  ·exact lR ((by first|decide|exact fE IN)) ⟨1000,f,l,⟨rfl,rfl,rfl⟩,⟨rfl,rfl⟩,⟨IM,hf,kH u,g,j⟩,1000,f,p,⟨rfl,rfl,rfl⟩,⟨rfl,rfl⟩,⟨IM,hf,kH z,g,j⟩,bf rfl (bf rfl (bf rfl A))⟩
 ·exact A.elim
def c6X:=aT 203 c6W c6V
theorem c1K:aP env c6X:=aF d7H (c1J)
def c6Y(f:Int)(g j:Y14)(l:List S)(b:Bool):Inv':=eY Nat (fun i=>[(1,.v (.vslice none 0 l.length 17 (aY l))),(2,.v (.bool b)),(3,.l 3 0),(7,.v (.int .i64 (i:Int)))]) (fun _=>[(3,[.vslice none 0 (bM f).length 1 ((bM f).map IV.str),.vslice none 0 2 1 (nK.map IV.str),.vslice none 0 2 2 g,.vslice none 0 2 9 j])]) (fun _=>Heap.empty) (fun i=>i<=l.length) (fun i=>l.length-i)
def a7R(d:Nat)(xs:Y14)(h:Heap)(K:KT):Prop:=match xs with
 | [.agg [.vslice none 0 nv 1 cv,.vslice none 0 2 1 ca,.vslice none 0 2 2 pa,.vslice none 0 2 9 pf],.vslice none 0 m 17 c,.bool b]=> ∃(l:List S)(f:Int),jY pa pf/\(m=l.length/\c=aY l)/\(nv=(bM f).length/\cv=(bM f).map IV.str/\ca=nK.map IV.str)/\((f=0\/f=1)/\Ss.cnt l<d/\Ss.cnt l<=1000/\Ss.wf f l/\Ss.ed 5 l)/\K (.bool true) h
 |_=>False
def yV:=[IV.str [97],IV.str [98]]
def Q3(f:Int)(g i:Y14):=[IV.vslice none 0 ((bM f).length) 1 (List.map IV.str (bM f)),IV.vslice none 0 2 1 yV,IV.vslice none 0 2 2 g,IV.vslice none 0 2 9 i]
abbrev Tz(f g:Int):=(bM f).length=(bM g).length/\List.map IV.str (bM f)=List.map IV.str (bM g)/\yV=yV
abbrev Ua(f g:Int):=(bM f).length=(bM g).length/\List.map IV.str (bM f)=List.map IV.str (bM g)/\yV=yV
def Gu(l:List S):=TV.v (.vslice none 0 l.length 17 (aY l))
def Gv:=TV.l 3 0
abbrev a7S(j:Nat)(g:List M10.S)(i:Int):=(i=0\/i=1)/\Ss.cnt g<j/\Ss.cnt g<=1000/\Ss.wf i g/\Ss.ed 5 g
abbrev a7T(j:Nat)(g:List M10.S)(i:Int):=(i=0\/i=1)/\Ss.cnt g<j/\Ss.cnt g<=1000/\Ss.wf i g/\Ss.ed 5 g
def Y8(b:Bool)(f:Int)(l:List S)(i j:Y14)(x:Nat):Prop:= ∃(g:Nat),some (Gu l)=some (Gu l)/\some (TV.v (.bool b))=some (TV.v (.bool b))/\some Gv=some Gv/\tI (wW ((x:Int)+1))=tI (g:Int)/\some (Q3 f i j)=some (Q3 f i j)/\Heap.mk PT.nil 0=Heap.mk PT.nil 0/\Nat.le g l.length/\l.length-g<l.length-x
theorem d7I(X:Nat)(f:Int)(z u:Y14)(l:List S)(b:Bool)(h:Heap)(Q:KT):dF (aS (aT 145 (a7R X) c6X)) env 145 dL (kR 3 (c6Y f z u l b)) bS [.agg [.vslice none 0 (bM f).length 1 ((bM f).map IV.str),.vslice none 0 2 1 (nK.map IV.str),.vslice none 0 2 2 z,.vslice none 0 2 9 u],.vslice none 0 l.length 17 (aY l),.bool b] h Q=(
 aD (aM [IV.agg (Q3 f z u),IV.vslice none 0 l.length 17 (aY l),IV.bool b]) ((∃(x:Nat),some (Gu l)=some (Gu l)/\some (TV.v (.bool b))=some (TV.v (.bool b))/\some Gv=some Gv/\tI 0=tI (x:Int)/\some (Q3 f z u)=some (Q3 f z u)/\Heap.mk PT.nil 0=Heap.mk PT.nil 0/\Nat.le x l.length/\True)/\∀(x:Nat)(b0:FF),x<=l.length->aJ (decide ((x:Int)< (l.length:Int))) (aD (decide (0<=(x:Int)) &&decide ((x:Int)< (l.length:Int))) (aI .i64 (aY l) ((x:Int).toNat*17) fun n0=>bL (aY l) ((x:Int).toNat*17+1) fun(s1:Y11)=>bL (aY l) ((x:Int).toNat*17+1+1) fun(Y:Y11)=>aI .i64 (aY l) ((x:Int).toNat*17+1+1+1) fun n3=>aI .i64 (aY l) ((x:Int).toNat*17+1+1+1+1) fun n4=>aI .i64 (aY l) ((x:Int).toNat*(17:Nat)+1+1+1+1+1) fun n5=>bL (aY l) ((x:Int).toNat*17+1+1+1+1+1+1) fun(s6:Y11)=>aI .i64 (aY l) ((x:Int).toNat*17+(1:Nat)+1+1+1+1+1+1) fun n7=>aX 5 (aY l) ((x:Int).toNat*17+1+1+1+1+1+1+1+1) fun(i8:Y10)(e9 a7:Nat)(a4:Y14)=>aI .i64 (aY l) ((x:Int).toNat*17+1+1+1+1+1+1+1+1+1) fun a0=>aI .i64 (aY l) ((x:Int).toNat*17+1+1+1+1+(1:Nat)+1+1+1+1+1) fun a1=>bL (aY l) ((x:Int).toNat*17+1+1+1+1+1+1+1+1+1+1+1) fun(a3:Y11)=>aI .i64 (aY l) ((x:Int).toNat*17+1+1+1+1+1+1+1+1+1+1+1+1) fun a2=>aX 5 (aY l) ((x:Int).toNat*17+1+1+(1:Nat)+1+1+1+1+1+1+1+1+1+1) fun(b7:Y10)(b2 a8:Nat)(a5:Y14)=>aX 5 (aY l) ((x:Int).toNat*17+1+1+1+1+(1:Nat)+1+1+1+1+1+1+1+1+1) fun(b9:Y10)(b3 Z:Nat)(a6:Y14)=>aX 17 (aY l) ((x:Int).toNat*17+1+1+1+1+1+1+(1:Nat)+1+1+1+1+1+1+1+1) fun(c0:Y10)(b4 O:Nat)(K:Y14)=>aX 17 (aY l) ((x:Int).toNat*17+1+1+1+1+1+1+(1:Nat)+1+1+1+1+1+1+1+1+1) fun(c1:Y10)(b5 T:Nat)(L:Y14)=>aJ b (aJ (n0==6) (jY z u/\(Y=[102] \/Y=[103])/\aD (decide (0<=if Y=[(102:UInt8)]then(0:Int)else(1:Int)) &&decide ((if Y=[102]then(0:Int)else(1:Int))<2)) (aX 1 u (Int.toNat (if Y=[102]then(0:Int)else(1:Int))*9+1) fun(c2:Y10)(b6 a9:Nat)(b1:Y14)=>aJ ((Z:Int) !=(a9:Int)) (Q (.bool false) h) (∃(g:List M10.S)(j:Int),jY z u/\(O=g.length/\K=aY g)/\(Tz f j)/\(a7S X g j)/\∃(i:List M10.S)(p:Int),jY z u/\(T=i.length/\L=aY i)/\(Ua f p)/\(a7T X i p)/\Y8 b f l z u x))) (∃(g:List M10.S)(j:Int),jY z u/\(O=g.length/\K=aY g)/\(Tz f j)/\(a7S X g j)/\∃(i:List M10.S)(p:Int),jY z u/\(T=i.length/\L=aY i)/\(Ua f p)/\(a7T X i p)/\Y8 b f l z u x)) (∃(G V A:List E)(th el:List M10.S)(j:Int),(a7=G.length/\a4=aW G/\a8=V.length/\a5=aW V/\Z=A.length/\a6=aW A/\O=th.length/\K=aY th/\T=el.length/\L=aY el)/\jY z u/\(Tz f j)/\((j=0\/j=1)/\jX j n0 s1 Y n3 (E.mk n4 n5 s6 n7 G) (E.mk a0 a1 a3 a2 V) A th el/\E.dp (E.mk n4 n5 s6 n7 G)<=5/\E.dp (E.mk a0 a1 a3 a2 V)<=5/\∀(x:E),x∈A->E.dp x<=5)/\∃(g:List M10.S)(p:Int),jY z u/\(O=g.length/\K=aY g)/\(Ua f p)/\((p=0\/p=1)/\Ss.cnt g<X/\Ss.cnt g<=1000/\Ss.wf p g/\Ss.ed 5 g)/\∃(i:List M10.S)(D:Int),jY z u/\(T=i.length/\L=aY i)/\((bM f).length=(bM D).length/\List.map IV.str (bM f)=List.map IV.str (bM D)/\yV=yV)/\((D=0\/D=1)/\Ss.cnt i<X/\Ss.cnt i<=1000/\Ss.wf D i/\Ss.ed 5 i)/\Y8 b f l z u x))) (Q (.bool true) h))):=by kernel_rfl
theorem d7J: ∀d xs h Q,a7R d xs h Q->aO env 145 xs h Q:=by
 intro d
 induction d with
 |zero=>
  intro xs h Q p;unfold a7R at p;split at p
  ·rename_i nv cv ca pa V m c b;obtain⟨l,f,g,⟨rfl,rfl⟩,⟨rfl,rfl,rfl⟩,⟨hf,hd,hb,hw,he⟩,p⟩:=p;omega
  ·exact p.elim
 |succ dd ih=>
  intro xs h Q p;unfold a7R at p;split at p
  ·rename_i nv cv ca pa V m c b;obtain⟨l,f,g,⟨rfl,rfl⟩,⟨rfl,rfl,rfl⟩,⟨hf,hd,hb,hw,he⟩,p⟩:=p;refine aN (aF ih (c1K)) (d7I dd f pa V l b h Q) ?_;delta Y8 Q3 yV Tz Ua Gu Gv a7S a7T tI wW;have lc:=Ss.len_cnt l;obtain⟨a0,a1⟩:=g.pure;refine aA (by simp only [aM,bI,bF,cB,bN,cJ,AT,a0,a1]) ⟨⟨0,IR,IR,IR,IR,IR,IR,AR _,trivial⟩,?_⟩;rintro i _ hi;refine dA (fun c=>?_) (fun c=>p);have j:i<l.length:=IM;refine bG IM (b4Q j (by rw [AE]) fun k nm to n ak an a4 a5 X vk vn a6 a7 a3 u L K e=>?_);have h1:=Ss.cnt_mem (AG j);have e1:l[i].cnt=1+Ss.cnt L+Ss.cnt K:=by rw [e];rfl
   have T:=Ss.wf_mem hw (AG j);have O:=Ss.ed_mem he (AG j);rw [e]at T O;obtain⟨hn,D,G⟩:=T;obtain⟨Y,z,A⟩:=O;refine bx (aC (fun c6=>?_) (fun c6=>⟨L,f,g,⟨rfl,rfl⟩,⟨rfl,rfl,rfl⟩,⟨hf,IM,IM,D,z⟩,K,f,g,⟨rfl,rfl⟩,⟨rfl,rfl,rfl⟩,⟨hf,IM,IM,G,A⟩,i+1,IR,IR,IR,(by(try dsimp only);rw [AB _ IM];rfl),IR,IR,j,IM⟩)) ⟨X,a3,u,L,K,f,⟨rfl,rfl,rfl,rfl,rfl,rfl,rfl,rfl,rfl,rfl⟩,g,⟨rfl,rfl,rfl⟩,⟨hf,hn,Y⟩,L,f,g,⟨rfl,rfl⟩,⟨rfl,rfl,rfl⟩,⟨hf,IM,IM,D,z⟩,K,f,g,⟨rfl,rfl⟩,⟨rfl,rfl,rfl⟩,⟨hf,IM,IM,G,A⟩,i+1,IR,IR,IR,(by(try dsimp only);rw [AB _ IM];rfl),IR,IR,j,IM⟩;rw [beq_iff_eq]at c6;have a2:(to=[102]/\u.length=2) \/ (to=[103]/\u.length=1):=by
    unfold jX at hn;rcases hn with h|h|h|h|h|h|h
    ·omega
    ·omega
    ·omega
    ·omega
    ·omega
    ·exact h.2.2.1
    ·omega
   rcases a2 with⟨rfl,Z⟩| ⟨rfl,Z⟩
   ·refine⟨g,.inl rfl,aA rfl ?_⟩;have hx:V[Int.toNat (if([102]:Y11)=[102]then 0 else 1)*9+1]?=some (.vslice none 1 2 1 [.str [120],.str [121]]):=by
     obtain⟨la,lb,b0,v0,b1,v1,rfl,rfl⟩:=g;rfl
    exact eF hx (bf (by rw [Z];rfl) ⟨L,f,g,⟨rfl,rfl⟩,⟨rfl,rfl,rfl⟩,⟨hf,IM,IM,D,z⟩,K,f,g,⟨rfl,rfl⟩,⟨rfl,rfl,rfl⟩,⟨hf,IM,IM,G,A⟩,i+1,IR,IR,IR,(by(try dsimp only);rw [AB _ IM];rfl),IR,IR,j,IM⟩)
   ·refine⟨g,.inr rfl,aA rfl ?_⟩;have hx:V[Int.toNat (if([103]:Y11)=[102]then 0 else 1)*9+1]?=some (.vslice none 1 1 1 [.str [110]]):=by
     obtain⟨la,lb,b0,v0,b1,v1,rfl,rfl⟩:=g
     cases v0
     rfl
    exact eF hx (bf (by rw [Z];rfl) ⟨L,f,g,⟨rfl,rfl⟩,⟨rfl,rfl,rfl⟩,⟨hf,IM,IM,D,z⟩,K,f,g,⟨rfl,rfl⟩,⟨rfl,rfl,rfl⟩,⟨hf,IM,IM,G,A⟩,i+1,IR,IR,IR,(by(try dsimp only);rw [AB _ IM];rfl),IR,IR,j,IM⟩)
  ·exact p.elim
def c6Z:=aT 145 (fun xs h K=> ∃d,a7R d xs h K) c6X
theorem c1L:aP env c6Z:=aF (fun xs h Q g=>g.elim fun d g=>d7J d xs h Q g) (c1K)
def a7U(xs:Y14)(h:Heap)(K:KT):Prop:=match xs with
 | [.agg [.vslice none 0 2 2 ac,.vslice none 0 2 9 fc]]=>oV ac fc/\K (.int .i64 0) h
 |_=>False
def F0(z A:List S)(D G l K L u:Int)(j p:Y11)(g i:List E):=[IV.str [102],IV.vslice none 1 2 1 [IV.str [120],IV.str [121]],IV.vslice none 1 2 1 [IV.str [105],IV.str [106]],IV.vslice none 0 z.length 17 (aY z),iI D,iI G,IV.str j,iI l,IV.vslice none 0 g.length 5 (aW g),IV.str [103],IV.vslice none 1 1 1 [IV.str [110]],IV.vslice none 1 1
 1 [IV.str [105]],IV.vslice none 0 A.length 17 (aY A),iI K,iI L,IV.str p,iI u,IV.vslice none 0 i.length 5 (aW i)]
def F3(g i:Int):=[IV.str [97],iI g,IV.str [98],iI i]
abbrev b6Q(f:Int):=(4:Nat)=(bM f).length/\[IV.str [120],IV.str [121],IV.str [105],IV.str [106]]=List.map IV.str (bM f)/\[IV.str [97],IV.str [98]]=[IV.str [97],IV.str [98]]
abbrev b6R(f:Int):=(2:Nat)=(bM f).length/\[IV.str [110],IV.str [105]]=List.map IV.str (bM f)/\[IV.str [97],IV.str [98]]=[IV.str [97],IV.str [98]]
abbrev a7V(d:Nat)(l:List M10.S)(f:Int):=(f=0\/f=1)/\Ss.cnt l<d/\Ss.cnt l<=1000/\Ss.wf f l/\Ss.ed 5 l
theorem d3T(T V:Int)(A:List S)(G L:Int)(j:Y11)(p:Int)(g:List E)(D:List S)(K O:Int)(u:Y11)(z:Int)(i:List E)(h:Heap)(Q:KT):dF (aS c6Z) env 76 (fun k=>3) bS bS [.agg [.vslice none 0 2 2 [.str [97],.int .i64 T,.str [98],.int .i64 V],.vslice none 0 2 9 [.str [102],.vslice none 1 2 1 [.str [120],.str [121]],.vslice none 1 2 1 [.str [105],.str [106]],.vslice none 0 A.length 17 (aY A),.int .i64 G,.int .i64 L,.str j,.int .i64 p,.vslice none 0 g.length 5 (aW g),.str [103],.vslice none 1 1 1 [.str [110]],.vslice none 1 1 1 [.str [105]],.vslice none 0 D.length 17 (aY D),.int .i64 K,.int .i64 O,.str u,.int .i64 z,.vslice none 0 i.length 5 (aW i)]]] h Q=(
 aD (aM [IV.agg [.vslice none 0 2 2 (F3 T V),IV.vslice none 0 2 9 (F0 A D G L p K O z j u g i)]]) (oV (F3 T V) (F0 A D G L p K O z j u g i)/\oV (F3 T V) (F0 A D G L p K O z j u g i)/\jY (F3 T V) (F0 A D G L p K O z j u g i)/\∃(d:Nat)(l:List M10.S)(f:Int),jY (F3 T V) (F0 A D G L p K O z j u g i)/\(A.length=l.length/\aY A=aY l)/\(b6Q f)/\(a7V d l f)/\∃(d:Nat)(f:Int)(ks:List E),(b6Q f)/\(g.length=ks.length/\aW g=aW ks)/\(Es.dp ks<d/\(f=0\/f=1)/\(E.wf f (E.mk G L j p ks) \/G=0/\ks=[])/\aM (F3 T V)=true/\aM (F0 A D G L p K O z j u g i)=true)/\∃(d:Nat)(l:List M10.S)(f:Int),jY (F3 T V) (F0 A D G L p K O z j u g i)/\(D.length=l.length/\aY D=aY l)/\(b6R f)/\(a7V d l f)/\∃(d:Nat)(f:Int)(ks:List E),(b6R f)/\(i.length=ks.length/\aW i=aW ks)/\(Es.dp ks<d/\(f=0\/f=1)/\(E.wf f (E.mk K O u z ks) \/K=0/\ks=[])/\aM (F3 T V)=true/\aM (F0 A D G L p K O z j u g i)=true)/\∃(d:Nat)(l:List M10.S)(f:Int),jY (F3 T V) (F0 A D G L p K O z j u g i)/\(A.length=l.length/\aY A=aY l)/\(b6Q f)/\(a7V d l f)/\∃(d:Nat)(l:List M10.S)(f:Int),jY (F3 T V) (F0 A D G L p K O z j u g i)/\(D.length=l.length/\aY D=aY l)/\(b6R f)/\(a7V d l f)/\Q (.int .i64 0) h)):=by kernel_rfl
theorem d3U: ∀xs h Q,a7U xs h Q->aO env 76 xs h Q:=by
 intro xs h Q j;unfold a7U at j;split at j
 ·rename_i ac fc;have D:=j.1;obtain⟨⟨Y,Z,G,⟨uk,un,L,O,l⟩,K,⟨wk,wn,T,V,p⟩,X,rfl,rfl⟩,j⟩:=j;refine aN (c1L) (d3T Y Z G uk un L O l K wk wn T V p h Q) ?_;delta F0 F3 b6Q b6R a7V iI;obtain⟨u,z⟩:=D.q.pure;have A:=D.q;obtain⟨_,g,i⟩:=X;have x0:=g.cnt;have x3:Es.dp l<=5:=g.vd;have y0:=i.cnt;have y3:Es.dp p<=5:=i.vd;have w1:=EW.of g.vw;refine aA (by simp only [aM,bI,bF,cB,bN,cJ,AT]) ⟨D,D,A,1000,G,0,A,⟨rfl,rfl⟩,⟨rfl,rfl,rfl⟩,⟨.inl rfl,IM,IM,g.wf,g.ed⟩,1000,0,l,⟨rfl,rfl,rfl⟩,⟨rfl,rfl⟩,⟨IM,.inl rfl,.inl g.vw,u,z⟩,
   1000,K,1,A,⟨rfl,rfl⟩,⟨rfl,rfl,rfl⟩,⟨.inr rfl,IM,IM,i.wf,i.ed⟩,1000,1,p,⟨rfl,rfl,rfl⟩,⟨rfl,rfl⟩,⟨IM,.inr rfl,.inl i.vw,u,z⟩,
   1000,G,0,A,⟨rfl,rfl⟩,⟨rfl,rfl,rfl⟩,⟨.inl rfl,IM,IM,g.wf,g.ed⟩,1000,K,1,A,⟨rfl,rfl⟩,⟨rfl,rfl,rfl⟩,⟨.inr rfl,IM,IM,i.wf,i.ed⟩,j⟩
 ·exact j.elim
def a7W:=aT 76 a7U c6Z
theorem a7X:aP env a7W:=aF d3U (c1L)
def d3V(op im:Int)(ks:Y12)(u p:Int)(g:Y12):Inv':=eY Nat (fun i=>[(2,.l 2 0),(3,.l 3 0),(5,.v (.int .i64 i))]) (fun _=>[(2,[.int .i64 op,.int .i64 im,.vslice none 0 ks.length 1 (ks.map (IV.int .i64))]),(3,[.int .i64 u,.int .i64 p,.vslice none 0 g.length 1 (g.map (IV.int .i64))])]) (fun _=>Heap.empty)
 (fun i=>(ks.length=g.length/\i<=ks.length)/\∀j,j<i->ks[j]?=g[j]?) (fun i=>ks.length-i)
def vL(xs:Y14)(h:Heap)(K:KT):Prop:=match xs with
 | [.agg [.int .i64 op,.int .i64 im,.vslice none e1 n1 1 c1],.agg [.int .i64 op2,.int .i64 im2,.vslice none e2 n2 1 c2]]=> ∃ks ks2:Y12,(n1=ks.length/\c1=ks.map (IV.int .i64))/\(n2=ks2.length/\c2=ks2.map (IV.int .i64))/\ks.length<=1000000000/\K (.bool (decide ((⟨op,im,ks⟩:Nd)=⟨op2,im2,ks2⟩))) h
 |_=>False
def Xo(op im:Int)(ks:Y12):=[iI op,iI im,IV.vslice none 0 ks.length 1 (List.map (IV.int .i64) ks)]
def Xp(j i:Int)(g:Y12):=[iI j,iI i,IV.vslice none 0 g.length 1 (List.map (IV.int .i64) g)]
def a7Y:=TV.l 2 0
def a7Z:=TV.l 3 0
def c7A(ks g:Y12)(x:Nat):=((ks.length=g.length/\x<=ks.length)/\∀(j:Nat),j<x->ks[j]?=g[j]?)
theorem b6S(op im l i:Int)(ks g:Y12)(u z:Nat)(h:Heap)(Q:KT):dF (aS a7W) env 50 dL (kR 5 (d3V op im ks l i g)) bS [.agg [.int .i64 op,.int .i64 im,.vslice none u ks.length 1 (ks.map (IV.int .i64))],.agg [.int .i64 l,.int .i64 i,.vslice none z g.length 1 (g.map (IV.int .i64))]] h Q=(
 aD (aM [IV.agg (Xo op im ks),IV.agg (Xp l i g)]) (aJ (op !=l) (Q (.bool false) h) (aJ (im !=i) (Q (.bool false) h) (aJ ((ks.length:Int) !=(g.length:Int)) (Q (.bool false) h) ((∃(x:Nat),some a7Y=some a7Y/\some a7Z=some a7Z/\some (TV.v (iI 0))=tI (x:Int)/\some (Xo op im ks)=some (Xo op im ks)/\some (Xp l i g)=some (Xp l i g)/\Heap.mk PT.nil 0=Heap.mk PT.nil 0/\(c7A ks g x)/\True)/\∀(x:Nat)(b:FF),(c7A ks g x)->aJ (decide ((x:Int)< (ks.length:Int))) (aD (decide (0<=(x:Int)) &&decide ((x:Int)< (ks.length:Int))) (aI .i64 (List.map (IV.int .i64) ks) ((x:Int).toNat*1) fun A=>aD (decide (0<=(x:Int)) &&decide ((x:Int)< (g.length:Int))) (aI .i64 (List.map (IV.int .i64) g) ((x:Int).toNat*1) fun D=>aJ (A !=D) (Q (.bool false) h) (∃(p:Nat),some a7Y=some a7Y/\some a7Z=some a7Z/\tI (wW ((x:Int)+1))=tI (p:Int)/\some (Xo op im ks)=some (Xo op im ks)/\some (Xp l i g)=some (Xp l i g)/\Heap.mk PT.nil 0=Heap.mk PT.nil 0/\((ks.length=g.length/\p<=ks.length)/\∀(j:Nat),j<p->ks[j]?=g[j]?)/\ks.length-p<ks.length-x)))) (Q (.bool true) h)))))):=by kernel_rfl
theorem Y9: ∀xs h Q,vL xs h Q->aO env 50 xs h Q:=by
 intro xs h Q D;unfold vL at D;split at D
 ·rename_i op im T n1 u p l V n2 K;obtain⟨ks,g,⟨rfl,rfl⟩,⟨rfl,rfl⟩,hb,D⟩:=D;refine aN (a7X) (b6S op im p l ks g T V h Q) ?_;delta Xo Xp a7Y a7Z c7A tI wW iI;have Z: ∀x:Nat,(x:Int).toNat=x:=AE
  have fin: ∀b:Bool,(b=true ↔ (op=p/\im=l/\ks=g))->Q (.bool b) h:=fun b e=>by
   have:b=decide ((⟨op,im,ks⟩:Nd)=⟨p,l,g⟩):=by
    rw [ER,e,decide_eq_true_eq,Nd.mk.injEq]
   rw [this];exact D
  have G: ¬ (op=p/\im=l/\ks=g)->Q (.bool false) h:=fun e=>fin false ⟨fun q=>(by cases q),fun q=>absurd q e⟩
  refine aA (by simp only [aM,bI,bT,AT]) (aC (fun c=>G (fun e=>bne_iff_ne.1 c e.1)) (fun u=>aC (fun c=>G (fun e=>bne_iff_ne.1 c e.2.1)) (fun K=>aC (fun c=>G (fun e=>bne_iff_ne.1 c (by rw [e.2.2]))) (fun O=>?_))));rw [bne_eq_false_iff_eq]at u K O;subst u K;have L:ks.length=g.length:=IM;refine⟨⟨0,rfl,rfl,rfl,rfl,rfl,rfl,⟨⟨L,AR _⟩,fun j X=>IM⟩,trivial⟩,?_⟩;rintro i _ ⟨⟨Y,hi⟩,ha⟩
  try dsimp only at hi ha⊢
  refine aC (fun c=>?_) (fun c=>?_)
  ·rw [decide_eq_true_eq]at c;have A:i<ks.length:=IM;have z:i<g.length:=IM;simp only [Z];rw [AO];refine aA (by simp;omega) (cT A (aA (by simp;omega) (cT z (aC (fun u=>G (fun e=>?_)) (fun u=>⟨i+1,IR,IR,?_,IR,IR,IR,⟨⟨L,A⟩,fun j X=>?_⟩,by(try dsimp only);omega⟩)))))
   ·have e:=e.2.2;subst e;simp at u
   ·rw [AB _ IM];rfl
   ·rcases BC j i with q|q
    ·exact ha j q
    ·obtain rfl:j=i:=IM;rw [bne_eq_false_iff_eq]at u;rw [AA A,AA z,u]
  ·rw [decide_eq_false_iff_not]at c;refine fin true ⟨fun _=>⟨rfl,rfl,DL fun j=>?_⟩,fun _=>rfl⟩;rcases BC j i with q|q
   ·exact ha j q
   ·rw [BG IM,BG IM]
 ·exact D.elim
def Z0:=aT 50 vL a7W
theorem Gw:aP env Z0:=aF Y9 (a7X)
def d3W(id:Nat)(op im:Int)(g:Nat)(j:Y14)(p:PSt)(h:Heap):Inv':= .or
 (eY Nat (fun i=>[(0,.v (.ptr id 0)),(9,.l 9 0),(10,.v (.int .i64 (i:Int)))]) (fun _=>[(9,[.int .i64 op,.int .i64 im,.vslice none 1 0 1 []])]) (fun _=>h) (fun i=>g=0/\PuI p op im i) (fun i=>p.ns.length-i))
 (eY Nat (fun i=>[(0,.v (.ptr id 0)),(9,.l 9 0),(10,.v (.int .i64 (i:Int)))]) (fun _=>[(9,[.int .i64 op,.int .i64 im,.vslice (some h.next) g g 1 j])]) (fun _=>h.push (.tip g)) (fun i=>PuI p op im i) (fun i=>p.ns.length-i))
def c7B(xs:Y14)(h:Heap)(K:KT):Prop:=match xs with
 | [.ptr id 0,.int .i64 op,.int .i64 im,.vslice none 0 kn 1 kc]=> ∃p:PSt,bE h id p op im kn kc/\∀(v:Int)(h2:Heap),aQ h id p op im v h2->K (.int .i64 v) h2
 |_=>False
def Xq(op im:Int):=[iI op,iI im,IV.vslice none 0 0 1 []]
def Xr(op im:Int)(i:Nat)(g:Y14):=[iI op,iI im,IV.vslice none 0 i 1 g]
def a8A(op im:Int)(i:Nat)(g:Y14)(h:Heap):=[IV.vslice (some (h.next+1)) 3 1 3 (Xr op im i g)]
def kU(g:Nat)(h:Heap):=h.push (IObj.tip g)
def Z1(g:Nat)(h:Heap):=(kU g h).push (IObj.tip 3)
def a8B(op im:Int)(h:Heap):=[IV.vslice (some (h.next)) 3 1 3 (Xq op im)]
def Z2(op im:Int):=[iI op,iI im,IV.vslice none 1 0 1 []]
def rA:=iI (-1)
def Z3(h:Heap):=h.push (IObj.tip 3)
def rB:=TV.l 9 0
def Mw(op im:Int)(g:Nat)(i:Y14)(h:Heap):=[iI op,iI im,IV.vslice (some (h.next)) g g 1 i]
def rC(id:Nat):=TV.v (.ptr id 0)
def b6T(id p l j:Nat)(op im:Int)(h:Heap)(i g:Y14):=(h.set p (IObj.tip (l+3))).set id (IObj.cells (List.take 2 g++ [IV.vslice (some p) (l+3) (j+1) 3 (i++(Xq op im))]++List.drop 3 g))
def b6U(id i g p:Nat)(op im:Int)(h:Heap)(l j:Y14):=(h.set i (IObj.tip (g+3))).set id (IObj.cells (List.take 2 j++ [IV.vslice (some i) (g+3) (p+1) 3 (l++(Xq op im))]++List.drop 3 j))
def b6V(id i g p:Nat)(op im:Int)(h:Heap)(l j:Y14):=(h.set i (IObj.tip (g+3))).set id (IObj.cells (List.take 2 j++ [IV.vslice (some i) (g+3) (p+1) 3 (l++(Xq op im))]++List.drop 3 j))
def b6W(id i g p:Nat)(op im:Int)(h:Heap)(l j:Y14):=(h.set i (IObj.tip (g+3))).set id (IObj.cells (List.take 2 j++ [IV.vslice (some i) (g+3) (p+1) 3 (l++(Xq op im))]++List.drop 3 j))
def b6X(id u i g p:Nat)(op im:Int)(z l j:Y14)(h:Heap):=((kU u h).set i (IObj.tip (g+3))).set id (IObj.cells (List.take 2 j++ [IV.vslice (some i) (g+3) (p+1) 3 (l++(Xr op im u z))]++List.drop 3 j))
def b6Y(id u i g p:Nat)(op im:Int)(z l j:Y14)(h:Heap):=((kU u h).set i (IObj.tip (g+3))).set id (IObj.cells (List.take 2 j++ [IV.vslice (some i) (g+3) (p+1) 3 (l++(Xr op im u z))]++List.drop 3 j))
def a8C(x:Nat):=TV.v (.int .i64 (wW ((x:Int)+1)))
def b6Z(id u i g p:Nat)(op im:Int)(z l j:Y14)(h:Heap):=((kU u h).set i (IObj.tip (g+3))).set id (IObj.cells (List.take 2 j++ [IV.vslice (some i) (g+3) (p+1) 3 (l++(Xr op im u z))]++List.drop 3 j))
def b7A(id u i g p:Nat)(op im:Int)(z l j:Y14)(h:Heap):=((kU u h).set i (IObj.tip (g+3))).set id (IObj.cells (List.take 2 j++ [IV.vslice (some i) (g+3) (p+1) 3 (l++(Xr op im u z))]++List.drop 3 j))
def Z4(x:Nat):=iI (x:Int)
def a8D(x:Nat):=(x:Int).toNat*3+1+1
def Z5:=IV.int .i64
def a8E(x:Nat):=(x:Int).toNat*3+1
def a8F:=TV.v (.int .i64 0)
def Ub(id:Nat)(op im:Int)(h:Heap)(g:Y14):=(Z3 h).set id (IObj.cells (List.take 2 g++(a8B op im h)++List.drop 3 g))
def Uc(id:Nat)(op im:Int)(h:Heap)(g:Y14):=(Z3 h).set id (IObj.cells (List.take 2 g++(a8B op im h)++List.drop 3 g))
def Ud(id:Nat)(op im:Int)(h:Heap)(g:Y14):=(Z3 h).set id (IObj.cells (List.take 2 g++(a8B op im h)++List.drop 3 g))
def Ue(id:Nat)(op im:Int)(h:Heap)(g:Y14):=(Z3 h).set id (IObj.cells (List.take 2 g++(a8B op im h)++List.drop 3 g))
def Gx(g:Nat):=TV.v (.int .i64 (g:Int))
def Gy(x:Nat):=(x:Int).toNat*3
def Uf(id i:Nat)(op im:Int)(j g:Y14)(h:Heap):=(Z1 i h).set id (IObj.cells (List.take 2 g++(a8A op im i j h)++List.drop 3 g))
def Ug(id i:Nat)(op im:Int)(j g:Y14)(h:Heap):=(Z1 i h).set id (IObj.cells (List.take 2 g++(a8A op im i j h)++List.drop 3 g))
def Uh(id i:Nat)(op im:Int)(j g:Y14)(h:Heap):=(Z1 i h).set id (IObj.cells (List.take 2 g++(a8A op im i j h)++List.drop 3 g))
def Ui(id i:Nat)(op im:Int)(j g:Y14)(h:Heap):=(Z1 i h).set id (IObj.cells (List.take 2 g++(a8A op im i j h)++List.drop 3 g))
def Gz(g:Nat):=((0:Nat)+g)*1
abbrev Ha(x:Nat):=0<=(x:Int)
def a8G(op im:Int)(p:PSt)(x:Nat):=(x<=List.length (PSt.ns p)/\∀(j:Nat),j<x->(PSt.ns p)[j]?≠some (Nd.mk op im (PSt.ks p)))
def a8H(h:Heap)(id i x:Nat)(im op:Int)(p:PSt):Prop:= ∃(g:Nat),some (rC id)=some (rC id)/\some rB=some rB/\some (a8C x)=some (Gx g)/\some (Z2 op im)=some (Z2 op im)/\h=h/\(i=0/\PuI p op im g)/\List.length (PSt.ns p)-g< (PSt.ns p).length-x
def a8I(h:Heap)(id g x:Nat)(im op:Int)(j:Y14)(p:PSt):Prop:= ∃(i:Nat),some (rC id)=some (rC id)/\some rB=some rB/\some (a8C x)=some (Gx i)/\some (Mw op im g j h)=some (Z2 op im)/\Heap.push h (IObj.tip g)=h/\(g=0/\PuI p op im i)/\List.length (PSt.ns p)-i< (PSt.ns p).length-x
def a8J(h:Heap)(id i x:Nat)(im op:Int)(l:Y14)(p:PSt):Prop:= ∃(g:Nat),some (rC id)=some (rC id)/\some rB=some rB/\some (a8C x)=some (Gx g)/\some (Z2 op im)=some (Mw op im i l h)/\h=h.push (IObj.tip i)/\(g<=List.length (PSt.ns p)/\∀(j:Nat),j<g->(PSt.ns p)[j]?≠some (Nd.mk op im (PSt.ks p)))/\List.length
 (PSt.ns p)-g< (PSt.ns p).length-x
def a8K(h:Heap)(id g x:Nat)(im op:Int)(l:Y14)(p:PSt):Prop:= ∃(i:Nat),some (rC id)=some (rC id)/\some rB=some rB/\some (a8C x)=some (Gx i)/\some (Mw op im g l h)=some (Mw op im g l h)/\Heap.push h (IObj.tip g)=h.push (IObj.tip g)/\(i<=List.length (PSt.ns p)/\∀(j:Nat),j<i->(PSt.ns p)[j]?≠some (Nd.mk op
 im (PSt.ks p)))/\List.length (PSt.ns p)-i< (PSt.ns p).length-x
theorem d7K(id:Nat)(op im:Int)(g:Nat)(i:Y14)(p:PSt)(h:Heap)(Q:KT):dF (aS Z0) env 77 dL (kR 4 (d3W id op im g i p h)) bS [.ptr id 0,.int .i64 op,.int .i64 im,.vslice none 0 g 1 i] h Q=(
 aJ (Nat.beq g 0) (((∃(x:Nat),some (rC id)=some (rC id)/\some rB=some rB/\some a8F=some (TV.v (Z4 x))/\some (Z2 op im)=some (Z2 op im)/\h=h/\(g=0/\PuI p op im x)/\True) \/ ∃(x:Nat),some (rC id)=some (rC id)/\some rB=some rB/\some a8F=some (TV.v (Z4 x))/\some (Z2 op im)=some (Mw op im g i h)/\h=h.push (IObj.tip g)/\(a8G op im p x)/\True)/\(∀(x:Nat)(b:FF),g=0/\PuI p op im x->aE h id fun r0=>bP 3 r0 2 (aE h id fun r1=>bP 3 r1 2 (aE (Z3 h) id fun r2=>aD (Nat.ble 3 r2.length) (aE (Ub id op im h r2) id fun r3=>bP 3 r3 2 (Q rA (Ub id op im h r2)) fun(i4 e5 l6:Nat)(c7:Y14)=>Q (.int .i64 (wW ((l6:Int)-1))) (Ub id op im h r2))) fun(i8 e9 b9:Nat)(d2:Y14)=>cK h i8 fun(j8:Nat)=>aD (Nat.beq j8 e9&&Nat.ble ((b9+1)*40) 140737488355328) (aE (h.set i8 (IObj.tip (e9+3))) id fun c3=>aD (Nat.ble 3 c3.length) (aE (b6T id i8 e9 b9 op im h d2 c3) id fun k6=>bP 3 k6 2 (Q rA (b6T id i8 e9 b9 op im h d2 c3)) fun(s5 q9 i5:Nat)(q1:Y14)=>Q (.int .i64 (wW ((i5:Int)-1))) (b6T id i8 e9 b9 op im h d2 c3)))) fun(s6 r4 i6:Nat)(q2:Y14)=>aJ (decide ((x:Int)< (i6:Int))) (aE h id fun k7=>bP 3 k7 2 False fun(s7 r5 i7:Nat)(d3:Y14)=>aD (decide (Ha x) &&decide ((x:Int)< (i7:Int))) (aI .i64 d3 (Gy x) fun k2=>aI .i64 d3 (a8E x) fun k3=>aX 1 d3 (a8D x) fun(s8:Y10)(r6 i9:Nat)(i2:Y14)=> ∃(ks j:Y12),(i9=ks.length/\i2=List.map Z5 ks)/\((0:Nat)=j.length/\[]=List.map Z5 j)/\ks.length<=1000000000/\aJ (decide (Nd.mk k2 k3 ks=Nd.mk op im j)) (Q (Z4 x) h) ((a8H h id g x im op p) \/a8J h id g x im op i p))) (aE h id fun k8=>bP 3 k8 2 (aE (Z3 h) id fun c5=>aD (Nat.ble 3 c5.length) (aE (Uc id op im h c5) id fun k9=>bP 3 k9 2 (Q rA (Uc id op im h c5)) fun(s9 r7 j0:Nat)(q3:Y14)=>Q (.int .i64 (wW ((j0:Int)-1))) (Uc id op im h c5))) fun(b5 b2 c0:Nat)(d4:Y14)=>cK h b5 fun(j9:Nat)=>aD (Nat.beq j9 b2&&Nat.ble ((c0+1)*40) 140737488355328) (aE (h.set b5 (IObj.tip (b2+3))) id fun c6=>aD (Nat.ble 3 c6.length) (aE (b6U id b5 b2 c0 op im h d4 c6) id fun l0=>bP 3 l0 2 (Q rA (b6U id b5 b2 c0 op im h d4 c6)) fun(t0 r8 j1:Nat)(q4:Y14)=>Q (.int .i64 (wW ((j1:Int)-1))) (b6U id b5 b2 c0 op im h d4 c6)))))/\∀(x:Nat)(b:FF),PuI p op im x->aE (kU g h) id fun l1=>bP 3 l1 2 (aE (kU g h) id fun l2=>bP 3 l2 2 (aE (Z1 g h) id fun c8=>aD (Nat.ble 3 c8.length) (aE (Uf id g op im i c8 h) id fun(l3:Y14)=>bP 3 l3 2 (Q rA (Uf id g op im i c8 h)) fun(t1 r9 j2:Nat)(q5:Y14)=>Q (.int .i64 (wW ((j2:Int)-1))) (Uf id g op im i c8 h))) fun(b6 b3 c1:Nat)(d5:Y14)=>cK (kU g h) b6 fun(k0:Nat)=>aD (Nat.beq k0 b3&&Nat.ble ((c1+1)*40) 140737488355328) (aE ((kU g h).set b6 (IObj.tip (b3+3))) id fun c9=>aD (Nat.ble 3 c9.length) (aE (b6X id g b6 b3 c1 op im i d5 c9 h) id fun(l4:Y14)=>bP 3 l4 2 (Q rA (b6X id g b6 b3 c1 op im i d5 c9 h)) fun(t2 s0 j3:Nat)(q6:Y14)=>Q (.int .i64 (wW ((j3:Int)-1))) (b6X id g b6 b3 c1 op im i d5 c9 h)))) fun(t3 s1 j4:Nat)(q7:Y14)=>aJ (decide ((x:Int)< (j4:Int))) (aE (kU g h) id fun l5=>bP 3 l5 2 False fun(t4 s2 j5:Nat)(d6:Y14)=>aD (decide (Ha x) &&decide ((x:Int)< (j5:Int))) (aI .i64 d6 (Gy x) fun k4=>aI .i64 d6 (a8E x) fun k5=>aX 1 d6 (a8D x) fun(t5:Y10)(s3 j6:Nat)(i3:Y14)=> ∃(ks j:Y12),(j6=ks.length/\i3=List.map Z5 ks)/\(g=j.length/\i=List.map Z5 j)/\ks.length<=1000000000/\aJ (decide (Nd.mk k4 k5 ks=Nd.mk op im j)) (Q (Z4 x) (kU g h)) ((a8I h id g x im op i p) \/a8K h id g x im op i p))) (aE (kU g h) id fun l7=>bP 3 l7 2 (aE (Z1 g h) id fun d0=>aD (Nat.ble 3 d0.length) (aE (Ug id g op im i d0 h) id fun l8=>bP 3 l8 2 (Q rA (Ug id g op im i d0 h)) fun(t6 s4 j7:Nat)(q8:Y14)=>Q (.int .i64 (wW ((j7:Int)-1))) (Ug id g op im i d0 h))) fun(b7 b4 c2:Nat)(d7:Y14)=>cK (kU g h) b7 fun(k1:Nat)=>aD (Nat.beq k1 b4&&Nat.ble ((c2+1)*40) 140737488355328) (aE ((kU g h).set b7 (IObj.tip (b4+3))) id fun d1=>aD (Nat.ble 3 d1.length) (aE (b6Y id g b7 b4 c2 op im i d7 d1 h) id fun l9=>bP 3 l9 2 (Q rA (b6Y id g b7 b4 c2 op im i d7 d1 h)) fun(o6 n1 e1:Nat)(m0:Y14)=>Q (.int .i64 (wW ((e1:Int)-1))) (b6Y id g b7 b4 c2 op im i d7 d1 h))))) (aD (Nat.ble (((0:Nat)+g)*8) 140737488355328) (((∃(x:Nat),some (rC id)=some (rC id)/\some rB=some rB/\some a8F=some (TV.v (Z4 x))/\some [iI op,iI im,IV.vslice (some (h.next)) (Gz g) ((0:Nat)+g) 1 i]=some (Z2 op im)/\Heap.push h (IObj.tip (Gz g))=h/\(g=0/\PuI p op im x)/\True) \/ ∃(x:Nat),some (rC id)=some (rC id)/\some rB=some rB/\some a8F=some (TV.v (Z4 x))/\some [iI op,iI im,IV.vslice (some (h.next)) (Gz g) ((0:Nat)+g) 1 i]=some (Mw op im g i h)/\Heap.push h (IObj.tip (Gz g))=h.push (IObj.tip g)/\(a8G op im p x)/\True)/\(∀(x:Nat)(b:FF),g=0/\PuI p op im x->aE h id fun g6=>bP 3 g6 2 (aE h id fun(g7:Y14)=>bP 3 g7 2 (aE (Z3 h) id fun Y=>aD (Nat.ble 3 Y.length) (aE (Ud id op im h Y) id fun g8=>bP 3 g8 2 (Q rA (Ud id op im h Y)) fun(o7 n2 e2:Nat)(m1:Y14)=>Q (.int .i64 (wW ((e2:Int)-1))) (Ud id op im h Y))) fun(D l O:Nat)(a6:Y14)=>cK h D fun(f8:Nat)=>aD (Nat.beq f8 l&&Nat.ble ((O+1)*40) 140737488355328) (aE (h.set D (IObj.tip (l+3))) id fun Z=>aD (Nat.ble 3 Z.length) (aE (b6V id D l O op im h a6 Z) id fun g9=>bP 3 g9 2 (Q rA (b6V id D l O op im h a6 Z)) fun(o8 n3 e3:Nat)(m2:Y14)=>Q (.int .i64 (wW ((e3:Int)-1))) (b6V id D l O op im h a6 Z)))) fun(o9 n4 e4:Nat)(m3:Y14)=>aJ (decide ((x:Int)< (e4:Int))) (aE h id fun h0=>bP 3 h0 2 False fun(p0 n5 e6:Nat)(a7:Y14)=>aD (decide (Ha x) &&decide ((x:Int)< (e6:Int))) (aI .i64 a7 (Gy x) fun g2=>aI .i64 a7 (a8E x) fun g3=>aX 1 a7 (a8D x) fun(p1:Y10)(n6 e7:Nat)(d8:Y14)=> ∃(ks j:Y12),(e7=ks.length/\d8=List.map Z5 ks)/\((0:Nat)=j.length/\[]=List.map Z5 j)/\ks.length<=1000000000/\aJ (decide (Nd.mk g2 g3 ks=Nd.mk op im j)) (Q (Z4 x) h) ((a8H h id g x im op p) \/a8J h id g x im op i p))) (aE h id fun h1=>bP 3 h1 2 (aE (Z3 h) id fun a0=>aD (Nat.ble 3 a0.length) (aE (Ue id op im h a0) id fun h2=>bP 3 h2 2 (Q rA (Ue id op im h a0)) fun(p2 n7 e8:Nat)(m4:Y14)=>Q (.int .i64 (wW ((e8:Int)-1))) (Ue id op im h a0))) fun(G u T:Nat)(a8:Y14)=>cK h G fun(f9:Nat)=>aD (Nat.beq f9 u&&Nat.ble ((T+1)*40) 140737488355328) (aE (h.set G (IObj.tip (u+3))) id fun a1=>aD (Nat.ble 3 a1.length) (aE (b6W id G u T op im h a8 a1) id fun h3=>bP 3 h3 2 (Q rA (b6W id G u T op im h a8 a1)) fun(p3 n8 f0:Nat)(m5:Y14)=>Q (.int .i64 (wW ((f0:Int)-1))) (b6W id G u T op im h a8 a1)))))/\∀(x:Nat)(b:FF),PuI p op im x->aE (kU g h) id fun h4=>bP 3 h4 2 (aE (kU g h) id fun(h5:Y14)=>bP 3 h5 2 (aE (Z1 g h) id fun a2=>aD (Nat.ble 3 a2.length) (aE (Uh id g op im i a2 h) id fun h6=>bP 3 h6 2 (Q rA (Uh id g op im i a2 h)) fun(p4 n9 f1:Nat)(m6:Y14)=>Q (.int .i64 (wW ((f1:Int)-1))) (Uh id g op im i a2 h))) fun(K z V:Nat)(a9:Y14)=>cK (kU g h) K fun(g0:Nat)=>aD (Nat.beq g0 z&&Nat.ble ((V+1)*40) 140737488355328) (aE ((kU g h).set K (IObj.tip (z+3))) id fun a3=>aD (Nat.ble 3 a3.length) (aE (b6Z id g K z V op im i a9 a3 h) id fun h7=>bP 3 h7 2 (Q rA (b6Z id g K z V op im i a9 a3 h)) fun(p5 o0 f2:Nat)(m7:Y14)=>Q (.int .i64 (wW ((f2:Int)-1))) (b6Z id g K z V op im i a9 a3 h)))) fun(p6 o1 f3:Nat)(m8:Y14)=>aJ (decide ((x:Int)< (f3:Int))) (aE (kU g h) id fun h8=>bP 3 h8 2 False fun(p7 o2 f4:Nat)(b0:Y14)=>aD (decide (Ha x) &&decide ((x:Int)< (f4:Int))) (aI .i64 b0 (Gy x) fun g4=>aI .i64 b0 (a8E x) fun g5=>aX 1 b0 (a8D x) fun(p8:Y10)(o3 f5:Nat)(d9:Y14)=> ∃(ks j:Y12),(f5=ks.length/\d9=List.map Z5 ks)/\(g=j.length/\i=List.map Z5 j)/\ks.length<=1000000000/\aJ (decide (Nd.mk g4 g5 ks=Nd.mk op im j)) (Q (Z4 x) (kU g h)) ((a8I h id g x im op i p) \/a8K h id g x im op i p))) (aE (kU g h) id fun h9=>bP 3 h9 2 (aE (Z1 g h) id fun a4=>aD (Nat.ble 3 a4.length) (aE (Ui id g op im i a4 h) id fun(i0:Y14)=>bP 3 i0 2 (Q rA (Ui id g op im i a4 h)) fun(p9 o4 f6:Nat)(m9:Y14)=>Q (.int .i64 (wW ((f6:Int)-1))) (Ui id g op im i a4 h))) fun(L A X:Nat)(b1:Y14)=>cK (kU g h) L fun(g1:Nat)=>aD (Nat.beq g1 A&&Nat.ble ((X+1)*40) 140737488355328) (aE ((kU g h).set L (IObj.tip (A+3))) id fun a5=>aD (Nat.ble 3 a5.length) (aE (b7A id g L A X op im i b1 a5 h) id fun i1=>bP 3 i1 2 (Q rA (b7A id g L A X op im i b1 a5 h)) fun(q0 o5 f7:Nat)(n0:Y14)=>Q (.int .i64 (wW ((f7:Int)-1))) (b7A id g L A X op im i b1 a5 h))))))):=by kernel_rfl
theorem d7L: ∀xs h Q,c7B xs h Q->aO env 77 xs h Q:=by
 intro xs h Q T;unfold c7B at T;split at T
 ·rename_i id op im kn kc;obtain⟨p,hp,T⟩:=T;refine aN (Gw) (d7K id op im kn kc p h Q) ?_;delta a8H a8I a8J a8K Xq Xr a8A Z1 a8B Z2 kU rA Z3 rB Mw rC b6T b6U b6V b6W b6X b6Y a8C b6Z b7A Z4 a8D Z5 a8E a8F Ub Uc Ud Ue Gx Gy Uf Ug Uh Ui Gz Ha a8G wW iI;obtain⟨D,ks,a,b,c,d,e,f⟩:=p;obtain⟨O,⟨lv,hg,hl⟩,⟨rfl,rfl⟩,⟨ho,a6⟩,a2,a7⟩:=hp;dsimp only at hg hl ho a6 a2 a7⊢;refine aC (fun c0=>⟨.inl ⟨0,IR,IR,IR,IR,IR,⟨bK.1 c0,AR _,fun j L=>IM⟩,trivial⟩,?_,?_⟩) (fun c0=>aA (by rw [AM];omega) ⟨.inr ⟨0,IR,IR,IR,(by rw [BT,AO]),(by rw [BT,AO]),⟨AR _,fun j L=>IM⟩,trivial⟩,?_,?_⟩)
  ·rintro i _ ⟨h0,hi,L⟩;have a5:ks=[]:=BZ h0;subst a5;dsimp only at hi L;have u:=hg;have gl:=hl;have K:FC id h h:=FC.refl;have z:id<h.next:=AI O K.1;rcases gl with⟨X,h2⟩| ⟨io,X,ht,G,A⟩
   ·subst X h2;exact aB u (cO rfl (aB u (cO rfl (aB ((aL z).trans u) (aA rfl (aB aH (bZ rfl (T (IntKind.i64.wrap (((1:Nat):Int)-1)) _ (aQ.nil (p:=⟨[],[],a,b,c,d,e,f⟩) z K u rfl IN)))))))))
   ·subst X;refine aB u (bZ rfl (dA (fun c1=>?_) (fun c1=>?_)))
    ·have l:i<D.length:=IM;have a4:=(a2 _ (AG l)).2;refine aB u (bZ rfl (bG IM (oR l (by rw [AE]) ⟨D[i].ks,[],⟨rfl,rfl⟩,⟨rfl,rfl⟩,IM,dA (fun V=>?_) (fun V=> .inl ⟨i+1,IR,IR,(by(try dsimp only);rw [AB _ IM];rfl),IR,IR,⟨rfl,l,?_⟩,by(try dsimp only);omega⟩)⟩)))
     ·exact T _ _ (aQ.old (p:=⟨D,[],a,b,c,d,e,f⟩) (i:=i) K u (.inr ⟨io,rfl,ht,G,A⟩) ((AA l).trans (congrArg some V)) L rfl)
     ·intro j Y;rcases BC j i with q|q
      ·exact L j q
      ·have q2:j=i:=by(try dsimp only at Y);omega
       rw [q2,AA l];exact fun q3=>V (AX q3)
    ·have a3:i=D.length:=IM;have a1:(⟨op,im,[]⟩:Nd) ∉D:=fun hm=>by
      obtain⟨j,a0,Z⟩:=CT.1 hm;exact L j IM ((AA a0).trans (congrArg some Z))
     refine aB u (bZ rfl (aV ht (aA (by simp only [AF,bK,AM,true_and];omega) (aB ((aG (fun q=>A q.symm)).trans u) (aA rfl (aB aH (bZ rfl (T _ _ (aQ.new (p:=⟨D,[],a,b,c,d,e,f⟩) z K u rfl ht G A a1 ?_)))))))));show IntKind.i64.wrap (((D.length+1:Nat):Int)-1)=_;rw [AB _ IM];dsimp only;omega
  ·rintro i _ ⟨hi,L⟩;dsimp only at hi L;have u:(h.push (.tip ks.length)).get id= .cells [a,b,lv,c,d,e,f]:=(aL O).trans hg;have gl:=hl.push (x:= .tip ks.length);have K:FC id h (h.push (.tip ks.length)):=FC.push O;rw [show h.next+1=(h.push (.tip ks.length)).next from rfl];generalize hgg:h.push (.tip ks.length)=g at u gl K⊢;have z:id<g.next:=AI O K.1;rcases gl with⟨X,h2⟩| ⟨io,X,ht,G,A⟩
   ·subst X h2;exact aB u (cO rfl (aB u (cO rfl (aB ((aL z).trans u) (aA rfl (aB aH (bZ rfl (T (IntKind.i64.wrap (((1:Nat):Int)-1)) _ (aQ.nil (p:=⟨[],ks,a,b,c,d,e,f⟩) z K u rfl IN)))))))))
   ·subst X;refine aB u (bZ rfl (dA (fun c1=>?_) (fun c1=>?_)))
    ·have l:i<D.length:=IM;have a4:=(a2 _ (AG l)).2;refine aB u (bZ rfl (bG IM (oR l (by rw [AE]) ⟨D[i].ks,ks,⟨rfl,rfl⟩,⟨rfl,rfl⟩,IM,dA (fun V=>?_) (fun V=> .inr ⟨i+1,IR,IR,(by(try dsimp only);rw [AB _ IM];rfl),IR,IR,⟨l,?_⟩,by(try dsimp only);omega⟩)⟩)))
     ·exact T _ _ (aQ.old (p:=⟨D,ks,a,b,c,d,e,f⟩) (i:=i) K u (.inr ⟨io,rfl,ht,G,A⟩) ((AA l).trans (congrArg some V)) L rfl)
     ·intro j Y;rcases BC j i with q|q
      ·exact L j q
      ·have q2:j=i:=by(try dsimp only at Y);omega
       rw [q2,AA l];exact fun q3=>V (AX q3)
    ·have a3:i=D.length:=IM;have a1:(⟨op,im,ks⟩:Nd) ∉D:=fun hm=>by
      obtain⟨j,a0,Z⟩:=CT.1 hm;exact L j IM ((AA a0).trans (congrArg some Z))
     refine aB u (bZ rfl (aV ht (aA (by simp only [AF,bK,AM,true_and];omega) (aB ((aG (fun q=>A q.symm)).trans u) (aA rfl (aB aH (bZ rfl (T _ _ (aQ.new (p:=⟨D,ks,a,b,c,d,e,f⟩) z K u rfl ht G A a1 ?_)))))))));show IntKind.i64.wrap (((D.length+1:Nat):Int)-1)=_;rw [AB _ IM];dsimp only;omega
  ·rintro i _ ⟨h0,hi,L⟩;have a5:ks=[]:=BZ h0;subst a5;dsimp only at hi L;have u:=hg;have gl:=hl;have K:FC id h h:=FC.refl;have z:id<h.next:=AI O K.1;rcases gl with⟨X,h2⟩| ⟨io,X,ht,G,A⟩
   ·subst X h2;exact aB u (cO rfl (aB u (cO rfl (aB ((aL z).trans u) (aA rfl (aB aH (bZ rfl (T (IntKind.i64.wrap (((1:Nat):Int)-1)) _ (aQ.nil (p:=⟨[],[],a,b,c,d,e,f⟩) z K u rfl IN)))))))))
   ·subst X;refine aB u (bZ rfl (dA (fun c1=>?_) (fun c1=>?_)))
    ·have l:i<D.length:=IM;have a4:=(a2 _ (AG l)).2;refine aB u (bZ rfl (bG IM (oR l (by rw [AE]) ⟨D[i].ks,[],⟨rfl,rfl⟩,⟨rfl,rfl⟩,IM,dA (fun V=>?_) (fun V=> .inl ⟨i+1,IR,IR,(by(try dsimp only);rw [AB _ IM];rfl),IR,IR,⟨rfl,l,?_⟩,by(try dsimp only);omega⟩)⟩)))
     ·exact T _ _ (aQ.old (p:=⟨D,[],a,b,c,d,e,f⟩) (i:=i) K u (.inr ⟨io,rfl,ht,G,A⟩) ((AA l).trans (congrArg some V)) L rfl)
     ·intro j Y;rcases BC j i with q|q
      ·exact L j q
      ·have q2:j=i:=by(try dsimp only at Y);omega
       rw [q2,AA l];exact fun q3=>V (AX q3)
    ·have a3:i=D.length:=IM;have a1:(⟨op,im,[]⟩:Nd) ∉D:=fun hm=>by
      obtain⟨j,a0,Z⟩:=CT.1 hm;exact L j IM ((AA a0).trans (congrArg some Z))
     refine aB u (bZ rfl (aV ht (aA (by simp only [AF,bK,AM,true_and];omega) (aB ((aG (fun q=>A q.symm)).trans u) (aA rfl (aB aH (bZ rfl (T _ _ (aQ.new (p:=⟨D,[],a,b,c,d,e,f⟩) z K u rfl ht G A a1 ?_)))))))));show IntKind.i64.wrap (((D.length+1:Nat):Int)-1)=_;rw [AB _ IM];dsimp only;omega
  ·rintro i _ ⟨hi,L⟩;dsimp only at hi L;have u:(h.push (.tip ks.length)).get id= .cells [a,b,lv,c,d,e,f]:=(aL O).trans hg;have gl:=hl.push (x:= .tip ks.length);have K:FC id h (h.push (.tip ks.length)):=FC.push O;rw [show h.next+1=(h.push (.tip ks.length)).next from rfl];generalize hgg:h.push (.tip ks.length)=g at u gl K⊢;have z:id<g.next:=AI O K.1;rcases gl with⟨X,h2⟩| ⟨io,X,ht,G,A⟩
   ·subst X h2;exact aB u (cO rfl (aB u (cO rfl (aB ((aL z).trans u) (aA rfl (aB aH (bZ rfl (T (IntKind.i64.wrap (((1:Nat):Int)-1)) _ (aQ.nil (p:=⟨[],ks,a,b,c,d,e,f⟩) z K u rfl IN)))))))))
   ·subst X;refine aB u (bZ rfl (dA (fun c1=>?_) (fun c1=>?_)))
    ·have l:i<D.length:=IM;have a4:=(a2 _ (AG l)).2;refine aB u (bZ rfl (bG IM (oR l (by rw [AE]) ⟨D[i].ks,ks,⟨rfl,rfl⟩,⟨rfl,rfl⟩,IM,dA (fun V=>?_) (fun V=> .inr ⟨i+1,IR,IR,(by(try dsimp only);rw [AB _ IM];rfl),IR,IR,⟨l,?_⟩,by(try dsimp only);omega⟩)⟩)))
     ·exact T _ _ (aQ.old (p:=⟨D,ks,a,b,c,d,e,f⟩) (i:=i) K u (.inr ⟨io,rfl,ht,G,A⟩) ((AA l).trans (congrArg some V)) L rfl)
     ·intro j Y;rcases BC j i with q|q
      ·exact L j q
      ·have q2:j=i:=by(try dsimp only at Y);omega
       rw [q2,AA l];exact fun q3=>V (AX q3)
    ·have a3:i=D.length:=IM;have a1:(⟨op,im,ks⟩:Nd) ∉D:=fun hm=>by
      obtain⟨j,a0,Z⟩:=CT.1 hm;exact L j IM ((AA a0).trans (congrArg some Z))
     refine aB u (bZ rfl (aV ht (aA (by simp only [AF,bK,AM,true_and];omega) (aB ((aG (fun q=>A q.symm)).trans u) (aA rfl (aB aH (bZ rfl (T _ _ (aQ.new (p:=⟨D,ks,a,b,c,d,e,f⟩) z K u rfl ht G A a1 ?_)))))))));show IntKind.i64.wrap (((D.length+1:Nat):Int)-1)=_;rw [AB _ IM];dsimp only;omega
 ·exact T.elim
def c7C:=aT 77 c7B Z0
theorem c1M:aP env c7C:=aF d7L (Gw)
def d3X(id:Nat)(s:BSt)(nm:Y11)(h:Heap):Inv':=eY Nat (fun i=>[(0,.v (.ptr id 0)),(1,.v (.str nm)),(5,.v (.int .i64 (i:Int)))]) (fun _=>[]) (fun _=>h) (fun i=>i<=(bM s.f).length/\nm∉ (bM s.f).take i) (fun i=>(bM s.f).length-i)
def c7D(xs:Y14)(h:Heap)(K:KT):Prop:=match xs with
 | [.ptr id 0,.str nm]=> ∃s:BSt,(BH h id s/\nm∈bM s.f)/\∀i:Nat,i< (bM s.f).length->K (.int .i64 (i:Int)) h
 |_=>False
theorem d7M(id:Nat)(s:BSt)(nm:Y11)(h:Heap)(Q:KT):dF (aS c7C) env 148 dL (kR 3 (d3X id s nm h)) bS [.ptr id 0,.str nm] h Q=(
 (∃(x:Nat),some (TV.v (.ptr id 0))=some (TV.v (.ptr id 0))/\some (TV.v (.str nm))=some (TV.v (.str nm))/\tI 0=tI (x:Int)/\h=h/\(x<=List.length (bM (BSt.f s))/\¬nm∈List.take x (bM (BSt.f s)))/\True)/\∀(x:Nat)(b:FF),x<=List.length (bM (BSt.f s))/\¬nm∈List.take x (bM (BSt.f s))->aE h id fun r0=>aX 1 r0 3 fun(D:Y10)(z l:Nat)(c4:Y14)=>aJ (decide ((x:Int)< (l:Int))) (aE h id fun u=>aX 1 u 3 fun(G:Y10)(A p:Nat)(j:Y14)=>aD (decide (0<=(x:Int)) &&decide ((x:Int)< (p:Int))) (bL j ((x:Int).toNat*1) fun(i:Y11)=>aJ (i==nm) (Q (.int .i64 (x:Int)) h) (∃(g:Nat),some (TV.v (.ptr id 0))=some (TV.v (.ptr id 0))/\some (TV.v (.str nm))=some (TV.v (.str nm))/\tI (wW ((x:Int)+1))=tI (g:Int)/\h=h/\(g<=List.length (bM (BSt.f s))/\¬nm∈List.take g (bM (BSt.f s)))/\List.length (bM (BSt.f s))-g< (bM (BSt.f s)).length-x))) (Q (.int .i64 0) h)):=by kernel_rfl
theorem d7N: ∀xs h Q,c7D xs h Q->aO env 148 xs h Q:=by
 intro xs h Q j;unfold c7D at j;split at j
 ·rename_i id nm;obtain⟨s,⟨z,D⟩,j⟩:=j;refine aN (c1M) (d7M id s nm h Q) ?_;delta tI wW;obtain⟨A,⟨lv,u,_⟩,_⟩:=z;have G:=uZ s.f;refine⟨⟨0,IR,IR,IR,IR,⟨AR _,IP⟩,trivial⟩,?_⟩;rintro i _ ⟨hi,p⟩;refine aB u (eF rfl (dA (fun c=>?_) (fun c=>?_)))
  ·have g:i< (bM s.f).length:=IM;refine aB u (eF rfl (bG IM (gO (b:=(bM s.f)[i]) (by rw [AE,AO,BL,AA g];rfl) (aC (fun l=>j i g) (fun l=>⟨i+1,IR,IR,(by(try dsimp only);rw [AB _ IM];rfl),IR,⟨g,?_⟩,IM⟩)))));rw [beq_eq_false_iff_ne]at l;rw [BI g,CB,BO];exact fun q=>q.elim p fun q=>l q.symm
  ·rw [AP IM]at p;exact absurd D p
 ·exact j.elim
def c7E:=aT 148 c7D c7C
theorem c1N:aP env c7E:=aF d7N (c1M)
def c7F(xs:Y14)(h:Heap)(K:KT):Prop:=match xs with
 | [.ptr id 0,.str nm]=> ∃s:BSt,(BH h id s/\oV s.pa s.pf/\nm∈nK)/\∀i:Nat,i<2->K (.int .i64 (i:Int)) h
 |_=>False
theorem d7O(id:Nat)(s:BSt)(nm:Y11)(h:Heap)(Q:KT):dF (aS c7E) env 149 (fun k=>if k=3 then 3 else 0) bS bS [.ptr id 0,.str nm] h Q=(
 aE h id fun r0=>aX 2 r0 0 fun(i1:Y10)(e2 l3:Nat)(c4:Y14)=>aJ (decide (0< (l3:Int))) (aE h id fun r5=>aX 2 r5 0 fun(i6:Y10)(e7 l8:Nat)(X:Y14)=>aD (true&&decide (0< (l8:Int))) (bL X 0 fun(K:Y11)=>aJ (K==nm) (Q (.int .i64 0) h) (aE h id fun z=>aX 2 z 0 fun(a2:Y10)(Y j:Nat)(T:Y14)=>aJ (decide (1< (j:Int))) (aE h id fun A=>aX 2 A 0 fun(a3:Y10)(Z l:Nat)(g:Y14)=>aD (true&&decide (1< (l:Int))) (bL g 2 fun(L:Y11)=>aJ (L==nm) (Q (.int .i64 1) h) (aE h id fun D=>aX 2 D 0 fun(a4:Y10)(a0 p:Nat)(V:Y14)=>aJ (decide (2< (p:Int))) (aE h id fun G=>aX 2 G 0 fun(a5:Y10)(a1 u:Nat)(i:Y14)=>aD (true&&decide (2< (u:Int))) (bL i 4 fun(O:Y11)=>aJ (O==nm) (Q (.int .i64 2) h) False)) (Q (.int .i64 0) h)))) (Q (.int .i64 0) h)))) (Q (.int .i64 0) h)):=by kernel_rfl
theorem d7P: ∀xs h Q,c7F xs h Q->aO env 149 xs h Q:=by
 intro xs h Q g;unfold c7F at g;split at g
 ·rename_i id nm;obtain⟨s,⟨z,l,u⟩,g⟩:=g;refine aN (c1N) (d7O id s nm h Q) ?_;obtain⟨A,⟨lv,i,_⟩,_⟩:=z;obtain⟨D,G,K,O,L,T,_,j,_⟩:=l;have p: ∀o:Nat,s.pa[o]?=(Kc D G)[o]?:=fun o=>by rw [j]
  simp only [nK,BQ,DF,or_false]at u;refine aB i (eF rfl (bt rfl (aB i (eF rfl (aA rfl (gO ((p 0).trans rfl) ?_))))));rcases u with rfl|rfl
  ·exact bt rfl (g 0 IN)
  ·exact bf rfl (aB i (eF rfl (bt rfl (aB i (eF rfl (aA rfl (gO ((p 2).trans rfl) (bt rfl (g 1 IN)))))))))
 ·exact g.elim
def c7G:=aT 149 c7F c7E
theorem c1O:aP env c7G:=aF d7P (c1N)
def c7H(xs:Y14)(h:Heap)(K:KT):Prop:=match xs with
 | [.ptr id 0,.int .i64 c,.int .i64 a,.int .i64 b]=> ∃(s:BSt)(t:Int),(BH h id s/\GS s/\s.ns.length<99990/\SK s.ns 1 c/\(t=1\/t=2)/\SK s.ns t a/\SK s.ns t b)/\∀(v:Int)(h2:Heap)(g:Y15),BE h id s h2 g s.st 1->SK g t v->K (.int .i64 v) h2
 |_=>False
theorem d7Q(id:Nat)(c a b:Int)(h:Heap)(Q:KT):dF (aS c7G) env 151 dL bS bS [.ptr id 0,.int .i64 c,.int .i64 a,.int .i64 b] h Q=(
 aJ (a==b) (Q (.int .i64 a) h) (∃(p:PSt),bE h id p 22 0 3 [iI c,iI a,iI b]/\∀(v:Int)(h2:Heap),aQ h id p 22 0 v h2->Q (.int .i64 v) h2)):=by kernel_rfl
theorem d7R: ∀xs h Q,c7H xs h Q->aO env 151 xs h Q:=by
 intro xs h Q g;unfold c7H at g;split at g
 ·rename_i id c a b;obtain⟨s,t,⟨l,u,G,z,A,ha,j⟩,g⟩:=g;refine aN (c1O) (d7Q id c a b h Q) ?_;delta iI;refine aC (fun e=>?_) (fun e=>?_)
  ·rw [beq_iff_eq]at e;exact g a h s.ns ((BE.refl l u).le (AR _)) ha
  ·have i:t≠0:=IM;refine⟨s.pst [c,a,b],l.pre u ⟨IN,IN⟩ (kb3 z.kb ha.kb j.kb) IQ,fun v h2 p=>?_⟩;obtain⟨x,D⟩:=BE.put (ss:=[1,t,t]) (t:=t) l u p ⟨⟨z,IN⟩,⟨ha,i⟩,⟨j,i⟩,trivial⟩ (by rcases A with rfl|rfl;exact b4R;exact b4S) i ⟨IN,IN⟩ ⟨IN,IN⟩ IQ IM;exact g v h2 _ x D
 ·exact g.elim
def c7I:=aT 151 c7H c7G
theorem c1P:aP env c7I:=aF d7R (c1O)
def c7J(xs:Y14)(h:Heap)(K:KT):Prop:=match xs with
 | [.ptr id 0,.int .i64 a,.int .i64 i]=> ∃(s:BSt),(BH h id s/\GS s/\s.ns.length<99990/\(0<=a/\a<2)/\SK s.ns 1 i)/\∀(h2:Heap)(g:Y15)(j:Int),BE h id s h2 g j 3->K (.tuple []) h2
 |_=>False
theorem d7S(id:Nat)(a i:Int)(h:Heap)(Q:KT):dF (aS c7I) env 150 dL bS bS [.ptr id 0,.int .i64 a,.int .i64 i] h Q=(
 aE h id fun r0=>aX 2 r0 0 fun(G:Y10)(D u:Nat)(c4:Y14)=>aD (decide (0<=a) &&decide (a< (u:Int))) (aI .i64 c4 (a.toNat*2+1) fun l=> ∃(p:PSt),bE h id p 1 l 0 []/\∀(v:Int)(h2:Heap),aQ h id p 1 l v h2-> ∃(p:PSt),bE h2 id p 19 0 2 [iI i,iI v]/\∀(v:Int)(g:Heap),aQ h2 id p 19 0 v g->aE g id fun A=>aI .i64 A 5 fun z=> ∃(p:PSt),bE g id p 27 2 2 [iI z,iI v]/\∀(v:Int)(h2:Heap),aQ g id p 27 2 v h2->aE h2 id fun j=>aD (Nat.ble 6 j.length) (Q (.tuple []) (h2.set id (IObj.cells (List.take 5 j++ [iI v]++List.drop 6 j)))))):=by kernel_rfl
theorem d7T: ∀xs h Q,c7J xs h Q->aO env 150 xs h Q:=by
 intro xs h Q z;unfold c7J at z;split at z
 ·rename_i id a i;obtain⟨s,⟨O,L,hn,ha,hi⟩,z⟩:=z;refine aN (c1P) (d7S id a i h Q) ?_;delta iI;obtain⟨la,lb,b0,v0,b1,v1,V,K,_⟩:=L.pp;obtain⟨⟨a1,a2,a3,a4⟩,_⟩:=V;obtain⟨lv,T⟩:=(BE.refl O L).get;obtain⟨m,hm,G⟩: ∃m:Int,s.pa[a.toNat*2+1]?=some (.int .i64 m)/\aR m:=by
   have:a=0\/a=1:=IM;rcases this with rfl|rfl
   ·exact⟨la,by rw [K];rfl,by unfold aR;omega⟩
   ·exact⟨lb,by rw [K];rfl,by unfold aR;omega⟩
  refine aB T (eF rfl (bG ha (bY hm ⟨s.pst [],O.pre L ⟨IN,G⟩ kb0 IN,fun v h2 p=>?_⟩)));obtain⟨j,X⟩:=BE.put (ss:=[]) (t:=1) O L p trivial fA IN ⟨IN,IN⟩ ⟨IN,G⟩ IN IM;have l:=hi.mono j.gx.pre;have n1:=j.len;generalize(cH s.ns ⟨1,m,[]⟩).1=ns1 at j X l n1;refine⟨({s with ns:=ns1 } :BSt).pst [i,v],j.bh.pre j.gs ⟨IN,IN⟩ (Ru l.kb X.kb) IQ,fun v2 h3 p2=>?_⟩;obtain⟨x2,Y⟩:=BE.put (ss:=[1,1]) (t:=1) j.bh j.gs p2 ⟨⟨l,IN⟩,⟨X,IN⟩,trivial⟩ (xH IN) IN ⟨IN,IN⟩ ⟨IN,IN⟩ IQ (by show ns1.length<100000;omega);have g:=j.trans x2;have n2:=g.len;obtain⟨lv2,A⟩:=g.get;have u:=g.gs.sk;generalize(cH ({s with ns:=ns1,st:=s.st } :BSt).ns ⟨19,0,[i,v]⟩).1=ns2 at g Y A n2 u;refine aB A (bY rfl ⟨({s with ns:=ns2 } :BSt).pst [s.st,v2],g.bh.pre g.gs ⟨IN,IN⟩ (Ru u.kb Y.kb) IQ,fun v3 h4 p3=>?_⟩);obtain⟨x3,k3⟩:=BE.put (ss:=[2,1]) (t:=2) g.bh g.gs p3 ⟨⟨u,IN⟩,⟨Y,IN⟩,trivial⟩ (vB IN) IN ⟨IN,IN⟩ ⟨IN,IN⟩ IQ (by show ns2.length<100000;omega);have Z:=g.trans x3;obtain⟨a0,D⟩:=Z.get;exact aB D (aA rfl (z _ _ _ (Z.st k3 D)))
 ·exact z.elim
def c7K:=aT 150 c7J c7I
theorem c1Q:aP env c7K:=aF d7T (c1P)
def a8L(d:Nat)(xs:Y14)(h:Heap)(K:KT):Prop:=match xs with
 | [.ptr id 0,.agg [.int .i64 k,.int .i64 n,.str nm,.int .i64 op,.vslice none 0 m 5 c]]=> ∃(ks:List E)(s:BSt),(m=ks.length/\c=aW ks)/\ExPre h id s d k n nm op ks/\∀(v:Int)(h2:Heap),dU h id s (.mk k n nm op ks) v h2->K (.int .i64 v) h2
 |_=>False
def b7B(ks:List E):=true&&decide (0< (ks.length:Int))
def Mx(v:Int):=iI v
def c7L(i:Int)(g:Y14):=IObj.cells (List.take 5 g++ [iI i]++List.drop 6 g)
def c7M(i:Int)(g:Y14):=IObj.cells (List.take 5 g++ [iI i]++List.drop 6 g)
def c7N(i:Int)(g:Y14):=IObj.cells (List.take 5 g++ [iI i]++List.drop 6 g)
theorem d7U(O:Nat)(id:Nat)(k n:Int)(nm:Y11)(op:Int)(ks:List E)(h:Heap)(Q:KT):dF (aS (aT 79 (a8L O) c7K)) env 79 dL bS bS [.ptr id 0,.agg [.int .i64 k,.int .i64 n,.str nm,.int .i64 op,.vslice none 0 ks.length 5 (aW ks)]] h Q=(
 aJ (k==1) (∃(p:PSt),bE h id p 1 n 0 []/\∀(v:Int)(h2:Heap),aQ h id p 1 n v h2->Q (Mx v) h2) (aJ (k==2) (aE h id fun r0=>cY 1 r0 4 False fun(i1 o2 l3:Nat)=> ∃(s:BSt),(BH h id s/\List.Mem nm (bM (BSt.f s)))/\∀(i:Nat),i< (bM (BSt.f s)).length->bA h id 4=bA h id 4/\aD (decide (0<=(i:Int)) &&decide ((i:Int)< (l3:Int))) (aE h i1 fun r4=>aI .i64 r4 (o2+(i:Int).toNat*1) fun n5=>Q (.int .i64 n5) h)) (aJ (k==3) (aD (b7B ks) (aI .i64 (aW ks) 0 fun n6=>aI .i64 (aW ks) 1 fun n7=>bL (aW ks) 2 fun(s8:Y11)=>aI .i64 (aW ks) 3 fun n9=>aX 5 (aW ks) 4 fun(f3:Y10)(e7 c8:Nat)(c1:Y14)=> ∃(ks:List E)(s:BSt),(c8=ks.length/\c1=aW ks)/\ExPre h id s O n6 n7 s8 n9 ks/\∀(v:Int)(h2:Heap),dU h id s (E.mk n6 n7 s8 n9 ks) v h2-> ∃(s:BSt),(BH h2 id s/\oV (BSt.pa s) (BSt.pf s)/\List.Mem nm nK)/\∀(i:Nat),i<2-> ∃(s:BSt),(BH h2 id s/\GS s/\List.length (BSt.ns s)<99990/\(0<=(i:Int)/\(i:Int)<2)/\M10.SK (BSt.ns s) 1 v)/\∀(g:Heap)(G:Y15)(e6:Int),BE h2 id s g G e6 3->aE g id fun(d9:Y14)=>aI .i64 d9 5 fun d4=> ∃(p:PSt),bE g id p 23 (i:Int) 2 [iI d4,iI v]/\∀(v:Int)(h2:Heap),aQ g id p 23 (i:Int) v h2->Q (Mx v) h2)) (aJ (k==5) (aD (b7B ks) (aI .i64 (aW ks) 0 fun Z=>aI .i64 (aW ks) 1 fun a0=>bL (aW ks) 2 fun(b5:Y11)=>aI .i64 (aW ks) 3 fun a1=>aX 5 (aW ks) 4 fun(f4:Y10)(e8 c9:Nat)(c2:Y14)=> ∃(l:List E)(s:BSt),(c9=l.length/\c2=aW l)/\ExPre h id s O Z a0 b5 a1 l/\∀(v:Int)(h2:Heap),dU h id s (E.mk Z a0 b5 a1 l) v h2->aE h2 id fun e1=>aI .i64 e1 5 fun a2=>aD (true&&decide (1< (ks.length:Int))) (aI .i64 (aW ks) 5 fun a3=>aI .i64 (aW ks) 6 fun a4=>bL (aW ks) 7 fun(b6:Y11)=>aI .i64 (aW ks) 8 fun a5=>aX 5 (aW ks) 9 fun(f5:Y10)(e9 d0:Nat)(c3:Y14)=> ∃(L:List E)(s:BSt),(d0=L.length/\c3=aW L)/\ExPre h2 id s O a3 a4 b6 a5 L/\∀(u:Int)(g:Heap),dU h2 id s (E.mk a3 a4 b6 a5 L) u g->aE g id fun e2=>aI .i64 e2 5 fun d5=>aE g id fun T=>aD (Nat.ble 6 T.length) (aD (true&&decide (2< (ks.length:Int))) (aI .i64 (aW ks) 10 fun a6=>aI .i64 (aW ks) 11 fun a7=>bL (aW ks) 12 fun(b7:Y11)=>aI .i64 (aW ks) 13 fun a8=>aX 5 (aW ks) 14 fun(f6:Y10)(f0 d1:Nat)(c5:Y14)=> ∃(ks:List E)(s:BSt),(d1=ks.length/\c5=aW ks)/\ExPre (g.set id (c7L a2 T)) id s O a6 a7 b7 a8 ks/\∀(A:Int)(h2:Heap),dU (g.set id (c7L a2 T)) id s (E.mk a6 a7 b7 a8 ks) A h2-> ∃(s:BSt)(t:Int),(BH h2 id s/\GS s/\List.length (BSt.ns s)<99990/\M10.SK (BSt.ns s) 1 v/\(t=1\/t=2)/\M10.SK (BSt.ns s) t u/\M10.SK (BSt.ns s) t A)/\∀(D:Int)(j:Heap)(G:Y15),BE h2 id s j G (BSt.st s) 1->M10.SK G t D->aE j id fun e3=>aI .i64 e3 5 fun d6=> ∃(s:BSt)(t:Int),(BH j id s/\GS s/\List.length (BSt.ns s)<99990/\M10.SK (BSt.ns s) 1 v/\(t=1\/t=2)/\M10.SK (BSt.ns s) t d5/\M10.SK (BSt.ns s) t d6)/\∀(v:Int)(h2:Heap)(G:Y15),BE j id s h2 G (BSt.st s) 1->M10.SK G t v->aE h2 id fun V=>aD (Nat.ble 6 V.length) (Q (.int .i64 D) (h2.set id (IObj.cells (List.take 5 V++ [iI v]++List.drop 6 V))))))))) (aD (b7B ks) (aI .i64 (aW ks) 0 fun a9=>aI .i64 (aW ks) 1 fun b0=>bL (aW ks) 2 fun(b9:Y11)=>aI .i64 (aW ks) 3 fun b1=>aX 5 (aW ks) 4 fun(f7:Y10)(f1 d2:Nat)(c6:Y14)=> ∃(l:List E)(s:BSt),(d2=l.length/\c6=aW l)/\ExPre h id s O a9 b0 b9 b1 l/\∀(v:Int)(h2:Heap),dU h id s (E.mk a9 b0 b9 b1 l) v h2->aJ ((ks.length:Int)==1) (∃(p:PSt),bE h2 id p op 0 1 [iI v]/\∀(v:Int)(g:Heap),aQ h2 id p op 0 v g->Q (Mx v) g) (aD (true&&decide ((1:Int)< (ks.length:Int))) (aI .i64 (aW ks) 5 fun b2=>aI .i64 (aW ks) 6 fun b3=>bL (aW ks) 7 fun(c0:Y11)=>aI .i64 (aW ks) 8 fun b4=>aX 5 (aW ks) 9 fun(f8:Y10)(f2 d3:Nat)(c7:Y14)=> ∃(ks:List E)(s:BSt),(d3=ks.length/\c7=aW ks)/\ExPre h2 id s O b2 b3 c0 b4 ks/\∀(u:Int)(g:Heap),dU h2 id s (E.mk b2 b3 c0 b4 ks) u g->aJ (op==7) (∃(p:PSt),bE g id p 1 0 0 []/\∀(A:Int)(h2:Heap),aQ g id p 1 0 A h2-> ∃(p:PSt),bE h2 id p 16 0 2 [iI u,iI A]/\∀(D:Int)(j:Heap),aQ h2 id p 16 0 D j->aE j id fun(e4:Y14)=>aI .i64 e4 5 fun d7=> ∃(p:PSt),bE j id p 27 1 2 [iI d7,iI D]/\∀(K:Int)(h2:Heap),aQ j id p 27 1 K h2->aE h2 id fun X=>aD (Nat.ble 6 X.length) (∃(p:PSt),bE (h2.set id (c7M K X)) id p op 0 2 [iI v,iI u]/\∀(v:Int)(z:Heap),aQ (h2.set id (c7M K X)) id p op 0 v z->Q (Mx v) z)) (aJ (op==8) (∃(p:PSt),bE g id p 1 0 0 []/\∀(A:Int)(h2:Heap),aQ g id p 1 0 A h2-> ∃(p:PSt),bE h2 id p 16 0 2 [iI u,iI A]/\∀(D:Int)(j:Heap),aQ h2 id p 16 0 D j->aE j id fun e5=>aI .i64 e5 5 fun d8=> ∃(p:PSt),bE j id p 27 1 2 [iI d8,iI D]/\∀(K:Int)(h2:Heap),aQ j id p 27 1 K h2->aE h2 id fun(Y:Y14)=>aD (Nat.ble 6 Y.length) (∃(p:PSt),bE (h2.set id (c7N K Y)) id p op 0 2 [iI v,iI u]/\∀(v:Int)(z:Heap),aQ (h2.set id (c7N K Y)) id p op 0 v z->Q (Mx v) z)) (∃(p:PSt),bE g id p op 0 2 [iI v,iI u]/\∀(v:Int)(h2:Heap),aQ g id p op 0 v h2->Q (Mx v) h2)))))))))):=by kernel_rfl
theorem d7V: ∀d xs h Q,a8L d xs h Q->aO env 79 xs h Q:=by
 intro d
 induction d with
 |zero=>
  intro xs h Q L;unfold a8L at L;split at L
  ·rename_i id k n nm op m c;obtain⟨ks,s,⟨rfl,rfl⟩,hx,L⟩:=L;have hz:=hx.dp;omega
  ·exact L.elim
 |succ dd ih=>
  intro xs h Q L;unfold a8L at L;split at L
  ·rename_i id k n nm op m c;obtain⟨ks,s,⟨rfl,rfl⟩,hx,L⟩:=L;refine aN (aF ih (c1Q)) (d7U dd id k n nm op ks h Q) ?_;delta b7B Mx c7L c7M c7N iI;obtain⟨hb,hg,hw,hd,hc⟩:=hx;have h5:=hg.hn;have hn:K0 s.f k n nm op ks.length:=hw.1;have a1:Es.wf s.f ks:=hw.2;obtain⟨lv,d9⟩:=(BE.refl hb hg).get;unfold K0 at hn;rcases hn with⟨rfl,rfl,rfl,hl,hi⟩| ⟨rfl,rfl,rfl,hl,c2⟩| ⟨rfl,rfl,rfl,hl,c2⟩| ⟨rfl,rfl,rfl,ho⟩| ⟨rfl,rfl,rfl,rfl,hl⟩
   ·refine bt rfl ⟨s.pst [],hb.pre hg ⟨IN,hi⟩ kb0 IN,fun v h2 p=>?_⟩;have hE:E.cost (.mk 1 n [] 0 ks)=4+Es.cost ks:=E.cost4 IN;obtain⟨x1,l⟩:=BE.put (ss:=[]) (t:=1) hb hg p trivial fA IN ⟨IN,IN⟩ ⟨IN,hi⟩ IN IM;exact L v h2 ⟨_,_,x1.le IM,l⟩
   ·have d6:=hb;obtain⟨_,_,b4,b5,b6⟩:=d6;refine bf rfl (bt rfl (aB d9 (dE rfl ⟨s,⟨hb,c2⟩,fun i hi=>⟨rfl,?_⟩⟩)));have d0:i<s.vs.length:=by rw [hg.vl];exact hi
    refine bG IS (aB b6 (bY (n:=s.vs[i]) (by rw [BT,AE,AO,BL,AA d0];rfl) (L _ _ ⟨s.ns,s.st,(BE.refl hb hg).le (AR _),hg.av _ (AG d0)⟩)))
   ·obtain⟨e1,rfl⟩: ∃e,ks=[e]:=by
     match ks,hl with
     | [e],_=>exact⟨e,rfl⟩
    obtain⟨l,z,u,A,j⟩:=e1;have hE:E.cost (.mk 3 0 nm 0 [E.mk l z u A j])=4+Es.cost [E.mk l z u A j]:=E.cost4 IN;have a0:Es.cost [E.mk l z u A j]=E.cost (E.mk l z u A j):=by simp only [Es.cost];omega
    have c0:1+Es.dp j<=Es.dp [E.mk l z u A j]:=Es.dp_mem (e:=E.mk l z u A j) BJ;refine bf rfl (bf rfl (bt rfl (aA rfl (bY rfl (bY rfl (gO rfl (bY rfl (eF rfl ⟨j,s,⟨rfl,rfl⟩,⟨hb,hg,a1.1,IM,IM⟩,fun v h2 p=>?_⟩))))))));obtain⟨O,a5,D,kA⟩:=p;have nA:=D.len;refine⟨_,⟨D.bh,D.gs.pp,c2⟩,fun a ha=>⟨_,⟨D.bh,D.gs,by show O.length<99990;omega,IM,kA⟩,fun h3 T b9 xB=>?_⟩⟩;have y:=D.trans xB;have nB:=y.len;obtain⟨d2,a4⟩:=y.get;have a8:=y.gs.sk;have kB:=kA.mono xB.gx.pre;refine aB a4 (bY rfl ⟨({s with ns:=T,st:=b9 } :BSt).pst [b9,v],y.bh.pre y.gs ⟨IN,by unfold aR;omega⟩ (Ru a8.kb kB.kb) IQ,fun v2 h4 p2=>?_⟩);obtain⟨x2,X⟩:=BE.put (ss:=[2,1]) (t:=1) y.bh y.gs p2 ⟨⟨a8,IN⟩,⟨kB,IN⟩,trivial⟩ (b4T IM) IN ⟨IN,IN⟩ ⟨IN,by unfold aR;omega⟩ IQ (by show T.length<100000;omega);exact L _ _ ⟨_,_,(y.trans x2).le IM,X⟩
   ·have hl:ks.length=2\/ks.length=1:=IM;rcases hl with hl|hl
    ·obtain⟨e1,e2,rfl⟩: ∃e f,ks=[e,f]:=by
      match ks,hl with
      | [e,f],_=>exact⟨e,f,rfl⟩
     obtain⟨l,z,u,A,j⟩:=e1;obtain⟨X,Y,m2,Z,K⟩:=e2;have d1:4<=op/\op<=18:=by
      rcases ho with h|h
      ·exact h.2
      ·exact absurd h.1 IP
     have hE:E.cost (.mk 4 0 [] op [E.mk l z u A j,E.mk X Y m2 Z K])=4+Es.cost [E.mk l z u A j,E.mk X Y m2 Z K]:=E.cost4 IN;have a0:Es.cost [E.mk l z u A j,E.mk X Y m2 Z K]=E.cost (E.mk l z u A j)+E.cost (E.mk X Y m2 Z K):=by simp only [Es.cost];omega
     have c0:1+Es.dp j<=Es.dp [E.mk l z u A j,E.mk X Y m2 Z K]:=Es.dp_mem (e:=E.mk l z u A j) BJ;have c8:1+Es.dp K<=Es.dp [E.mk l z u A j,E.mk X Y m2 Z K]:=Es.dp_mem (e:=E.mk X Y m2 Z K) (BX _ BJ);refine bf rfl (bf rfl (bf rfl (bf rfl (aA rfl (bY rfl (bY rfl (gO rfl (bY rfl (eF rfl ⟨j,s,⟨rfl,rfl⟩,⟨hb,hg,a1.1,IM,IM⟩,fun v h2 p=>?_⟩)))))))));obtain⟨O,a5,D,kA⟩:=p;have nA:=D.len;refine bf rfl (aA rfl (bY rfl (bY rfl (gO rfl (bY rfl (eF rfl ⟨K,({s with ns:=O,st:=a5 } :BSt),⟨rfl,rfl⟩,⟨D.bh,D.gs,a1.2.1,IM,by show O.length+_<=90000;omega⟩,fun v2 h3 p=>?_⟩))))));obtain⟨T,b9,xB,kB⟩:=p;have y:=D.trans xB;have nB:=y.len;obtain⟨d2,a4⟩:=y.get;have a8:=y.gs.sk;have a2:=kA.mono xB.gx.pre;have ob:aR op:=by unfold aR;omega
     refine aC (fun c=>?_) (fun _=>aC (fun c=>?_) (fun _=>?_))
     ·refine⟨_,y.bh.pre y.gs ⟨IN,IN⟩ (kb0) IQ,fun v3 h4 p=>?_⟩;obtain⟨b1,x3,k3⟩:=BE.putE (ss:=[]) (t:=1) y.bh y.gs p (trivial) (fA) IN ⟨IN,IN⟩ ⟨IN,IN⟩ IQ (by show T.length<100000;omega);have V:=y.trans x3;have e8:=V.len;have c3:=a2.mono x3.gx.pre;have a3:=kB.mono x3.gx.pre;refine⟨_,V.bh.pre V.gs ⟨IN,IN⟩ (Ru a3.kb k3.kb) IQ,fun v4 h5 p=>?_⟩;obtain⟨b2,x4,k4⟩:=BE.putE (ss:=[1,1]) (t:=1) V.bh V.gs p (⟨⟨a3,IN⟩,⟨k3,IN⟩,trivial⟩) (xH IN) IN ⟨IN,IN⟩ ⟨IN,IN⟩ IQ (by show b1.length<100000;omega);have G:=V.trans x4;have e9:=G.len;have c5:=c3.mono x4.gx.pre;have c6:=a3.mono x4.gx.pre;have a7:=G.gs.sk;obtain⟨e6,c1⟩:=G.get;refine aB c1 (bY rfl ?_);refine⟨_,G.bh.pre G.gs ⟨IN,IN⟩ (Ru a7.kb k4.kb) IQ,fun v5 h6 p=>?_⟩;obtain⟨b3,x5,k5⟩:=BE.putE (ss:=[2,1]) (t:=2) G.bh G.gs p (⟨⟨a7,IN⟩,⟨k4,IN⟩,trivial⟩) (vB IN) IN ⟨IN,IN⟩ ⟨IN,IN⟩ IQ (by show b2.length<100000;omega);have y5:=G.trans x5;have f0:=y5.len;have a9:=c5.mono x5.gx.pre;have b0:=c6.mono x5.gx.pre;obtain⟨e7,a6⟩:=y5.get;refine aB a6 (aA rfl ?_);have y6:=y5.st k5 a6;refine⟨_,y6.bh.pre y6.gs ⟨ob,IN⟩ (Ru a9.kb b0.kb) IQ,fun v7 h8 p=>?_⟩;obtain⟨b7,x7,k7⟩:=BE.putE (ss:=[1,1]) (t:=1) y6.bh y6.gs p (⟨⟨a9,IN⟩,⟨b0,IN⟩,trivial⟩) (xH IM) IN ⟨IM,IM⟩ ⟨ob,IN⟩ IQ (by show b3.length<100000;omega);have y7:=y6.trans x7;have c7:=y7.len;exact L _ _ ⟨_,_,y7.le IM,k7⟩
     ·refine⟨_,y.bh.pre y.gs ⟨IN,IN⟩ (kb0) IQ,fun v3 h4 p=>?_⟩;obtain⟨b1,x3,k3⟩:=BE.putE (ss:=[]) (t:=1) y.bh y.gs p (trivial) (fA) IN ⟨IN,IN⟩ ⟨IN,IN⟩ IQ (by show T.length<100000;omega);have V:=y.trans x3;have e8:=V.len;have c3:=a2.mono x3.gx.pre;have a3:=kB.mono x3.gx.pre;refine⟨_,V.bh.pre V.gs ⟨IN,IN⟩ (Ru a3.kb k3.kb) IQ,fun v4 h5 p=>?_⟩;obtain⟨b2,x4,k4⟩:=BE.putE (ss:=[1,1]) (t:=1) V.bh V.gs p (⟨⟨a3,IN⟩,⟨k3,IN⟩,trivial⟩) (xH IN) IN ⟨IN,IN⟩ ⟨IN,IN⟩ IQ (by show b1.length<100000;omega);have G:=V.trans x4;have e9:=G.len;have c5:=c3.mono x4.gx.pre;have c6:=a3.mono x4.gx.pre;have a7:=G.gs.sk;obtain⟨e6,c1⟩:=G.get;refine aB c1 (bY rfl ?_);refine⟨_,G.bh.pre G.gs ⟨IN,IN⟩ (Ru a7.kb k4.kb) IQ,fun v5 h6 p=>?_⟩;obtain⟨b3,x5,k5⟩:=BE.putE (ss:=[2,1]) (t:=2) G.bh G.gs p (⟨⟨a7,IN⟩,⟨k4,IN⟩,trivial⟩) (vB IN) IN ⟨IN,IN⟩ ⟨IN,IN⟩ IQ (by show b2.length<100000;omega);have y5:=G.trans x5;have f0:=y5.len;have a9:=c5.mono x5.gx.pre;have b0:=c6.mono x5.gx.pre;obtain⟨e7,a6⟩:=y5.get;refine aB a6 (aA rfl ?_);have y6:=y5.st k5 a6;refine⟨_,y6.bh.pre y6.gs ⟨ob,IN⟩ (Ru a9.kb b0.kb) IQ,fun v7 h8 p=>?_⟩;obtain⟨b7,x7,k7⟩:=BE.putE (ss:=[1,1]) (t:=1) y6.bh y6.gs p (⟨⟨a9,IN⟩,⟨b0,IN⟩,trivial⟩) (xH IM) IN ⟨IM,IM⟩ ⟨ob,IN⟩ IQ (by show b3.length<100000;omega);have y7:=y6.trans x7;have c7:=y7.len;exact L _ _ ⟨_,_,y7.le IM,k7⟩
     ·refine⟨_,y.bh.pre y.gs ⟨ob,IN⟩ (Ru a2.kb kB.kb) IQ,fun v7 h8 p=>?_⟩;obtain⟨b7,x7,k7⟩:=BE.putE (ss:=[1,1]) (t:=1) y.bh y.gs p (⟨⟨a2,IN⟩,⟨kB,IN⟩,trivial⟩) (xH IM) IN ⟨IM,IM⟩ ⟨ob,IN⟩ IQ (by show T.length<100000;omega);have y7:=y.trans x7;have c7:=y7.len;exact L _ _ ⟨_,_,y7.le IM,k7⟩
    ·obtain⟨e1,rfl⟩: ∃e,ks=[e]:=by
      match ks,hl with
      | [e],_=>exact⟨e,rfl⟩
     obtain⟨l,z,u,A,j⟩:=e1;have d1:op=20\/op=21:=by
      rcases ho with h|h
      ·exact absurd h.1 IP
      ·omega
     have hE:E.cost (.mk 4 0 [] op [E.mk l z u A j])=4+Es.cost [E.mk l z u A j]:=E.cost4 IN;have a0:Es.cost [E.mk l z u A j]=E.cost (E.mk l z u A j):=by simp only [Es.cost];omega
     have c0:1+Es.dp j<=Es.dp [E.mk l z u A j]:=Es.dp_mem (e:=E.mk l z u A j) BJ;have ob:aR op:=by unfold aR;omega
     refine bf rfl (bf rfl (bf rfl (bf rfl (aA rfl (bY rfl (bY rfl (gO rfl (bY rfl (eF rfl ⟨j,s,⟨rfl,rfl⟩,⟨hb,hg,a1.1,IM,IM⟩,fun v h2 p=>?_⟩)))))))));obtain⟨O,a5,D,kA⟩:=p;have nA:=D.len;refine bt rfl ?_;refine⟨_,D.bh.pre D.gs ⟨ob,IN⟩ (kb1 kA.kb) IQ,fun v7 h8 p=>?_⟩;obtain⟨b7,x7,k7⟩:=BE.putE (ss:=[1]) (t:=1) D.bh D.gs p (⟨⟨kA,IN⟩,trivial⟩) (d1M d1) IN ⟨IM,IM⟩ ⟨ob,IN⟩ IQ (by show O.length<100000;omega);have y7:=D.trans x7;have c7:=y7.len;exact L _ _ ⟨_,_,y7.le IM,k7⟩
   ·obtain⟨e1,e2,e3,rfl⟩: ∃e f g,ks=[e,f,g]:=by
     match ks,hl with
     | [e,f,g],_=>exact⟨e,f,g,rfl⟩
    obtain⟨l,z,u,A,j⟩:=e1;obtain⟨X,Y,m2,Z,K⟩:=e2;obtain⟨k3,n3,m3,o3,q3⟩:=e3;have hE:E.cost (.mk 5 0 [] 0 [E.mk l z u A j,E.mk X Y m2 Z K,E.mk k3 n3 m3 o3 q3])=4+Es.cost [E.mk l z u A j,E.mk X Y m2 Z K,E.mk k3 n3 m3 o3 q3]:=E.cost4 IN;have a0:Es.cost [E.mk l z u A j,E.mk X Y m2 Z K,E.mk k3 n3 m3 o3 q3]=E.cost (E.mk l z u A j)+E.cost (E.mk X Y m2 Z K)+E.cost (E.mk k3 n3 m3 o3 q3):=by simp only [Es.cost];omega
    have c0:1+Es.dp j<=Es.dp [E.mk l z u A j,E.mk X Y m2 Z K,E.mk k3 n3 m3 o3 q3]:=Es.dp_mem (e:=E.mk l z u A j) BJ;have c8:1+Es.dp K<=Es.dp [E.mk l z u A j,E.mk X Y m2 Z K,E.mk k3 n3 m3 o3 q3]:=Es.dp_mem (e:=E.mk X Y m2 Z K) (BX _ BJ);have f1:1+Es.dp q3<=Es.dp [E.mk l z u A j,E.mk X Y m2 Z K,E.mk k3 n3 m3 o3 q3]:=Es.dp_mem (e:=E.mk k3 n3 m3 o3 q3) (BX _ (BX _ BJ));refine bf rfl (bf rfl (bf rfl (bt rfl (aA rfl (bY rfl (bY rfl (gO rfl (bY rfl (eF rfl ⟨j,s,⟨rfl,rfl⟩,⟨hb,hg,a1.1,IM,IM⟩,fun v h2 p=>?_⟩)))))))));obtain⟨O,a5,D,kA⟩:=p;have nA:=D.len;obtain⟨f2,d7⟩:=D.get;have e4:=D.gs.sk;refine aB d7 (bY rfl (aA rfl (bY rfl (bY rfl (gO rfl (bY rfl (eF rfl ⟨K,({s with ns:=O,st:=a5 } :BSt),⟨rfl,rfl⟩,⟨D.bh,D.gs,a1.2.1,IM,by show O.length+_<=90000;omega⟩,fun v2 h3 p=>?_⟩)))))));obtain⟨T,b9,xB,kB⟩:=p;have y:=D.trans xB;have nB:=y.len;obtain⟨d2,a4⟩:=y.get;have a8:=y.gs.sk;have a2:=kA.mono xB.gx.pre;have y2:=y.st (e4.mono xB.gx.pre) a4;refine aB a4 (bY rfl (aB a4 (aA rfl (aA rfl (bY rfl (bY rfl (gO rfl (bY rfl (eF rfl ⟨q3,({s with ns:=T,st:=a5 } :BSt),⟨rfl,rfl⟩,⟨y2.bh,y2.gs,a1.2.2.1,IM,by show T.length+_<=90000;omega⟩,fun v3 h4 p=>?_⟩)))))))));obtain⟨d3,d5,xC,kC⟩:=p;have V:=y2.trans xC;have nC:=V.len;have e5:=V.gs.sk;have pC:=xC.gx.pre;refine⟨({s with ns:=d3,st:=d5 } :BSt),1,⟨V.bh,V.gs,by show d3.length<99990;omega,a2.mono pC,.inl rfl,kB.mono pC,kC⟩,fun v4 h5 d4 xD kD=>?_⟩;have G:=V.trans xD;have nD:=G.len;obtain⟨f3,d8⟩:=G.get;have pD:=xD.gx.pre;refine aB d8 (bY rfl ⟨({s with ns:=d4,st:=d5 } :BSt),2,⟨G.bh,G.gs,by show d4.length<99990;omega,(a2.mono pC).mono pD,.inr rfl,(a8.mono pC).mono pD,e5.mono pD⟩,fun v5 h6 f5 xE kE=>?_⟩);have y5:=G.trans xE;obtain⟨f4,c9⟩:=y5.get;exact aB c9 (aA rfl (L _ _ ⟨_,_,(y5.st kE c9).le IM,kD.mono xE.gx.pre⟩))
  ·exact L.elim
def c7O:=aT 79 (fun xs h K=> ∃d,a8L d xs h K) c7K
theorem c1R:aP env c7O:=aF (fun xs h Q g=>g.elim fun d g=>d7V d xs h Q g) (c1Q)
end Go.Proofs.YtkonebkblgemkaaGreat
end
end
