/-
  Texts of this proof, one after the other.
  Conditions: none.
-/
import Derived.Test.YtkonebkblgemkaaGreatW15
set_option linter.unusedVariables false
set_option linter.unusedSimpArgs false
set_option maxRecDepth 100000
set_option maxHeartbeats 4000000
noncomputable section
variable{i j m b:Nat}{x y z u v:Int}{h g:Go.Pv.Heap}{c d l:List Go.Pv.IV}{A B C:List Go.M15.Nd}{K L:Y12}{s t:Go.Pv.IV}{F:List Go.M10.E}{D:Go.Pv.Meta}{V W:List Go.Value}{T U:Go.TypeId}{o:Bool}{X Y:Go.Value}{r:Y11}{G:Go.M10.BSt}{O:Go.Oper}{N:Y10}{H:Array Go.Value}
section
namespace Go.Proofs.YtkonebkblgemkaaGreat
open Go.Pv Go.M13 Go.M15 Go.M10 Go.M14
def Rx(xs:Y14)(h:Heap)(K:KT):Prop:=match xs with
 | [x]=>Rw [x] h K
 |_=>False
theorem d0W: ∀xs h Q,Rx xs h Q->aM env 63 xs h Q:=by
 intro xs h Q hk;unfold Rx at hk;split at hk
 .exact a4L _ _ _ hk
 .exact hk.elim
def Qf:=aV 63 Rx b5T
theorem Xo:aS env Qf:=aE d0W (c9Q)
def b8T(xs:Y14)(h:Heap)(K:KT):Prop:=match xs with
 | [.agg [.int .i64 a,.int .i64 b],.int .i64 n,.int .i64 s]=>(aZ n/\(s=0\/s=1))/\K (.tuple [eI (amG (a,b) n s).1,.bool (amG (a,b) n s).2]) h
 |_=>False
def eN(g:Int)(i:Int)(j:Bool):IV:=IV.tuple [.agg [.int .i64 g,iI i],IV.bool j]
def tH(a:Int)(b:Int)(g:Int)(i:Int):IV:=eN ((mM a b g i).1) ((mM a b g i).2) (iS a b g i)
def P4(n:Int)(s:Int)(Q:KT)(h:Heap)(a:Int)(b:Int)(j:Int)(g:Int)(i:Int):Prop:=aK (n==j) (aK (decide (s>0)) (Q (eN 0 0 false) h) (Q (tH a b g i) h)) (Q (tH a b g i) h)
theorem f2O(a b n s:Int)(h:Heap)(Q:KT):dF (aU Qf) env 127 cC bD bD [.agg [.int .i64 a,.int .i64 b],.int .i64 n,.int .i64 s] h Q=(
 P4 n s Q h a b (-9223372036854775808:Int) (-9223372036854775808:Int) (wW (n-s))):=by kernel_rfl
theorem f0A: ∀xs h Q,b8T xs h Q->aM env 127 xs h Q:=by
 intro xs h Q hk;unfold b8T at hk;split at hk
 .rename_i a b n s;refine aL (Xo) (f2O a b n s h Q) ?_;delta eN tH P4 wW iI; (try dsimp -iota -proj only);obtain⟨⟨⟨h1,h2⟩,g⟩,hk⟩:=hk;rcases g with rfl|rfl
  .have e:Tb n ((0:Int)==1)=((dH,n),true):=by
    unfold Tb
    rw [if_neg KB];simp
   unfold amG at hk;rw [e]at hk;refine aB (λ_=>cV (λc=>absurd c KA) (λ_=>?_)) (λ_=>?_)<;>rw [AA _ JZ,Int.sub_zero]
   .exact hk
   .exact hk
  .refine aB (λc=>cV (λ_=>?_) (λc=>absurd c KA)) (λc=>?_)
   .have e:Tb n ((1:Int)==1)=((0,0),false):=by
     unfold Tb
     rw [if_pos ⟨rfl,beq_iff_eq.1 c⟩]
    unfold amG at hk;rw [e]at hk;exact hk
   .rw [beq_eq_false_iff_ne]at c;have e:Tb n ((1:Int)==1)=((dH,n-1),true):=by
     unfold Tb
     rw [if_neg (λq=>c q.2)];rfl
    unfold amG at hk;rw [e]at hk;rw [AA _ JZ];exact hk
 .exact hk.elim
def b5Q:=aV 127 b8T Qf
theorem c1O:aS env b5Q:=aE f0A (Xo)
def b8S(xs:Y14)(h:Heap)(K:KT):Prop:=match xs with
 | [.agg [.int .i64 a,.int .i64 b],.int .i64 n,.int .i64 s]=>(aZ n/\(s=0\/s=1))/\K (.tuple [eI (alG (a,b) n s).1,.bool (alG (a,b) n s).2]) h
 |_=>False
theorem f2N(a b n s:Int)(h:Heap)(Q:KT):dF (aU b5Q) env 128 cC bD bD [.agg [.int .i64 a,.int .i64 b],.int .i64 n,.int .i64 s] h Q=(
 P4 n s Q h a b 9223372036854775807 (wW (n+s)) 9223372036854775807):=by kernel_rfl
theorem e9Z: ∀xs h Q,b8S xs h Q->aM env 128 xs h Q:=by
 intro xs h Q hk;unfold b8S at hk;split at hk
 .rename_i a b n s;refine aL (c1O) (f2N a b n s h Q) ?_;delta eN tH P4 wW iI; (try dsimp -iota -proj only);obtain⟨⟨⟨h1,h2⟩,g⟩,hk⟩:=hk;rcases g with rfl|rfl
  .have e:Qo n ((0:Int)==1)=((n,dN),true):=by
    unfold Qo
    rw [if_neg KB];simp
   unfold alG at hk;rw [e]at hk;refine aB (λ_=>cV (λc=>absurd c KA) (λ_=>?_)) (λ_=>?_)<;>rw [AA _ JZ,Int.add_zero]
   .exact hk
   .exact hk
  .refine aB (λc=>cV (λ_=>?_) (λc=>absurd c KA)) (λc=>?_)
   .have e:Qo n ((1:Int)==1)=((0,0),false):=by
     unfold Qo
     rw [if_pos ⟨rfl,beq_iff_eq.1 c⟩]
    unfold alG at hk;rw [e]at hk;exact hk
   .rw [beq_eq_false_iff_ne]at c;have e:Qo n ((1:Int)==1)=((n+1,dN),true):=by
     unfold Qo
     rw [if_neg (λq=>c q.2)];rfl
    unfold alG at hk;rw [e]at hk;rw [AA _ JZ];exact hk
 .exact hk.elim
def b5P:=aV 128 b8S b5Q
theorem c1N:aS env b5P:=aE e9Z (c1O)
def b9C(xs:Y14)(h:Heap)(K:KT):Prop:=match xs with
 | [.agg [.int .i64 a,.int .i64 b,.bool p],.agg [.int .i64 c,.int .i64 d,.bool q]]=>K (eO (joQ ((a,b),p) ((c,d),q))) h
 |_=>False
theorem f2Z(a b:Int)(p:Bool)(c d:Int)(q:Bool)(h:Heap)(Q:KT):dF (aU b5P) env 125 cC bD bD [.agg [.int .i64 a,.int .i64 b,.bool p],.agg [.int .i64 c,.int .i64 d,.bool q]] h Q=(
 aK (!p) (Q (.agg [.int .i64 c,iI d,IV.bool q]) h) (aK (!q) (Q (.agg [.int .i64 a,iI b,IV.bool p]) h) (Q (.agg [.int .i64 (min a c),iI (max b d),IV.bool true]) h))):=by kernel_rfl
theorem f0H: ∀xs h Q,b9C xs h Q->aM env 125 xs h Q:=by
 intro xs h Q hk;unfold b9C at hk;split at hk
 .rename_i a b p c d q;refine aL (c1N) (f2Z a b p c d q h Q) ?_;delta iI;unfold joQ at hk
  cases p<;>cases q<;>exact hk
 .exact hk.elim
def b6D:=aV 125 b9C b5P
theorem c1X:aS env b6D:=aE f0H (c1N)
def rkI(C:List (Int×Iv))(v:Int):Inv':=dL Nat (λx=>[(0,.v (.vslice none 0 C.length 3 (C.flatMap cL))),(1,.v (.int .i64 v)),(4,.l 4 0),(5,.v (.bool false)),(6,.v (.int .i64 (x:Int)))]) (λ_=>[(4,[.int .i64 0,.int .i64 0])]) (λ_=>Heap.empty) (λx=>x<=C.length/\(C.take x).find? (λp=>decide (p.1=v))=none) (λx=>C.length-x)
def e0H(xs:Y14)(h:Heap)(K:KT):Prop:=match xs with
 | [.vslice none e1 n 3 c,.int .i64 v]=> ∃C:dW,(n=C.length/\c=C.flatMap cL)/\C.length<=1099511627776/\K (.tuple [eI (iQ C v).1,.bool (iQ C v).2]) h
 |_=>False
def e6J(C:dW):=TV.v (.vslice none 0 C.length 3 (List.flatMap cL C))
def e6K:=[iI 0,iI 0]
def Ka(C:dW)(v:Int)(j:Int)(g:Nat)(m:Prop):Prop:=some (e6J C)=some (e6J C)/\tI v=tI v/\some (TV.l 4 0)=some (TV.l 4 0)/\some (TV.v (.bool false))=some (TV.v (.bool false))/\tI j=tI (g:Int)/\some e6K=some e6K/\Heap.mk PT.nil 0=Heap.mk PT.nil 0/\(g<=C.length/\List.find? (λi=>decide (i.1=v)) (List.take
 g C)=none)/\m
def qE(x:Nat)(g:Int):Bool:=decide (0<=(x:Int)) &&decide ((x:Int)<g)
theorem f8D(C:dW)(v:Int)(i:Nat)(h:Heap)(Q:KT):dF (aU b6D) env 65 cC (mJ 3 (rkI C v)) bD [.vslice none i C.length 3 (C.flatMap cL),.int .i64 v] h Q=(
 aF (aQ [IV.vslice none 0 C.length 3 (List.flatMap cL C),iI v]) ((∃(x:Nat),Ka C v 0 x True)/\∀(x:Nat)(r:FF),x<=C.length/\List.find? (λp=>decide (p.1=v)) (List.take x C)=none->aK (decide ((x:Int)< (C.length:Int))) (aF (qE x (C.length:Int)) (aN .i64 (List.flatMap cL C) ((x:Int).toNat*3+0) λj=>aK (j==v) (aF (qE x (C.length:Int)) (aN .i64 (List.flatMap cL C) ((x:Int).toNat*(3:Nat)+1) λl=>aN .i64 (List.flatMap cL C) ((x:Int).toNat*3+1+1) λm=>Q (eN l m true) h)) (∃(g:Nat),Ka C v (wW ((x:Int)+1)) g (C.length-g<List.length C-x)))) (Q (eN (-9223372036854775808:Int) 9223372036854775807 false) h))):=by kernel_rfl
theorem f6I: ∀xs h Q,e0H xs h Q->aM env 65 xs h Q:=by
 intro xs h Q hk;unfold e0H at hk;split at hk
 .rename_i z n c v;obtain⟨C,⟨rfl,rfl⟩,G,hk⟩:=hk;refine aL (c1X) (f8D C v z h Q) ?_;delta e6J e6K Ka qE eN tI wW iI;have D: ∀x:Nat,(x:Int).toNat=x:=AK
  refine aA (by simp only [aQ,aY,eY,AN]) ⟨⟨0,KD,KD,KD,KD,KD,KD,KD,⟨AR _,rfl⟩,KD⟩,?_⟩;rintro x _ ⟨K,m⟩;have i:x=C.length->C.find? (λp=>decide (p.1=v))=none:=λe=>by
   rw [e,EC]at m;exact m
  refine cV (λc=>?_) (λc=>?_)
  rotate_left
  .unfold iQ at hk;rw [i JZ]at hk;exact hk
  have l:x<C.length:=JZ;have g: ∀j,j<3->(C.flatMap cL)[(x:Int).toNat*3+j]?=(cL C[x])[j]?:=λj A=>by rw [D];exact gA l j A
  have r:IntKind.i64.wrap ((x:Int)+1)=((x+1:Nat):Int):=by rw [AA _ JZ];rfl
  have u:C.take (x+1)=C.take x++ [C[x]]:=AO l;refine aA (by simp;omega) (aR (g 0 KA) (aB (λd=>?_) (λd=>⟨x+1,KD,KD,KD,KD,by rw [r],KD,KD,⟨JZ,?_⟩,JZ⟩)))
  .have y:C[x].1=v:=beq_iff_eq.1 d;have e:C.find? (λp=>decide (p.1=v))=some C[x]:=by
    have h2:(C.take (x+1)++C.drop (x+1)).find? (λp=>decide (p.1=v))=some C[x]:=by
     rw [u,FI,FI,m];simp [EH,y]
    rwa [DQ]at h2
   unfold iQ at hk;rw [e]at hk;exact aA (by simp;omega) (aR (g 1 KA) (aR (g 2 KA) hk))
  .rw [beq_eq_false_iff_ne]at d;rw [u,FI,m,EH];have:decide (C[x].1=v)=false:=decide_eq_false d;rw [this];rfl
 .exact hk.elim
def d8H:=aV 65 e0H b6D
theorem d5T:aS env d8H:=aE f6I (c1X)
def rnI(l:Y15)(v:Int):Inv':=dL Nat (λx=>[(0,.v (.vslice none 0 (l).length 3 ((l).flatMap cN))),(1,.v (.int .i64 v)),(5,.v (.vslice none 0 (aD l).length 1 ((aD l).map (IV.int .i64)))),(6,.v (.int .i64 (x:Int)))]) (λ_=>[]) (λ_=>Heap.empty) (λx=>x<=l.length/\E6 l v x= -1) (λx=>l.length-x)
def e0I(xs:Y14)(h:Heap)(K:KT):Prop:=match xs with
 | [.vslice none e1 n 3 c,.int .i64 v]=> ∃l:Y15,(n=l.length/\c=l.flatMap cN)/\((∀x∈l,aZ x.im/\x.ks.length<=41)/\l.length<=100000)/\K (.int .i64 (T6 l v)) h
 |_=>False
def e6I(l:Y15):=TV.v (.vslice none 0 l.length 3 (List.flatMap cN l))
def Jz(l:Y15)(v:Int)(i:Y15)(j:Int)(g:Nat)(m:Prop):Prop:=some (e6I l)=some (e6I l)/\tI v=tI v/\some (TV.v (.vslice none 0 ((aD i).length) 1 (List.map (IV.int .i64) (aD i))))=some (TV.v (.vslice none 0 ((aD l).length) 1 (List.map (IV.int .i64) (aD l))))/\tI j=tI (g:Int)/\Heap.mk PT.nil 0=Heap.mk PT.nil
 0/\(g<=l.length/\E6 l v g=(-1:Int))/\m
def P5(l:Y15)(v:Int)(x:Nat):Prop:= ∃(g:Nat),Jz l v l (wW ((x:Int)+1)) g (l.length-g<l.length-x)
theorem f8E(l:Y15)(v:Int)(j:Nat)(h:Heap)(Q:KT):dF (aU d8H) env 64 cC (mJ 4 (rnI l v)) bD [.vslice none j (l).length 3 ((l).flatMap cN),.int .i64 v] h Q=(
 aF (aQ [IV.vslice none 0 l.length 3 (List.flatMap cN l),iI v]) (∃(g:Y15),(l.length=g.length/\List.flatMap cN l=List.flatMap cN g)/\((∀(i:Nd),i∈g->List.length (Nd.ks i)<=1000000/\True)/\g.length<=(1000000:Nat))/\(∃(x:Nat),Jz l v g 0 x True)/\∀(x:Nat)(y:FF),x<=l.length/\E6 l v x=(-1:Int)->aK (decide ((x:Int)< (l.length:Int))) (aF (qE x (l.length:Int)) (aN .i64 (List.flatMap cN l) ((x:Int).toNat*(3:Nat)+0) λm=>aK (m==31) (aF (qE x (l.length:Int)) (aN .i64 (List.flatMap cN l) ((x:Int).toNat*3+1) λr=>aK (r==v) (aF (qE x (↑((aD l).length):Int)) (aN .i64 (List.map (IV.int .i64) (aD l)) ((x:Int).toNat*1) λu=>aK (u==3) (Q (.int .i64 (x:Int)) h) (P5 l v x))) (P5 l v x))) (P5 l v x))) (Q (.int .i64 (-1:Int)) h))):=by kernel_rfl
theorem f6J: ∀xs h Q,e0I xs h Q->aM env 64 xs h Q:=by
 intro xs h Q hk;unfold e0I at hk;split at hk
 .rename_i j n c v;obtain⟨l,⟨rfl,rfl⟩,z,hk⟩:=hk;refine aL (d5T) (f8E l v j h Q) ?_;delta e6I Jz qE P5 tI wW iI;have u: ∀x:Nat,(x:Int).toNat=x:=AK
  obtain⟨G,z⟩:=z;refine aA (by simp only [aQ,aY,bX,AN]) ⟨l,⟨rfl,rfl⟩,⟨λx A=>⟨by have:=(G x A).2;omega,True.intro⟩,JZ⟩,⟨0,KD,KD,KD,KD,KD,⟨AR _,rfl⟩,KD⟩,?_⟩;rintro x _ ⟨A,hm⟩;refine cV (λc=>?_) (λc=>?_)
  rotate_left
  .have:x=l.length:=JZ;rw [this]at hm;unfold T6 at hk;rw [hm]at hk;exact hk
  have i:x<l.length:=JZ;have m:(aD l).length=l.length:=bA l;have g:IntKind.i64.wrap ((x:Int)+1)=((x+1:Nat):Int):=by rw [AA _ JZ];rfl
  have e0:(l.flatMap cN)[(x:Int).toNat*3+0]?=some (.int .i64 l[x].op):=by rw [u,pD i KA];rfl
  have j:(l.flatMap cN)[(x:Int).toNat*3+1]?=some (.int .i64 l[x].im):=by rw [u,pD i KA];rfl
  have D:((aD l).map (IV.int .i64))[(x:Int).toNat*1]?=some (.int .i64 ((aD l).getD x 0)):=by rw [u,AM,BJ,AB JZ,bO (by omega:x< (aD l).length)];rfl
  have y:l.getD x default=l[x]:=bO i;have r: ¬ (l[x].op=31/\l[x].im=v/\(aD l).getD x 0=3)->x+1<=l.length/\E6 l v (x+1)= -1:=λq=>⟨JZ,by rw [E6,if_neg (by simp [hm]),y,if_neg q]⟩
  refine aA (by simp;omega) (aR e0 (aB (λa=>aA (by simp;omega) (aR j (aB (λb=>aA (by simp [m];omega) (aR D (aB (λd=>?_) (λd=>⟨x+1,KD,KD,KD,by rw [g],KD,r (λq=>?_),JZ⟩)))) (λb=>⟨x+1,KD,KD,KD,by rw [g],KD,r (λq=>?_),JZ⟩)))) (λa=>⟨x+1,KD,KD,KD,by rw [g],KD,r (λq=>?_),JZ⟩)))
  .have e:E6 l v (x+1)=(x:Int):=by rw [E6,if_neg (by simp [hm]),y,if_pos ⟨beq_iff_eq.1 a,beq_iff_eq.1 b,beq_iff_eq.1 d⟩]
   unfold T6 at hk;rw [H2 (by rw [e];omega) l.length JZ,e]at hk;exact hk
  .exact(beq_eq_false_iff_ne.1 d) q.2.2
  .exact(beq_eq_false_iff_ne.1 b) q.2.1
  .exact(beq_eq_false_iff_ne.1 a) q.1
 .exact hk.elim
def d8I:=aV 64 e0I d8H
theorem d5U:aS env d8I:=aE f6J (d5T)
def b9E(xs:Y14)(h:Heap)(K:KT):Prop:=match xs with
 | [.vslice none e1 n1 3 c1,.int .i64 d,.int .i64 x,.agg [.int .i64 a,.int .i64 b],.vslice none e2 n2 2 c2]=> ∃(l:Y15)(R:List Iv),(n1=l.length/\c1=l.flatMap cN/\n2=R.length/\c2=R.flatMap cR)/\((∀n∈l,aZ n.im/\n.ks.length<=41)/\l.length<=100000/\R.length=l.length/\(∀r∈R,cF r)/\(0<=d/\d<l.length)/\((l.getD d.toNat default).op=17\/ (l.getD d.toNat default).op=18\/ (l.getD d.toNat default).op=19->(l.getD d.toNat default).ks.length=2/\∀k∈ (l.getD d.toNat default).ks,0<=k/\k<l.length))/\K (.tuple [eI (jL l ⟨0,0,x,d⟩ (a,b) R).1,.bool (jL l ⟨0,0,x,d⟩ (a,b) R).2]) h
 |_=>False
def c6S(g:Nat):=true&&decide (1< (g:Int))
def d3P(g:Nat):=true&&decide (0< (g:Int))
def xY(r:Y14)(R:List Iv)(j:Nat)(l:Nat)(m:Int->Prop):=aN .i64 r j λg=>aF (decide (0<=g) &&decide (g< (R.length:Int))) (aN .i64 (List.flatMap cR R) (g.toNat*2+l) λi=>m i)
def Jy(X:Int)(r:Nat)(m:Y14)(j:Int)(Q:KT)(a:Int)(b:Int)(h:Heap)(R:List Iv)(l:Int)(G:Int->Int)(K:Int->Int)(L:Int->Bool)(O:Int->Int)(T:Int->Int)(V:Int->Bool):Prop:=aK (X==19) (aF (d3P r) (aN .i64 m 0 λA=>aK (A !=j) (Q (eN a b true) h) (aF (c6S r) (xY m R 1 0 (λD=>aK (decide (D<0)) (Q (eN a b true) h) (aF (c6S r) (xY m R 1 1 (λu=>Q (tH a b (0:
 Int) (wW (u-1))) h)))))))) (aF (d3P r) (aN .i64 m 0 λy=>aK (y==j) (aF (c6S r) (xY m R 1 1 (λg=>(aZ g/\(l=0\/l=1))/\Q (eN (G g) (K g) (L g)) h))) (aF (c6S r) (aN .i64 m 1 λz=>aK (z
 ==j) (aF (d3P r) (xY m R 0 0 (λi=>(aZ i/\(l=0\/l=1))/\Q (eN (O i) (T i) (V i)) h))) (Q (eN a b true) h)))))
def P3(z:Int)(y:Nat)(u:Y14)(g:Int)(Q:KT)(a:Int)(b:Int)(h:Heap)(R:List Iv):Prop:=Jy z y u g Q a b h R 0 (λi=>((mM a b dH (i-0)).1)) (λj=>((mM a b dH (j-0)).2)) (λl=>(iS a b dH (l-0))) (λm=>((mM a b (m+0) dN).1)) (λr=>((mM a b (r+0) dN).2)) (fun
 zb48=>(iS a b (zb48+0) dN))
def Zb(m:Int)(u:Nat)(r:Y14)(g:Int)(Q:KT)(a:Int)(b:Int)(h:Heap)(R:List Iv)(i:Int)(j:Int)(l:Prop):Prop:=aK (m !=i) (aK (m !=j) l (P3 m u r g Q a b h R)) (P3 m u r g Q a b h R)
def P1(A:Int)(z:Nat)(y:Y14)(g:Int)(Q:KT)(a:Int)(b:Int)(h:Heap)(R:List Iv):Prop:=Jy A z y g Q a b h R 1 (λi=>(((amG (a,b) i 1).1).1)) (λj=>(((amG (a,b) j 1).1).2)) (λl=>((amG (a,b) l 1).2)) (λm=>(((alG (a,b) m 1).1).1)) (λr=>
 (((alG (a,b) r 1).1).2)) (λu=>((alG (a,b) u 1).2))
theorem f3B(l:Y15)(R:List Iv)(d x a b:Int)(m r:Nat)(h:Heap)(Q:KT):dF (aU d8I) env 69 cC bD bD [.vslice none m (l).length 3 ((l).flatMap cN),.int .i64 d,.int .i64 x,.agg [.int .i64 a,.int .i64 b],.vslice none r R.length 2 (R.flatMap cR)] h Q=(
 aF (aQ [IV.vslice none 0 l.length 3 (List.flatMap cN l),iI d,iI x,IV.agg [.int .i64 a,iI b],IV.vslice none 0 R.length 2 (List.flatMap cR R)]) (aF (decide (0<=d) &&decide (d< (l.length:Int))) (aN .i64 (List.flatMap cN l) (d.toNat*3) λg=>aN .i64 (List.flatMap cN l) (d.toNat*3+1) λz=>bM 1 (List.flatMap cN l) (d.toNat*3+1+1) λy u j i=>aK (g==18) (Zb g j i x Q a b h R 17 18 (aK (g !=19) (Q (eN a b true) h) (P3 g j i x Q a b h R))) (aK (g !=17) (aK (g !=18) (aK (g !=19) (Q (eN a b true) h) (P1 g j i x Q a b h R)) (P1 g j i x Q a b h R)) (P1 g j i x Q a b h R))))):=by kernel_rfl
theorem f0J: ∀xs h Q,b9E xs h Q->aM env 69 xs h Q:=by
 intro xs h Q hk;unfold b9E at hk;split at hk
 .rename_i e1 D c1 d x a b e2 n2 g;obtain⟨l,R,⟨rfl,rfl,rfl,rfl⟩,hb,hk⟩:=hk;refine aL (d5U) (f3B l R d x a b e1 e2 h Q) ?_;delta d3P eN c6S xY tH Jy P3 Zb P1 wW iI; (try dsimp -iota -proj only);have tn: ∀x:Nat,(x:Int).toNat=x:=AK
  obtain⟨hn,hl,hR,K,⟨a0,a1⟩,j⟩:=hb;have z:d.toNat<l.length:=JZ;have L:l.getD d.toNat default=l[d.toNat]:=bO z;rw [L]at j;unfold jL at hk;dsimp only at hk;rw [L]at hk;have rAt: ∀k:Int,0<=k/\k<l.length->((R.flatMap cR)[k.toNat*2+0]?=some (.int .i64 (gR R k).1)/\(R.flatMap cR)[k.toNat*2+1]?=some (.int .i64 (gR R k).2))/\cF (gR R k):=λk hk=>by
   have i:k.toNat<R.length:=JZ;have e:gR R k=R[k.toNat]:=bO i;rw [e];exact⟨⟨(A5 i).1,(A5 i).2⟩,K _ (AG i)⟩
  refine aA (by simp only [aQ,aY,bX,pM,AN]) (aA (by simp;omega) (uM z rfl ?_));generalize l[d.toNat]=N at j hk⊢;obtain⟨o,im,ks⟩:=N;dsimp only at j hk⊢
  by_cases ho:o=17\/o=18\/o=19
  rotate_left
  .rw [if_pos ⟨λe=>ho (.inl e),λe=>ho (.inr (.inl e)),λe=>ho (.inr (.inr e))⟩]at hk;refine aB (λc=>absurd (beq_iff_eq.1 c) (λe=>ho (.inr (.inl e)))) (λ_=>aB (λ_=>aB (λ_=>aB (λ_=>hk) (λc=>?_)) (λc=>?_)) (λc=>?_))
   .exact absurd (bne_eq_false_iff_eq.1 c) (λe=>ho (.inr (.inr e)))
   .exact absurd (bne_eq_false_iff_eq.1 c) (λe=>ho (.inr (.inl e)))
   .exact absurd (bne_eq_false_iff_eq.1 c) (λe=>ho (.inl e))
  obtain⟨h2,A⟩:=j ho;obtain⟨r,u,rfl⟩: ∃r u,ks=[r,u]:=by
   match ks,h2 with
   | [a,b],_=>exact⟨a,b,rfl⟩
  have Y:=A r KB;have Z:=A u KB;obtain⟨⟨y,X⟩,O⟩:=rAt r Y;obtain⟨⟨G,m⟩,T⟩:=rAt u Z;simp only [JN,JP]at hk;have V:(decide (0<=r) &&decide (r< (R.length:Int)))=true:=by simp;omega
  have D:(decide (0<=u) &&decide (u< (R.length:Int)))=true:=by simp;omega
  rcases ho with rfl|rfl|rfl
  .refine aB (λc=>absurd c KA) (λ_=>aB (λc=>absurd c KA) (λ_=>aB (λc=>absurd c KA) (λ_=>?_)));rw [if_neg KA,if_neg KA]at hk;refine aA rfl (aR rfl (aB (λc=>aA rfl (aR rfl (aA D (aR m ⟨⟨T.2,by first|exact .inl rfl|exact .inr rfl⟩,?_⟩)))) (λc=>aA rfl (aR rfl (aB (λg=>aA rfl (aR rfl (aA V (aR y ⟨⟨O.1,by first|exact .inl rfl|exact .inr rfl⟩,?_⟩)))) (λg=>?_))))))
   .rw [if_pos (beq_iff_eq.1 c)]at hk;exact hk
   .rw [if_neg (beq_eq_false_iff_ne.1 c),if_pos (beq_iff_eq.1 g)]at hk;exact hk
   .rw [if_neg (beq_eq_false_iff_ne.1 c),if_neg (beq_eq_false_iff_ne.1 g)]at hk;exact hk
  .refine aB (λ_=>aB (λ_=>aB (λc=>absurd c KA) (λ_=>aB (λc=>absurd c KA) (λ_=>?_))) (λc=>absurd c KA)) (λc=>absurd c KA);rw [if_neg KA,if_neg KA]at hk;refine aA rfl (aR rfl (aB (λc=>aA rfl (aR rfl (aA D (aR m ⟨⟨T.2,by first|exact .inl rfl|exact .inr rfl⟩,?_⟩)))) (λc=>aA rfl (aR rfl (aB (λg=>aA rfl (aR rfl (aA V (aR y ⟨⟨O.1,by first|exact .inl rfl|exact .inr rfl⟩,?_⟩)))) (λg=>?_))))))
   .rw [if_pos (beq_iff_eq.1 c)]at hk;exact hk
   .rw [if_neg (beq_eq_false_iff_ne.1 c),if_pos (beq_iff_eq.1 g)]at hk;exact hk
   .rw [if_neg (beq_eq_false_iff_ne.1 c),if_neg (beq_eq_false_iff_ne.1 g)]at hk;exact hk
  .refine aB (λc=>absurd c KA) (λ_=>aB (λ_=>aB (λ_=>aB (λc=>absurd c KA) (λ_=>aB (λ_=>?_) (λc=>absurd c KA))) (λc=>absurd c KA)) (λc=>absurd c KA));rw [if_neg KA,if_pos rfl]at hk;refine aA rfl (aR rfl (aB (λc=>?_) (λc=>aA rfl (aR rfl (aA D (aR G (cV (λg=>?_) (λg=>aA rfl (aR rfl (aA D (aR m ?_)))))))))))
   .rw [if_pos (.inl (bne_iff_ne.1 c))]at hk;exact hk
   .rw [if_pos (.inr g)]at hk;exact hk
   .rw [if_neg (λq=>q.elim (λq=>q (bne_eq_false_iff_eq.1 c)) g)]at hk;exact hk
 .exact hk.elim
def b6F:=aV 69 b9E d8I
theorem c1Z:aS env b6F:=aE f0J (d5U)
def ri1(l:Y15)(C:dW):Inv':= .or (dL Unit (λ_=>[(0,.v (.vslice none 0 (l).length 3 ((l).flatMap cN))),(1,.v (.vslice none 0 C.length 3 (C.flatMap cL))),(5,.v (.vslice none 0 (aD l).length 1 ((aD l).map (IV.int .i64)))),(6,.v .nilslice),(7,.v (.int .i64 0))]) (λ_=>[]) (λ_=>Heap.empty) (λ_=>0<=l.length) (λ_=>l.length+1)) (dL RiX (λx=>[(0,.v (.vslice none 0 (l).length 3 ((l).flatMap cN))),(1,.v (.vslice none 0 C.length 3 (C.flatMap cL))),(5,.v (.vslice none 0 (aD l).length 1 ((aD l).map (IV.int .i64)))),(6,.v (.vslice (some x.t) (2*x.i) x.i 2 ((rP l (kSI C) x.i).flatMap cR))),(7,.v (.int .i64 (x.i:Int)))]) (λ_=>[]) (λx=>x.g) (λx=>RiR l x) (λx=>l.length-x.i))
def ri2(l:Y15)(C:dW):Inv':= .or (dL Iv (λq=>[(0,.v (.vslice none 0 (l).length 3 ((l).flatMap cN))),(1,.v (.vslice none 0 C.length 3 (C.flatMap cL))),(5,.v (.vslice none 0 (aD l).length 1 ((aD l).map (IV.int .i64)))),(6,.v .nilslice),(7,.v (.int .i64 0)),(10,.l 10 0)]) (λq=>[(10,[.int .i64 q.1,.int .i64 q.2])]) (λ_=>Heap.empty) (λq=>1<=l.length/\q=nR l ((aD l).getD 0 0) (kSI C) [] (l.getD 0 default)) (λ_=>l.length+1)) (dL RiX (λx=>[(0,.v (.vslice none 0 (l).length 3 ((l).flatMap cN))),(1,.v (.vslice none 0 C.length 3 (C.flatMap cL))),(5,.v (.vslice none 0 (aD l).length 1 ((aD l).map (IV.int .i64)))),(6,.v (.vslice (some x.t) (2*x.i) x.i 2 ((rP l (kSI C) x.i).flatMap cR))),(7,.v (.int .i64 (x.i:Int))),(10,.l 10 0)]) (λx=>[(10,[.int .i64 x.q.1,.int .i64 x.q.2])]) (λx=>x.g) (λx=>RiR l x/\x.i<l.length/\x.q=nR l ((aD l).getD x.i 0) (kSI C) (rP l (kSI C) x.i) (l.getD x.i default)) (λx=>l.length-x.i))
def ri3(l:Y15)(C:dW):Inv':= .or (atP (l.length=0) [(6,.v .nilslice)] [] Heap.empty) (dL RiX (λx=>[(6,.v (.vslice (some x.t) (2*x.i) x.i 2 ((rP l (kSI C) x.i).flatMap cR)))]) (λ_=>[]) (λx=>x.g) (λx=>x.i=l.length) (λ_=>0))
def a7B(xs:Y14)(h:Heap)(K:KT):Prop:=match xs with
 | [.vslice none e1 n1 3 c1,.vslice none e2 n2 3 c2]=> ∃(l:Y15)(C:dW),(n1=l.length/\c1=l.flatMap cN/\n2=C.length/\c2=C.flatMap cL)/\((∀n∈l,aZ n.im/\n.ks.length<=41)/\l.length<=100000)/\((∀p∈C,cF p.2)/\C.length<=1099511627776)/\K (.vslice none 0 l.length 2 ((rG l (kSI C)).flatMap cR)) h
 |_=>False
def d2X(i:Int)(g:Nat):=wW (wW (Int.tdiv (g:Int) 2)+1)+i
def e5W:=[iI (-9223372036854775808:Int),iI 9223372036854775807]
def Mh(l:Y15):=List.flatMap cN l
def c6H:=TV.l 10 0
def e5X(C:dW):=TV.v (.vslice none 0 C.length 3 (List.flatMap cL C))
def d2Y(l:Y15):=List.map (IV.int .i64) (aD l)
def d2Z(l:Y15):=List.getD (aD l) 0 0
def c6I(l:Y15)(C:dW)(g:RiX):=List.flatMap cR (rP l (kSI C) (RiX.i g))
def e5Y(l:Y15):=TV.v (.vslice none 0 l.length 3 (Mh l))
def c6J:=TV.v IV.nilslice
def qF(l:Y15)(C:dW)(g:Y15)(i:IV)(j:IV)(m:Int)(r:Int)(u:Prop):Prop:=some (e5Y l)=some (e5Y l)/\some (e5X C)=some (e5X C)/\some (TV.v (.vslice none 0 ((aD g).length) 1 (List.map (IV.int .i64) (aD g))))=some (TV.v (.vslice none 0 ((aD l).length) 1 (d2Y l)))/\some (TV.v i)=some (TV.v j)/\tI m=tI r/\u
def kG(l:Y15)(C:dW)(g:RiX):IV:=IV.vslice (some (RiX.t g)) ((2:Nat)*RiX.i g) (RiX.i g) 2 (List.flatMap cR (rP l (kSI C) (RiX.i g)))
def Kb(l:Y15)(C:dW)(m:IV)(r:Int)(u:Y14)(y:Int×Int->Prop)(z:RiX->Prop):Prop:=(∃(j:Int×Int),qF l C l m IV.nilslice r 0 (some c6H=some c6H/\some u=some [iI j.1,iI j.2]/\y j)) \/ ∃(g:RiX),qF l C l m (kG l C g) r ((RiX.i g):Int) (some c6H=some c6H/\some u=some [iI ((RiX.q g).1),iI (Prod.snd
 (RiX.q g))]/\z g)
def Kf(l:Y15)(C:dW)(M:Nat)(g:RiX):Prop:=(RiR l g/\RiX.i g<l.length/\RiX.q g=nR l (List.getD (aD l) (RiX.i g) 0) (kSI C) (rP l (kSI C) (RiX.i g)) (List.getD l (RiX.i g) default))/\l.length-RiX.i g<=M
def xZ(l:Y15)(C:dW)(M:Nat)(m:Int)(r:Int):Prop:=Kb l C IV.nilslice 0 [iI m,iI r] (λj=>Heap.mk PT.nil 0=Heap.mk PT.nil 0/\(1<=l.length/\j=nR l (d2Z l) (kSI C) [] (List.getD l 0 default))/\l.length+1<=M) (λi=>Heap.mk PT.nil 0=RiX.g i/\Kf l C M i)
def gY(i:Int)(j:Nat)(l:Y14)(m:Nat)(r:Int->Prop):Prop:=aF (true&&decide (i< (j:Int))) (aN .i64 l m λg=>r g)
def Kd(C:dW)(l:Y15)(g:Int)(r:Int)(T:List (Int×Iv)->Prop)(y:Prop)(j:Nat)(m:Y14)(V:Nat->Y14->Int->Prop)(X:Int->Prop)(Y:Int->Prop)(Z:Int->Prop)(a0:Int->Prop)(a1:Int->Prop):Prop:=aK (g==3) (∃(i:List (Int×Iv)),(C.length=i.length/\List.flatMap cL C=List.flatMap cL i)/\i.length<=1099511627776/\aK (decide (((iQ i r).1).1<=Prod.snd ((iQ i r).1))) (T i) y) (aK (g==25) (gY 0 j m
 (0:Nat) (λu=>aF (decide (0<=u) &&decide (u< (l.length:Int))) (bM 1 (Mh l) (u.toNat*3+2) λa2 a3 z A=>aF (decide (0<=r) &&decide (r< (z:Int))) (aN .i64 A (r.toNat*1) λD=>V z A D)))) (aK (g==20) (gY
 (0:Int) j m 0 (λG=>X G)) (aK (g==21) (gY 0 j m 0 (λK=>Y K)) (aK (decide (g>=4)) (aK (decide (g<=19)) (gY 0 j m 0 (λL=>Z L)) (aK (g==22) (gY 0 j m
 (0:Nat) (λO=>a0 O)) y)) (aK (g==22) (gY 0 j m 0 (λR=>a1 R)) y)))))
def Ke(l:Y15)(C:dW)(G:Prop)(K:Heap)(L:IV)(A:Iv)(D:Int)(O:RiX->Prop):Prop:=dX K 2 16 L 1 [iI A.1,iI A.2] λm r u y z=>(∃(R:Unit),qF l C l (IV.vslice (some m) r u 2 y) IV.nilslice D 0 (z=Heap.mk PT.nil 0/\Nat.le 0 l.length/\G)) \/ ∃(j:RiX),qF l C l (IV.vslice
 (some m) r u 2 y) (kG l C j) D ((RiX.i j):Int) (z=RiX.g j/\RiR l j/\O j)
def Kc(l:Y15)(C:dW)(M:Nat)(r:Prop)(z:RiX->Prop)(A:RiX->Prop):Prop:=(∀(m:Iv)(D:FF),1<=l.length/\m=nR l (d2Z l) (kSI C) [] (List.getD l 0 default)->l.length+1<=M->Ke l C r (Heap.mk PT.nil 0) IV.nilslice m 1 (λu=>z u))/\∀(j:RiX)(G:FF),RiR l j/\RiX.i j<l.length/\RiX.q j=nR l (List.getD
 (aD l) (RiX.i j) 0) (kSI C) (rP l (kSI C) (RiX.i j)) (List.getD l (RiX.i j) default)->l.length-RiX.i j<=M->Ke l C r (RiX.g j) (kG l C j) (RiX.q j) (wW (((RiX.i j):Int)+1)) (λy=>A y)
def jF(l:Y15)(C:dW)(m:RiX)(M:Nat)(u:Y14):Prop:=Kb l C (kG l C m) ((RiX.i m):Int) u (λr=>RiX.g m=Heap.mk PT.nil 0/\(1<=l.length/\r=nR l (d2Z l) (kSI C) [] (List.getD l 0 default))/\l.length+1<=M) (λj=>RiX.g m=RiX.g j/\Kf l C M j)
def fU(u:RiX)(l:Y15)(C:dW)(g:Int)(r:Int->Int->Prop):Prop:=aF (decide (0<=g) &&decide (g< ((RiX.i u):Int))) (aN .i64 (c6I l C u) (g.toNat*2) λj=>aN .i64 (c6I l C u) (g.toNat*2+1) λm=>r j m)
theorem f2Y(l:Y15)(C:dW)(e1 e2:Nat)(h:Heap)(Q:KT):dF (aU b6F) env 32 cC (mJ 5 (ri1 l C)) (zE 1000026 (ri2 l C) (mJ 27 (ri3 l C))) [.vslice none e1 (l).length 3 ((l).flatMap cN),.vslice none e2 C.length 3 (C.flatMap cL)] h Q=(
 aF (aQ [IV.vslice none 0 l.length 3 (Mh l),IV.vslice none 0 C.length 3 (List.flatMap cL C)]) (∃(A:Y15),(l.length=A.length/\List.flatMap cN l=List.flatMap cN A)/\((∀(x:Nd),x∈A->List.length (Nd.ks x)<=(1000000:Nat)/\True)/\A.length<=1000000)/\(((∃(xa:Unit),qF l C A IV.nilslice IV.nilslice 0 0 (Heap.mk PT.nil 0=Heap.mk PT.nil 0/\Nat.le 0 l.length/\True)) \/ ∃(j:RiX),qF l C A IV.nilslice (kG l C j) 0 ((RiX.i j):Int) (Heap.mk PT.nil 0=RiX.g j/\RiR l j/\True))/\(∀(xa:Unit)(b:FF),0<=l.length->aK (decide (0< (l.length:Int))) (aF (true&&decide (0< (l.length:Int))) (aN .i64 (Mh l) 0 λn0=>aN .i64 (Mh l) 1 λV=>bM 1 (Mh l) 2 λi2 e3 l4 c5=> ∃(M:Nat),aF (true&&decide (0< (↑((aD l).length):Int))) (aN .i64 (d2Y l) 0 λn6=>aK (n6 !=1) (xZ l C M (-9223372036854775808:Int) 9223372036854775807) (aK (n0==1) (xZ l C M V V) (Kd C l n0 V (λD=>(xZ l C M (((iQ D V).1).1) (((iQ D V).1).2))) (xZ l C M (-9223372036854775808:Int) 9223372036854775807) l4 c5 (λd5 d2 d6=>False) (λd7=>False) (λd8=>False) (λd9=>False) (λe4=>False) (λe5=>False))))/\Kc l C M (l.length+1<l.length+1) (λj=>l.length-RiX.i j<l.length+1) (λu=>l.length-RiX.i u<l.length+1))) (some c6J=some c6J/\Heap.mk PT.nil 0=Heap.mk PT.nil 0/\l.length=0/\True\/ ∃(j:RiX),some c6J=some (TV.v (kG l C j))/\Heap.mk PT.nil 0=RiX.g j/\RiX.i j=l.length/\True))/\∀(j:RiX)(b:FF),RiR l j->aK (decide (((RiX.i j):Int)< (l.length:Int))) (aF (decide (0<=((RiX.i j):Int)) &&decide (((RiX.i j):Int)< (l.length:Int))) (aN .i64 (Mh l) (((RiX.i j):Int).toNat*3) λm=>aN .i64 (Mh l) (((RiX.i j):Int).toNat*3+1) λr=>bM 1 (Mh l) (((RiX.i j):Int).toNat*3+1+1) λd4 d3 z y=> ∃(M:Nat),aF (decide (0<=((RiX.i j):Int)) &&decide (((RiX.i j):Int)< (↑((aD l).length):Int))) (aN .i64 (d2Y l) (((RiX.i j):Int).toNat*1) λb4=>aK (b4 !=1) (jF l C j M e5W) (aK (m==1) (jF l C j M [iI r,iI r]) (Kd C l m r (λD=>(jF l C j M [iI (((iQ D r).1).1),iI (((iQ D r).1).2)])) (jF l C j M e5W) z y (λK b3 b5=>fU j l C b5 (λb6 b7=>aF (decide (0<=wW (d2X r K)) &&decide (wW (d2X r K)< (K:Int))) (aN .i64 b3 ((wW (d2X r K)).toNat*1) λb8=>fU j l C b8 (λb9 c0=>jF l C j M [iI (min b6 b9),iI (max b7 c0)])))) (λc1=>fU j l C c1 (λX Y=>jF l C j M [iI ((Bc m X Y).1),iI ((Bc m X Y).2)])) (λc2=>fU j l C c2 (λZ a0=>jF l C j M [iI ((Bc m Z a0).1),iI ((Bc m Z a0).2)])) (λc3=>fU j l C c3 (λL O=>gY 1 z y 1 (λc4=>fU j l C c4 (λR T=>((aZ L/\aZ O)/\aZ R/\aZ T)/\(jF l C j M [iI ((mI m L O R T).1),iI ((mI m L O R T).2)]))))) (λc6=>fU j l C c6 (λa1 a2=>gY 1 z y 1 (λc7=>fU j l C c7 (λa3 a4=>gY 2 z y 2 (λc8=>fU j l C c8 (λa5 a6=>jF l C j M [iI ((jO a1 a2 a3 a4 a5 a6).1),iI ((jO a1 a2 a3 a4 a5 a6).2)])))))) (λc9=>fU j l C c9 (λa7 a8=>gY 1 z y 1 (λd0=>fU j l C d0 (λa9 b0=>gY 2 z y 2 (λd1=>fU j l C d1 (λb1 b2=>jF l C j M [iI ((jO a7 a8 a9 b0 b1 b2).1),iI ((jO a7 a8 a9 b0 b1 b2).2)])))))))))/\Kc l C M (l.length+1<l.length-RiX.i j) (λG=>l.length-RiX.i G<l.length-RiX.i j) (λG=>l.length-RiX.i G<l.length-RiX.i j))) (some (TV.v (kG l C j))=some c6J/\RiX.g j=Heap.mk PT.nil 0/\l.length=0/\True\/ ∃(u:RiX),some (TV.v (kG l C j))=some (TV.v (kG l C u))/\RiX.g j=RiX.g u/\RiX.i u=l.length/\True))/\(∀(xa:Unit)(b:FF),l.length=0->Q (.vslice none 0 0 2 []) h)/\∀(j:RiX)(b:FF),RiX.i j=l.length->aF (aQ [IV.vslice none 0 (RiX.i j) 2 (c6I l C j)]) (Q (.vslice none 0 (RiX.i j) 2 (c6I l C j)) h))):=by kernel_rfl
theorem d6Q: ∀xs h Q,a7B xs h Q->aM env 32 xs h Q:=by
 intro xs h Q hk;unfold a7B at hk;split at hk
 .rename_i e1 n1 c1 e2 n2 c2;obtain⟨l,C,⟨rfl,rfl,rfl,rfl⟩,hl,hC,hk⟩:=hk;refine aL (c1Z) (f2Y l C e1 e2 h Q) ?_;delta Mh e5Y e5X d2Y qF kG c6H Kb d2Z Kf xZ gY Kd Ke Kc c6J jF e5W c6I fU d2X tI wW iI; (try dsimp -iota -proj only);have tn: ∀x:Nat,(x:Int).toNat=x:=AK
  obtain⟨hn,hl⟩:=hl;have c7:=bA l;have a5: ∀n∈l,n.ks.length<=41:=λn h=>(hn n h).2
  have b1: ∀n∈l,aZ n.im:=λn h=>(hn n h).1
  have a9:KOk (kSI C):=W3 hC.1;refine aA (by simp only [aQ,aY,bX,eY,AN]) ⟨l,⟨rfl,rfl⟩,⟨λx u=>⟨by have:=a5 x u;omega,True.intro⟩,JZ⟩,⟨.inl ⟨(),KD,KD,KD,KD,KD,KD,AR _,KD⟩,?_,?_⟩,?_,?_⟩
  .intro _ _ _;refine cV (λc=>?_) (λc=> .inl ⟨KD,KD,JZ,KD⟩);have a2:0<l.length:=JZ;have R:l.getD 0 default=l[0]:=bO a2;refine aA (by simp;omega) (uM a2 rfl ⟨l.length+1,aA (by simp;omega) (aR (n:=(aD l).getD 0 0) (by rw [BJ,AB JZ,bO (by omega:0< (aD l).length)];rfl) ?_),?_,?_⟩)
   .refine aB (λs1=>?_) (λs1=>?_)
    .have e:aJ=nR l ((aD l).getD 0 0) (kSI C) [] l[0]:=by
      unfold nR
      rw [if_pos (bne_iff_ne.1 s1)]
     exact .inl ⟨aJ,KD,KD,KD,KD,KD,KD,KD,KD,⟨JZ,by rw [R];exact e⟩,AF _⟩
    have Y:(aD l).getD 0 0=1:=bne_eq_false_iff_eq.1 s1;obtain⟨v1,v2⟩:=mY a2 Y;have a0:l[0].ks=[]:=List.eq_nil_iff_forall_not_mem.2 (λk hk=>by
     have:=v1 k hk;omega)
    have hr:nR l ((aD l).getD 0 0) (kSI C) [] l[0]=if l[0].op=3 then((kSI C) l[0].im).getD aJ else if l[0].op=25 then Vn (gR [] (aX (mP l l[0]) l[0].im.toNat).f) (gR [] (aX (mP l l[0]) l[0].im.toNat).n)else Bb [] l[0]:=by
     unfold nR
     rw [if_neg (λq=>q Y)]
    refine aB (λK=>?_) (λK=>?_)
    .have K:=beq_iff_eq.1 K;have e:(l[0].im,l[0].im)=nR l ((aD l).getD 0 0) (kSI C) [] l[0]:=by
      rw [hr,if_neg JZ,if_neg JZ];unfold Bb
      rw [if_pos K]
     exact .inl ⟨(l[0].im,l[0].im),KD,KD,KD,KD,KD,KD,KD,KD,⟨JZ,by rw [R];exact e⟩,AF _⟩
    have K:=beq_eq_false_iff_ne.1 K;refine aB (λX=>⟨C,⟨rfl,rfl⟩,hC.2,?_⟩) (λX=>?_)
    .have e:(if(iQ C l[0].im).1.1<=(iQ C l[0].im).1.2 then(iQ C l[0].im).1 else aJ)=nR l ((aD l).getD 0 0) (kSI C) [] l[0]:=by
      rw [hr,if_pos (beq_iff_eq.1 X),a7J]
     refine cV (λc2=>?_) (λc2=>?_)
     .rw [if_pos c2]at e;exact .inl ⟨(iQ C l[0].im).1,KD,KD,KD,KD,KD,KD,KD,KD,⟨JZ,by rw [R];exact e⟩,AF _⟩
     .rw [if_neg c2]at e;exact .inl ⟨aJ,KD,KD,KD,KD,KD,KD,KD,KD,⟨JZ,by rw [R];exact e⟩,AF _⟩
    have X:=beq_eq_false_iff_ne.1 X;rcases v2 with⟨_,q,hq,_⟩| ⟨O,_,_,G,_⟩
    .rw [a0]at hq
     cases hq
    unfold ar at G;rw [a0]at G;have o4: ¬ (4<=l[0].op/\l[0].op<=22):=λq=>by
     split at G
     .omega
     .repeat' split at G
      all_goals first|omega| (simp at G)
    have e:aJ=nR l ((aD l).getD 0 0) (kSI C) [] l[0]:=by
     rw [hr,if_neg X,if_neg O];unfold Bb
     rw [if_neg K,if_neg JZ,if_neg JZ,if_neg JZ];rfl
    refine bf (beq_eq_false_iff_ne.2 O) (bf (beq_eq_false_iff_ne.2 JZ) (bf (beq_eq_false_iff_ne.2 JZ) (cV (λc3=>cV (λc4=>absurd ⟨c3,JZ⟩ o4) (λc4=>bf (beq_eq_false_iff_ne.2 JZ) ?_)) (λc3=>bf (beq_eq_false_iff_ne.2 JZ) ?_))))
    .exact .inl ⟨aJ,KD,KD,KD,KD,KD,KD,KD,KD,⟨JZ,by rw [R];exact e⟩,AF _⟩
    .exact .inl ⟨aJ,KD,KD,KD,KD,KD,KD,KD,KD,⟨JZ,by rw [R];exact e⟩,AF _⟩
   .rintro q _ ⟨h1,hq⟩ hM;have e:(rP l (kSI C) 1).flatMap cR=[.int .i64 q.1,.int .i64 q.2]:=by
     show(([]++ [nR l ((aD l).getD 0 0) (kSI C) [] (l.getD 0 default)]:List Iv)).flatMap cR=_;rw [<-hq];rfl
    exact Mr KA (λ_=> .inr ⟨⟨1,0,_,q⟩,KD,KD,KD,by rw [e],KD,rfl,⟨⟨AF _,h1⟩,rfl⟩,KE⟩)
   .rintro y _ ⟨hy,b7,a4⟩ hM;have b6:=hy.i;have a3:IntKind.i64.wrap ((y.i:Int)+1)=((y.i+1:Nat):Int):=by rw [AA _ JZ];rfl
    have e:(rP l (kSI C) (y.i+1)).flatMap cR=(rP l (kSI C) y.i).flatMap cR++ [.int .i64 y.q.1,.int .i64 y.q.2]:=by
     rw [rP,CI,<-a4];rfl
    exact yX JZ hy.g (.inr ⟨⟨y.i+1,y.t,_,y.q⟩,KD,KD,KD,by rw [e],by rw [a3],rfl,⟨⟨KE,KE⟩,aH⟩,KE⟩)
  .intro x _ u;have c8:=u.i;have b0:(rP l (kSI C) x.i).length=x.i:=wN l _ _;refine cV (λc=>?_) (λc=> .inr ⟨x,KD,rfl,JZ,KD⟩);have r:x.i<l.length:=JZ;have gl:l.getD x.i default=l[x.i]:=bO r;have m: ∀{p:Prop}[Decidable p]{A:Prop},p->A->aF (true&&decide p) A:=λh a=>aA (by rw [decide_eq_true h];rfl) a
   refine aP ⟨JZ,JZ⟩ (uM r (by rw [tn]) ⟨l.length-x.i,aP ⟨JZ,JZ⟩ (aR (n:=(aD l).getD x.i 0) (by rw [tn,AM,BJ,AB JZ,bO (by omega:x.i< (aD l).length)];rfl) ?_),?_,?_⟩)
   rotate_left
   .rintro q _ ⟨h1,hq⟩ hM;exact absurd hM (by have:=u.i;omega)
   .rintro y _ ⟨hy,b7,a4⟩ hM;have b6:=hy.i;have a3:IntKind.i64.wrap ((y.i:Int)+1)=((y.i+1:Nat):Int):=by rw [AA _ JZ];rfl
    have e:(rP l (kSI C) (y.i+1)).flatMap cR=(rP l (kSI C) y.i).flatMap cR++ [.int .i64 y.q.1,.int .i64 y.q.2]:=by
     rw [rP,CI,<-a4];rfl
    exact yX JZ hy.g (.inr ⟨⟨y.i+1,y.t,_,y.q⟩,KD,KD,KD,by rw [e],by rw [a3],rfl,⟨⟨KE,KE⟩,aH⟩,KE⟩)
   refine aB (λs1=>?_) (λs1=>?_)
   .have e:aJ=nR l ((aD l).getD x.i 0) (kSI C) (rP l (kSI C) x.i) l[x.i]:=by
     unfold nR
     rw [if_pos (bne_iff_ne.1 s1)]
    exact .inr ⟨{x with q:=aJ },KD,KD,KD,KD,KD,KD,KD,rfl,⟨⟨u.i,u.g⟩,r,by rw [gl];exact e⟩,AF _⟩
   have Y:(aD l).getD x.i 0=1:=bne_eq_false_iff_eq.1 s1;obtain⟨v1,v2⟩:=mY r Y;have hr:nR l ((aD l).getD x.i 0) (kSI C) (rP l (kSI C) x.i) l[x.i]=if l[x.i].op=3 then((kSI C) l[x.i].im).getD aJ else if l[x.i].op=25 then Vn (gR (rP l (kSI C) x.i) (aX (mP l l[x.i]) l[x.i].im.toNat).f) (gR (rP l (kSI C) x.i) (aX (mP l l[x.i]) l[x.i].im.toNat).n)else Bb (rP l (kSI C) x.i) l[x.i]:=by
    unfold nR
    rw [if_neg (λq=>q Y)]
   have L: ∀j,j<l[x.i].ks.length->0<=l[x.i].ks.getD j 0/\l[x.i].ks.getD j 0< (x.i:Int):=λj hj=>by
    have:=v1 _ (V1 (z:=0) hj);exact⟨this.1,this.2.1⟩
   have kr: ∀k:Int,0<=k/\k< (x.i:Int)->0<=k/\k< ((rP l (kSI C) x.i).length:Int):=λk hk=>by
    rw [b0];exact hk
   refine aB (λK=>?_) (λK=>?_)
   .have K:=beq_iff_eq.1 K;have e:(l[x.i].im,l[x.i].im)=nR l ((aD l).getD x.i 0) (kSI C) (rP l (kSI C) x.i) l[x.i]:=by
     rw [hr,if_neg JZ,if_neg JZ];unfold Bb
     rw [if_pos K]
    exact .inr ⟨{x with q:=(l[x.i].im,l[x.i].im) },KD,KD,KD,KD,KD,KD,KD,rfl,⟨⟨u.i,u.g⟩,r,by rw [gl];exact e⟩,AF _⟩
   have K:=beq_eq_false_iff_ne.1 K;refine aB (λX=>⟨C,⟨rfl,rfl⟩,hC.2,?_⟩) (λX=>?_)
   .have e:(if(iQ C l[x.i].im).1.1<=(iQ C l[x.i].im).1.2 then(iQ C l[x.i].im).1 else aJ)=nR l ((aD l).getD x.i 0) (kSI C) (rP l (kSI C) x.i) l[x.i]:=by
     rw [hr,if_pos (beq_iff_eq.1 X),a7J]
    refine cV (λc2=>?_) (λc2=>?_)
    .rw [if_pos c2]at e;exact .inr ⟨{x with q:=(iQ C l[x.i].im).1 },KD,KD,KD,KD,KD,KD,KD,rfl,⟨⟨u.i,u.g⟩,r,by rw [gl];exact e⟩,AF _⟩
    .rw [if_neg c2]at e;exact .inr ⟨{x with q:=aJ },KD,KD,KD,KD,KD,KD,KD,rfl,⟨⟨u.i,u.g⟩,r,by rw [gl];exact e⟩,AF _⟩
   have X:=beq_eq_false_iff_ne.1 X;refine aB (λV=>?_) (λV=>?_)
   .have V:=beq_iff_eq.1 V;rcases v2 with⟨_,q,hq,b5,q3,q4,q5,q6⟩| ⟨O,_⟩
    case inr=>exact absurd V O
    have a6:=gJ q3;have b4:=a6.odd;have T:q.toNat<l.length:=JZ;have a0:mP l l[x.i]=l[q.toNat]:=by unfold mP;rw [hq];exact bO T
    rw [bO T]at b4 q6;have b2:l[x.i].im.toNat<l[q.toNat].ks.length/2:=JZ;have a7:=Z9 (j:=l[x.i].im.toNat) a6 (by rw [bO T];exact b2);rw [bO T]at a7;obtain⟨f1,n1,_⟩:=a7;have e:(min (gR (rP l (kSI C) x.i) (aX l[q.toNat] l[x.i].im.toNat).f).1 (gR (rP l (kSI C) x.i) (aX l[q.toNat] l[x.i].im.toNat).n).1,max (gR (rP l (kSI C) x.i) (aX l[q.toNat] l[x.i].im.toNat).f).2 (gR (rP l (kSI C) x.i) (aX l[q.toNat] l[x.i].im.toNat).n).2)=nR l ((aD l).getD x.i 0) (kSI C) (rP l (kSI C) x.i) l[x.i]:=by
     rw [hr,if_neg X,if_pos V,a0];rfl
    have b9:l[x.i].ks.length=1:=by rw [hq];rfl
    have b3:l[x.i].ks.getD 0 0=q:=by rw [hq];rfl
    have b8:=a5 _ (AG T);have hw:IntKind.i64.wrap (IntKind.i64.wrap (IntKind.i64.wrap (Int.tdiv (l[q.toNat].ks.length:Int) 2)+1)+l[x.i].im)=((l[q.toNat].ks.length/2+1+l[x.i].im.toNat:Nat):Int):=by
     have t:Int.tdiv (l[q.toNat].ks.length:Int) 2=((l[q.toNat].ks.length/2:Nat):Int):=by rw [BQ JZ];omega
     rw [t,AA ((l[q.toNat].ks.length/2:Nat):Int) JZ,AA (((l[q.toNat].ks.length/2:Nat):Int)+1) JZ,AA _ JZ];omega
    have hn:(aX l[q.toNat] l[x.i].im.toNat).n=l[q.toNat].ks.getD (l[q.toNat].ks.length/2+1+l[x.i].im.toNat) 0:=by
     unfold aX
     dsimp only
     congr 1
     omega
    refine m JZ (oP JZ rfl ?_);rw [b3];refine aP ⟨b5.1,JZ⟩ (lP (by rw [pD T KA];rfl) ?_);rw [hw];refine(aP ⟨JZ,JZ⟩ (oP (j:=l[x.i].im.toNat) JZ JZ (aP ⟨f1.1,by have:=f1.2;show(aX l[q.toNat] l[x.i].im.toNat).f<_;omega⟩ (rM (kr _ ⟨f1.1,by have:=f1.2;show(aX l[q.toNat] l[x.i].im.toNat).f<_;omega⟩) rfl (aP ⟨JZ,JZ⟩ (oP (j:=l[q.toNat].ks.length/2+1+l[x.i].im.toNat) JZ JZ ?_))))));rw [<-hn];refine aP ⟨n1.1,JZ⟩ (rM (kr _ ⟨n1.1,JZ⟩) rfl ?_);exact .inr ⟨{x with q:=nR l ((aD l).getD x.i 0) (kSI C) (rP l (kSI C) x.i) l[x.i] },KD,KD,KD,KD,KD,KD,by rw [<-e],rfl,⟨⟨u.i,u.g⟩,r,by rw [gl]⟩,AF _⟩
   have O:=beq_eq_false_iff_ne.1 V;rcases v2 with⟨q,_⟩| ⟨_,_,_,G,_⟩
   case inl=>exact absurd q O
   unfold ar at G;have a1:nR l ((aD l).getD x.i 0) (kSI C) (rP l (kSI C) x.i) l[x.i]=Bb (rP l (kSI C) x.i) l[x.i]:=by rw [hr,if_neg X,if_neg O]
   by_cases o20:l[x.i].op=20\/l[x.i].op=21
   .have c0:l[x.i].ks.length=1:=by
     rw [if_neg JZ,if_pos JZ]at G;omega
    have e:((Bc l[x.i].op (gR (rP l (kSI C) x.i) (l[x.i].ks.getD 0 0)).1 (gR (rP l (kSI C) x.i) (l[x.i].ks.getD 0 0)).2).1,(Bc l[x.i].op (gR (rP l (kSI C) x.i) (l[x.i].ks.getD 0 0)).1 (gR (rP l (kSI C) x.i) (l[x.i].ks.getD 0 0)).2).2)=nR l ((aD l).getD x.i 0) (kSI C) (rP l (kSI C) x.i) l[x.i]:=by
     rw [a1];unfold Bb
     rw [if_neg K,if_neg JZ,if_pos o20];rfl
    have go: ∀A B D:Prop,A->D->aK (l[x.i].op==20) A (aK (l[x.i].op==21) D B):=λA B D a d=>aB (λ_=>a) (λc2=>aB (λ_=>d) (λc3=>by rw [beq_eq_false_iff_ne]at c2 c3;rcases o20 with q|q<;>contradiction))
    refine go _ _ _ ?_ ?_
    .refine m JZ (oP JZ rfl (aP (L 0 JZ) (rM (kr _ (L 0 JZ)) rfl ?_)));exact .inr ⟨{x with q:=nR l ((aD l).getD x.i 0) (kSI C) (rP l (kSI C) x.i) l[x.i] },KD,KD,KD,KD,KD,KD,by rw [<-e],rfl,⟨⟨u.i,u.g⟩,r,by rw [gl]⟩,AF _⟩
    .refine m JZ (oP JZ rfl (aP (L 0 JZ) (rM (kr _ (L 0 JZ)) rfl ?_)));exact .inr ⟨{x with q:=nR l ((aD l).getD x.i 0) (kSI C) (rP l (kSI C) x.i) l[x.i] },KD,KD,KD,KD,KD,KD,by rw [<-e],rfl,⟨⟨u.i,u.g⟩,r,by rw [gl]⟩,AF _⟩
   refine bf (beq_eq_false_iff_ne.2 (λq=>o20 (.inl q))) (bf (beq_eq_false_iff_ne.2 (λq=>o20 (.inr q))) ?_);have a8: ∀A B:Prop,(l[x.i].op=22->A)->(l[x.i].op≠22->B)->aK (l[x.i].op==22) A B:=λA B a b=>aB (λc=>a (beq_iff_eq.1 c)) (λc=>b (beq_eq_false_iff_ne.1 c))
   refine cV (λc3=>cV (λc4=>?_) (λc4=>a8 _ _ (λZ=>?_) (λZ=>?_))) (λc3=>a8 _ _ (λZ=>absurd c3 JZ) (λZ=>?_))
   .have c5:l[x.i].ks.length=2:=by
     rw [if_neg JZ,if_neg JZ,if_pos JZ]at G;omega
    have e:((mI l[x.i].op (gR (rP l (kSI C) x.i) (l[x.i].ks.getD 0 0)).1 (gR (rP l (kSI C) x.i) (l[x.i].ks.getD 0 0)).2 (gR (rP l (kSI C) x.i) (l[x.i].ks.getD 1 0)).1 (gR (rP l (kSI C) x.i) (l[x.i].ks.getD 1 0)).2).1,(mI l[x.i].op (gR (rP l (kSI C) x.i) (l[x.i].ks.getD 0 0)).1 (gR (rP l (kSI C) x.i) (l[x.i].ks.getD 0 0)).2 (gR (rP l (kSI C) x.i) (l[x.i].ks.getD 1 0)).1 (gR (rP l (kSI C) x.i) (l[x.i].ks.getD 1 0)).2).2)=nR l ((aD l).getD x.i 0) (kSI C) (rP l (kSI C) x.i) l[x.i]:=by
     rw [a1];unfold Bb
     rw [if_neg K,if_neg JZ,if_neg o20,if_pos ⟨JZ,JZ⟩];rfl
    have rR: ∀j,j<l[x.i].ks.length->aZ (gR (rP l (kSI C) x.i) (l[x.i].ks.getD j 0)).1/\aZ (gR (rP l (kSI C) x.i) (l[x.i].ks.getD j 0)).2:=λj hj=>by
     have a:=L j hj;have b:=(Ag b1 a9 (l[x.i].ks.getD j 0).toNat JZ).2;rw [<-d6M (by omega:x.i<=l.length) JZ]at b;exact b
    refine m JZ (oP JZ rfl (aP (L 0 JZ) (rM (kr _ (L 0 JZ)) rfl (m JZ (oP JZ rfl (aP (L 1 JZ) (rM (kr _ (L 1 JZ)) rfl ⟨⟨rR 0 JZ,rR 1 JZ⟩,?_⟩)))))));exact .inr ⟨{x with q:=nR l ((aD l).getD x.i 0) (kSI C) (rP l (kSI C) x.i) l[x.i] },KD,KD,KD,KD,KD,KD,by rw [<-e],rfl,⟨⟨u.i,u.g⟩,r,by rw [gl]⟩,AF _⟩
   .have c6:l[x.i].ks.length=3:=by
     rw [if_neg JZ,if_neg JZ,if_neg JZ,if_pos JZ]at G;omega
    have e:((jO (gR (rP l (kSI C) x.i) (l[x.i].ks.getD 0 0)).1 (gR (rP l (kSI C) x.i) (l[x.i].ks.getD 0 0)).2 (gR (rP l (kSI C) x.i) (l[x.i].ks.getD 1 0)).1 (gR (rP l (kSI C) x.i) (l[x.i].ks.getD 1 0)).2 (gR (rP l (kSI C) x.i) (l[x.i].ks.getD 2 0)).1 (gR (rP l (kSI C) x.i) (l[x.i].ks.getD 2 0)).2).1,(jO (gR (rP l (kSI C) x.i) (l[x.i].ks.getD 0 0)).1 (gR (rP l (kSI C) x.i) (l[x.i].ks.getD 0 0)).2 (gR (rP l (kSI C) x.i) (l[x.i].ks.getD 1 0)).1 (gR (rP l (kSI C) x.i) (l[x.i].ks.getD 1 0)).2 (gR (rP l (kSI C) x.i) (l[x.i].ks.getD 2 0)).1 (gR (rP l (kSI C) x.i) (l[x.i].ks.getD 2 0)).2).2)=nR l ((aD l).getD x.i 0) (kSI C) (rP l (kSI C) x.i) l[x.i]:=by
     rw [a1];unfold Bb
     rw [if_neg K,if_pos Z];rfl
    refine m JZ (oP JZ rfl (aP (L 0 JZ) (rM (kr _ (L 0 JZ)) rfl (m JZ (oP JZ rfl (aP (L 1 JZ) (rM (kr _ (L 1 JZ)) rfl (m JZ (oP JZ rfl (aP (L 2 JZ) (rM (kr _ (L 2 JZ)) rfl ?_)))))))))));exact .inr ⟨{x with q:=nR l ((aD l).getD x.i 0) (kSI C) (rP l (kSI C) x.i) l[x.i] },KD,KD,KD,KD,KD,KD,by rw [<-e],rfl,⟨⟨u.i,u.g⟩,r,by rw [gl]⟩,AF _⟩
   all_goals
    have e:aJ=nR l ((aD l).getD x.i 0) (kSI C) (rP l (kSI C) x.i) l[x.i]:=by
     rw [a1];unfold Bb
     rw [if_neg K,if_neg Z,if_neg o20,if_neg JZ];rfl
    exact .inr ⟨{x with q:=aJ },KD,KD,KD,KD,KD,KD,KD,rfl,⟨⟨u.i,u.g⟩,r,by rw [gl];exact e⟩,AF _⟩
  .intro _ _ hN;have e:rG l (kSI C)=[]:=CU (by rw [rS,hN]);rw [e,hN]at hk;exact hk
  .intro x _ u;rw [u];exact aA (by simp only [aQ,aY,pM,AN]) hk
 .exact hk.elim
def b6B:=aV 32 a7B b6F
theorem c1W:aS env b6B:=aE d6Q (c1Z)
def ru1(l:Y15)(vs:Y12)(C:dW):Inv':= .or (dL Unit (λ_=>[(0,.v (.vslice none 0 (l).length 3 ((l).flatMap cN))),(1,.v (.vslice none 0 (vs).length 1 ((vs).map (IV.int .i64)))),(2,.v (.vslice none 0 C.length 3 (C.flatMap cL))),(7,.v (.vslice none 0 (aD l).length 1 ((aD l).map (IV.int .i64)))),(8,.v .nilslice),(9,.v (.int .i64 0))]) (λ_=>[]) (λ_=>Heap.empty) (λ_=>0<=l.length) (λ_=>l.length+1)) (dL RuX (λx=>[(0,.v (.vslice none 0 (l).length 3 ((l).flatMap cN))),(1,.v (.vslice none 0 (vs).length 1 ((vs).map (IV.int .i64)))),(2,.v (.vslice none 0 C.length 3 (C.flatMap cL))),(7,.v (.vslice none 0 (aD l).length 1 ((aD l).map (IV.int .i64)))),(8,.v (.vslice (some x.t) (1*x.i) x.i 1 ((uP l (unV vs C) x.i).map IV.bool))),(9,.v (.int .i64 (x.i:Int)))]) (λ_=>[]) (λx=>x.g) (λx=>RuR l x.i x.t x.g) (λx=>l.length-x.i))
def ru2(l:Y15)(vs:Y12)(C:dW):Inv':= .or (dL Bool (λb=>[(0,.v (.vslice none 0 (l).length 3 ((l).flatMap cN))),(1,.v (.vslice none 0 (vs).length 1 ((vs).map (IV.int .i64)))),(2,.v (.vslice none 0 C.length 3 (C.flatMap cL))),(7,.v (.vslice none 0 (aD l).length 1 ((aD l).map (IV.int .i64)))),(8,.v .nilslice),(9,.v (.int .i64 0)),(11,.v (.bool b))]) (λ_=>[]) (λ_=>Heap.empty) (λb=>1<=l.length/\b=rE l ((aD l).getD 0 0) (unV vs C) [] (l.getD 0 default)) (λ_=>l.length+1)) (dL RuX (λx=>[(0,.v (.vslice none 0 (l).length 3 ((l).flatMap cN))),(1,.v (.vslice none 0 (vs).length 1 ((vs).map (IV.int .i64)))),(2,.v (.vslice none 0 C.length 3 (C.flatMap cL))),(7,.v (.vslice none 0 (aD l).length 1 ((aD l).map (IV.int .i64)))),(8,.v (.vslice (some x.t) (1*x.i) x.i 1 ((uP l (unV vs C) x.i).map IV.bool))),(9,.v (.int .i64 (x.i:Int))),(11,.v (.bool x.b))]) (λ_=>[]) (λx=>x.g) (λx=>RuR l x.i x.t x.g/\x.i<l.length/\x.b=rE l ((aD l).getD x.i 0) (unV vs C) (uP l (unV vs C) x.i) (l.getD x.i default)) (λx=>l.length-x.i))
def ru3(l:Y15)(vs:Y12)(C:dW):Inv':= .or (atP (l.length=0) [(8,.v .nilslice)] [] Heap.empty) (dL RuX (λx=>[(8,.v (.vslice (some x.t) (1*x.i) x.i 1 ((uP l (unV vs C) x.i).map IV.bool)))]) (λ_=>[]) (λx=>x.g) (λx=>x.i=l.length) (λ_=>0))
def ru4(l:Y15)(vs:Y12)(C:dW):Inv':=dL RuX (λx=>[(0,.v (.vslice none 0 (l).length 3 ((l).flatMap cN))),(1,.v (.vslice none 0 (vs).length 1 ((vs).map (IV.int .i64)))),(2,.v (.vslice none 0 C.length 3 (C.flatMap cL))),(7,.v (.vslice none 0 (aD l).length 1 ((aD l).map (IV.int .i64)))),(8,.v x.v),(9,.v (.int .i64 (x.i:Int))),(10,.l 10 0),(11,.v (.bool x.b)),(13,.v (.bool (iQ C (l.getD x.i default).im).2)),(14,.v (.int .i64 (x.j:Int)))]) (λx=>[(10,[.int .i64 (l.getD x.i default).op,.int .i64 (l.getD x.i default).im,.vslice none 0 (l.getD x.i default).ks.length 1 ((l.getD x.i default).ks.map (IV.int .i64))])]) (λx=>x.g) (λx=>RuV l (unV vs C) x/\(x.i<l.length/\(aD l).getD x.i 0=1/\(l.getD x.i default).op=3/\x.j<=vs.length)/\x.b=((vs.take x.j).any (λw=>decide (w=(l.getD x.i default).im)) &&!(iQ C (l.getD x.i default).im).2)) (λx=>1000000*(l.length-x.i)+(vs.length-x.j))
def ru5(l:Y15)(vs:Y12)(C:dW):Inv':=dL RuX (λx=>[(0,.v (.vslice none 0 (l).length 3 ((l).flatMap cN))),(1,.v (.vslice none 0 (vs).length 1 ((vs).map (IV.int .i64)))),(2,.v (.vslice none 0 C.length 3 (C.flatMap cL))),(7,.v (.vslice none 0 (aD l).length 1 ((aD l).map (IV.int .i64)))),(8,.v (.vslice (some x.t) (1*x.i) x.i 1 ((uP l (unV vs C) x.i).map IV.bool))),(9,.v (.int .i64 (x.i:Int))),(10,.l 10 0),(11,.v (.bool x.b)),(16,.v (.int .i64 (x.j:Int)))]) (λx=>[(10,[.int .i64 (l.getD x.i default).op,.int .i64 (l.getD x.i default).im,.vslice none 0 (l.getD x.i default).ks.length 1 ((l.getD x.i default).ks.map (IV.int .i64))])]) (λx=>x.g) (λx=>RuR l x.i x.t x.g/\(x.i<l.length/\(aD l).getD x.i 0=1/\(4<=(l.getD x.i default).op/\(l.getD x.i default).op<=22)/\x.j<=(l.getD x.i default).ks.length)/\x.b=((l.getD x.i default).ks.take x.j).any (gU (uP l (unV vs C) x.i))) (λx=>1000000*(l.length-x.i)+((l.getD x.i default).ks.length-x.j))
def b9L(xs:Y14)(h:Heap)(K:KT):Prop:=match xs with
 | [.vslice none e1 n1 3 c1,.vslice none e2 n2 1 c2,.vslice none e3 n3 3 c3]=> ∃(l:Y15)(vs:Y12)(C:dW),(n1=l.length/\c1=l.flatMap cN/\n2=vs.length/\c2=vs.map (IV.int .i64)/\n3=C.length/\c3=C.flatMap cL)/\((∀n∈l,aZ n.im/\n.ks.length<=41)/\l.length<=100000)/\(vs.length<=100000/\C.length<=1099511627776)/\K (.vslice none 0 l.length 1 ((uG l (unV vs C)).map IV.bool)) h
 |_=>False
def a9U(i:Int)(g:Nat):=wW (wW (Int.tdiv (g:Int) 2)+1)+i
def yQ:=IV.int .i64
def B3(l:Y15):=List.flatMap cN l
def c5D(C:dW):=TV.v (.vslice none 0 C.length 3 (List.flatMap cL C))
def c5E(vs:Y12):=TV.v (.vslice none 0 vs.length 1 (List.map yQ vs))
def c5F(l:Y15):=TV.v (.vslice none 0 l.length 3 (B3 l))
def jG(l:Y15)(vs:Y12)(C:dW)(g:Y15)(i:IV)(j:IV)(m:Int)(r:Int)(u:Prop):Prop:=some (c5F l)=some (c5F l)/\some (c5E vs)=some (c5E vs)/\some (c5D C)=some (c5D C)/\some (TV.v (.vslice none 0 ((aD g).length) 1 (List.map yQ (aD g))))=some (TV.v (.vslice none 0 ((aD l).length) 1 (List.map yQ (aD l))))/\some (TV.v i)=some
 (TV.v j)/\tI m=tI r/\u
def fF(l:Y15)(vs:Y12)(C:dW)(g:RuX):IV:=IV.vslice (some (RuX.t g)) ((1:Nat)*RuX.i g) (RuX.i g) 1 (List.map IV.bool (uP l (unV vs C) (RuX.i g)))
def tM(l:Y15)(vs:Y12)(C:dW)(m:IV)(r:Int)(u:Bool)(y:Bool->Prop)(z:RuX->Prop):Prop:=(∃(j:Bool),jG l vs C l m IV.nilslice r 0 (some (TV.v (.bool u))=some (TV.v (.bool j))/\y j)) \/ ∃(g:RuX),jG l vs C l m (fF l vs C g) r ((RuX.i g):Int) (some (TV.v (.bool u))=some (TV.v (.bool (RuX.b g)))/\z g)
def yD(g:TV)(i:RuX)(j:Prop):Prop:=some (TV.l 10 0)=some (TV.l 10 0)/\some g=some (TV.v (.bool (RuX.b i)))/\j
def bJ(l:Y15)(g:RuX):Nd:=List.getD l (RuX.i g) default
def Q8(l:Y15)(i:Int)(g:RuX)(u:Int)(y:Int)(m:Y14)(r:Prop):Prop:=tI i=tI ((RuX.j g):Int)/\some m=some [iI (Nd.op (bJ l g)),iI (Nd.im (bJ l g)),IV.vslice none 0 ((Nd.ks (bJ l g)).length) 1 (List.map yQ (Nd.ks (bJ l g)))]/\r
def Kn(l:Y15)(m:RuX)(r:RuX)(u:Prop)(y:Y12)(z:Y12):Prop:=Q8 l (wW (((RuX.j m):Int)+1)) r (Nd.op (bJ l m)) (Nd.im (bJ l m)) [iI (Nd.op (bJ l m)),iI (Nd.im (bJ l m)),IV.vslice none 0 ((Nd.ks (bJ l m)).length) 1 (List.map yQ (Nd.ks (bJ l m)))] (RuX.g m=RuX.g r/\
 u/\(1000000:Nat)*(l.length-RuX.i r)+(y.length-RuX.j r)<1000000*(l.length-RuX.i m)+(z.length-RuX.j m))
def Q7(l:Y15)(vs:Y12)(C:dW)(g:RuX):Prop:=RuV l (unV vs C) g/\(RuX.i g<l.length/\List.getD (aD l) (RuX.i g) 0=1/\Nd.op (bJ l g)=3/\RuX.j g<=vs.length)/\RuX.b g=((List.any (List.take (RuX.j g) vs) λm=>decide (m=Nd.im (bJ l g))) &&!Prod.snd (iQ C (Nd.im (bJ l g))))
def Q4(l:Y15)(vs:Y12)(C:dW)(j:RuX)(m:TV):Prop:= ∃(g:RuX),jG l vs C l (RuX.v j) (RuX.v g) ((RuX.i j):Int) ((RuX.i g):Int) (yD m g (some (TV.v (.bool ((iQ C (Nd.im (bJ l j))).2)))=some (TV.v (.bool ((iQ C (Nd.im (bJ l g))).2)))/\Kn l j g (Q7 l vs C g)
 vs vs))
def yE(g:Int)(i:Int):Bool:=decide (0<=g) &&decide (g<i)
def yC(l:Y15)(vs:Y12)(C:dW)(M:Nat)(g:Bool):Prop:=(1<=l.length/\g=rE l (List.getD (aD l) 0 0) (unV vs C) [] (List.getD l 0 default))/\l.length+1<=M
def yB(l:Y15)(vs:Y12)(C:dW)(M:Nat)(j:RuX):Prop:=(RuR l (RuX.i j) (RuX.t j) (RuX.g j)/\RuX.i j<l.length/\RuX.b j=rE l (List.getD (aD l) (RuX.i j) 0) (unV vs C) (uP l (unV vs C) (RuX.i j)) (bJ l j))/\l.length-RuX.i j<=M
def Kp(l:Y15)(g:RuX):Prop:=RuX.i g<l.length/\List.getD (aD l) (RuX.i g) 0=1/\(4<=Nd.op (bJ l g)/\Nd.op (bJ l g)<=22)/\RuX.j g<=List.length (Nd.ks (bJ l g))
def Q6(l:Y15)(vs:Y12)(C:dW)(m:RuX):Prop:=RuR l (RuX.i m) (RuX.t m) (RuX.g m)/\(Kp l m)/\RuX.b m=List.any (List.take (RuX.j m) (Nd.ks (bJ l m))) (gU (uP l (unV vs C) (RuX.i m)))
def Km(l:Y15)(vs:Y12)(C:dW)(j:RuX)(m:Bool):Prop:= ∃(g:RuX),jG l vs C l (fF l vs C j) (fF l vs C g) ((RuX.i j):Int) ((RuX.i g):Int) (yD (TV.v (.bool m)) g (Kn l j g (Q6 l vs C g) (Nd.ks (bJ l g)) (Nd.ks (bJ l j))))
def Q9(l:Y15)(vs:Y12)(C:dW)(g:Int)(j:RuX)(r:Bool->Prop):Prop:=aF (decide (0<=g) &&decide (g< ((RuX.i j):Int))) (kQ (List.map IV.bool (uP l (unV vs C) (RuX.i j))) (g.toNat*1) λm=>r m)
def Q5(l:Y15)(vs:Y12)(C:dW)(M:Nat)(j:RuX)(u:Bool):Prop:=tM l vs C (fF l vs C j) ((RuX.i j):Int) u (λr=>RuX.g j=Heap.mk PT.nil 0/\yC l vs C M r) (λm=>RuX.g j=RuX.g m/\yB l vs C M m)
def Kk(l:Y15)(vs:Y12)(C:dW)(M:Nat)(b6:Int)(O:IV)(R:Int)(a0:Bool->Prop)(G:RuX->Prop)(r:Int)(u:Int)(Y:Y10)(Z:Nat)(K:Nat)(L:Y14)(b3:Nat->RuX->Prop)(b4:Nat->Y14->Int->Prop)(b5:Nat->RuX->Prop):Prop:=aK (b6 !=1) (tM l vs C O R false (λa1=>a0 a1) (λa2=>G a2)) (aK (r==3) (∃(A:List (Int×Iv)),(C.length=A.length/\List.flatMap cL C=List.flatMap cL A)/\A.length<=1099511627776/\∃(T:Nat),(∃(y:RuX),jG l vs C l O (RuX.v
 y) R ((RuX.i y):Int) (yD (TV.v (.bool false)) y (some (TV.v (.bool ((iQ A u).2)))=some (TV.v (.bool ((iQ C (Nd.im (bJ l y))).2)))/\Q8 l 0 y r u [iI r,iI u,IV.vslice Y Z K 1 L] (b3 T y))))/\∀ (zb25
 :RuX) (zb26:FF),RuV l (unV vs C) zb25/\(RuX.i zb25<l.length/\List.getD (aD l) (RuX.i zb25) 0=1/\Nd.op (bJ l zb25)=3/\RuX.j zb25<=vs.length)/\RuX.b zb25=((List.any (List.take (RuX.j zb25) vs) λa3=>decide (a3=Nd.im (bJ l zb25))) &&!Prod.snd (iQ C (Nd.im (bJ
 l zb25))))->(1000000:Nat)*(l.length-RuX.i zb25)+(vs.length-RuX.j zb25)<=T->aK (decide (((RuX.j zb25):Int)< (vs.length:Int))) (aK (RuX.b zb25) (Q4 l vs C zb25 (TV.v (.bool true))) (aF (yE ((RuX.j zb25):Int) (vs.length:Int)) (aN .i64 (List.map yQ vs) (Int.toNat
 ((RuX.j zb25):Int)*1) λa4=>aK (a4==Nd.im (bJ l zb25)) (Q4 l vs C zb25 (TV.v (.bool !Prod.snd (iQ C (Nd.im (bJ l zb25)))))) (Q4 l vs C zb25 (TV.v (.bool false)))))) (tM l vs C (RuX.v zb25) ((RuX.i zb25):Int) (RuX.b zb25) (λa5=>RuX.g zb25=Heap.mk
 PT.nil 0/\yC l vs C M a5) (λV=>RuX.g zb25=RuX.g V/\yB l vs C M V))) (aK (r==25) (aF (true&&decide (0< (K:Int))) (aN .i64 L 0 λD=>aF (decide (0<=D) &&decide (D< (l.length:Int))) (bM 1 (B3 l) (D.toNat*3+2) λb7
 zb39 zb40 zb41=>aF (decide (0<=u) &&decide (u< (zb40:Int))) (aN .i64 zb41 (u.toNat*1) λa6=>b4 zb40 zb41 a6)))) (aK (decide (r>=4)) (aK (decide (r<=22)) (∃(X:Nat),(∃(z:RuX),jG l vs C l O (fF l vs C z) R ((RuX.i z):Int)
 (yD (TV.v (.bool false)) z (Q8 l 0 z r u [iI r,iI u,IV.vslice Y Z K 1 L] (b5 X z))))/\∀(m:RuX)(b8:FF),RuR l (RuX.i m) (RuX.t m) (RuX.g m)/\(Kp l m)/\RuX.b m=List.any (List.take (RuX.j m) (Nd.ks (bJ
 l m))) (gU (uP l (unV vs C) (RuX.i m)))->(1000000:Nat)*(l.length-RuX.i m)+((Nd.ks (bJ l m)).length-RuX.j m)<=X->aK (decide (((RuX.j m):Int)< (↑((Nd.ks (bJ l m)).length):Int))) (aK (RuX.b m) (Km l vs C m true) (aF (yE
 ((RuX.j m):Int) (↑((Nd.ks (bJ l m)).length):Int)) (aN .i64 (List.map yQ (Nd.ks (bJ l m))) (((RuX.j m):Int).toNat*1) λa7=>Q9 l vs C a7 m (λa8=>Km l vs C m a8)))) (Q5 l vs C M m (RuX.b m))) (tM l vs C
 O R false (λa9=>a0 a9) (λb0=>G b0))) (tM l vs C O R false (λb1=>a0 b1) (λb2=>G b2)))))
def Ko(l:Y15)(vs:Y12)(C:dW)(O:Prop)(D:Heap)(G:IV)(K:Bool)(A:Int)(L:RuX->Prop):Prop:=dX D 1 1 G 1 [IV.bool K] λm r u y z=>(∃(R:Unit),jG l vs C l (IV.vslice (some m) r u 1 y) IV.nilslice A 0 (z=Heap.mk PT.nil 0/\Nat.le 0 l.length/\O)) \/ ∃(j:RuX),jG l vs C
 l (IV.vslice (some m) r u 1 y) (fF l vs C j) A ((RuX.i j):Int) (z=RuX.g j/\RuR l (RuX.i j) (RuX.t j) (RuX.g j)/\L j)
def Kl(l:Y15)(vs:Y12)(C:dW)(M:Nat)(r:Prop)(z:RuX->Prop)(A:RuX->Prop):Prop:=(∀(m:Bool)(D:FF),1<=l.length/\m=rE l (List.getD (aD l) 0 0) (unV vs C) [] (List.getD l 0 default)->l.length+1<=M->Ko l vs C r (Heap.mk PT.nil 0) IV.nilslice m 1 (λu=>z u))/\∀(j:RuX)(G:FF),RuR l (RuX.i j) (RuX.t j) (RuX.g
 j)/\RuX.i j<l.length/\RuX.b j=rE l (List.getD (aD l) (RuX.i j) 0) (unV vs C) (uP l (unV vs C) (RuX.i j)) (bJ l j)->l.length-RuX.i j<=M->Ko l vs C r (RuX.g j) (fF l vs C j) (RuX.b j) (wW (((RuX.i j):Int)+1)) (λy=>A y)
theorem f3I(l:Y15)(vs:Y12)(C:dW)(e1 e2 V:Nat)(h:Heap)(Q:KT):dF (aU b6B) env 123 cC (zE 5 (ru1 l vs C) (zE 1000013 (ru4 l vs C) (mJ 1000021 (ru5 l vs C)))) (zE 1000024 (ru2 l vs C) (mJ 25 (ru3 l vs C))) [.vslice none e1 (l).length 3 ((l).flatMap cN),.vslice none e2 (vs).length 1 ((vs).map (IV.int .i64)),.vslice none V C.length 3 (C.flatMap cL)] h Q=(
 aF (aQ [IV.vslice none 0 l.length 3 (B3 l),IV.vslice none 0 vs.length 1 (List.map yQ vs),IV.vslice none 0 C.length 3 (List.flatMap cL C)]) (∃(y:Y15),(l.length=y.length/\List.flatMap cN l=List.flatMap cN y)/\((∀(x:Nd),x∈y->List.length (Nd.ks x)<=1000000/\True)/\y.length<=1000000)/\(((∃(xa:Unit),jG l vs C y IV.nilslice IV.nilslice 0 0 (Heap.mk PT.nil 0=Heap.mk PT.nil 0/\Nat.le 0 l.length/\True)) \/ ∃(m:RuX),jG l vs C y IV.nilslice (fF l vs C m) 0 ((RuX.i m):Int) (Heap.mk PT.nil 0=RuX.g m/\RuR l (RuX.i m) (RuX.t m) (RuX.g m)/\True))/\(∀(xa:Unit)(b:FF),0<=l.length->aK (decide (0< (l.length:Int))) (aF (true&&decide (0< (l.length:Int))) (aN .i64 (B3 l) 0 λn0=>aN .i64 (B3 l) 1 λn1=>bM 1 (B3 l) 2 λi2 V l4 c5=> ∃(M:Nat),aF (true&&decide (0< (↑((aD l).length):Int))) (aN .i64 (List.map yQ (aD l)) 0 λn6=>Kk l vs C M n6 IV.nilslice 0 (λxc=>Heap.mk PT.nil 0=Heap.mk PT.nil 0/\yC l vs C M xc) (λm=>Heap.mk PT.nil 0=RuX.g m/\yB l vs C M m) n0 n1 i2 V l4 c5 (λu m=>Heap.mk PT.nil 0=RuX.g m/\(Q7 l vs C m)/\(1000000:Nat)*(l.length-RuX.i m)+(vs.length-RuX.j m)<=u) (λa4 a3 a5=>False) (λu m=>Heap.mk PT.nil 0=RuX.g m/\(Q6 l vs C m)/\(1000000:Nat)*(l.length-RuX.i m)+((Nd.ks (bJ l m)).length-RuX.j m)<=u))/\Kl l vs C M (l.length+1<l.length+1) (λm=>l.length-RuX.i m<l.length+1) (λr=>l.length-RuX.i r<l.length+1))) (some (TV.v IV.nilslice)=some (TV.v IV.nilslice)/\Heap.mk PT.nil 0=Heap.mk PT.nil 0/\l.length=0/\True\/ ∃(m:RuX),some (TV.v IV.nilslice)=some (TV.v (fF l vs C m))/\Heap.mk PT.nil 0=RuX.g m/\RuX.i m=l.length/\True))/\∀(m:RuX)(b:FF),RuR l (RuX.i m) (RuX.t m) (RuX.g m)->aK (decide (((RuX.i m):Int)< (l.length:Int))) (aF (yE ((RuX.i m):Int) (l.length:Int)) (aN .i64 (B3 l) (((RuX.i m):Int).toNat*3) λZ=>aN .i64 (B3 l) (((RuX.i m):Int).toNat*3+1) λD=>bM 1 (B3 l) (((RuX.i m):Int).toNat*3+1+1) λX T Y O=> ∃(M:Nat),aF (yE ((RuX.i m):Int) (↑((aD l).length):Int)) (aN .i64 (List.map yQ (aD l)) (((RuX.i m):Int).toNat*1) λa0=>Kk l vs C M a0 (fF l vs C m) ((RuX.i m):Int) (λG=>RuX.g m=Heap.mk PT.nil 0/\yC l vs C M G) (λr=>RuX.g m=RuX.g r/\yB l vs C M r) Z D X T Y O (λu r=>RuX.g m=RuX.g r/\(Q7 l vs C r)/\(1000000:Nat)*(l.length-RuX.i r)+(vs.length-RuX.j r)<=u) (λA R a1=>Q9 l vs C a1 m (λK=>aK K (Q5 l vs C M m true) (aF (decide (0<=wW (a9U D A)) &&decide (wW (a9U D A)< (A:Int))) (aN .i64 R ((wW (a9U D A)).toNat*1) λa2=>Q9 l vs C a2 m (λL=>Q5 l vs C M m L))))) (λu r=>RuX.g m=RuX.g r/\(Q6 l vs C r)/\(1000000:Nat)*(l.length-RuX.i r)+((Nd.ks (bJ l r)).length-RuX.j r)<=u))/\Kl l vs C M (l.length+1<l.length-RuX.i m) (λz=>l.length-RuX.i z<l.length-RuX.i m) (λz=>l.length-RuX.i z<l.length-RuX.i m))) (some (TV.v (fF l vs C m))=some (TV.v IV.nilslice)/\RuX.g m=Heap.mk PT.nil 0/\l.length=0/\True\/ ∃(r:RuX),some (TV.v (fF l vs C m))=some (TV.v (fF l vs C r))/\RuX.g m=RuX.g r/\RuX.i r=l.length/\True))/\(∀(xa:Unit)(b:FF),l.length=0->Q (.vslice none 0 0 1 []) h)/\∀(m:RuX)(b:FF),RuX.i m=l.length->aF (aQ [IV.vslice none 0 (RuX.i m) 1 (List.map IV.bool (uP l (unV vs C) (RuX.i m)))]) (Q (.vslice none 0 (RuX.i m) 1 (List.map IV.bool (uP l (unV vs C) (RuX.i m)))) h))):=by kernel_rfl
theorem f0P: ∀xs h Q,b9L xs h Q->aM env 123 xs h Q:=by
 intro xs h Q hk;unfold b9L at hk;split at hk
 .rename_i e1 n1 c1 e2 n2 c2 e3 n3 c3;obtain⟨l,vs,C,⟨rfl,rfl,rfl,rfl,rfl,rfl⟩,hl,hC,hk⟩:=hk;refine aL (c1W) (f3I l vs C e1 e2 e3 h Q) ?_;delta B3 yQ c5F c5E c5D jG fF tM yD bJ Q8 Kn Q7 Q4 yE yC yB Kp Q6 Km Q9 Q5 Kk Ko Kl a9U tI wW iI; (try dsimp -iota -proj only);have tn: ∀x:Nat,(x:Int).toNat=x:=AK
  obtain⟨hn,hl⟩:=hl;have c8:=bA l;have a2: ∀n∈l,n.ks.length<=41:=λn h=>(hn n h).2
  have c9:=hC.1;refine aA (by simp only [aQ,aY,bX,eY,bL,AN]) ⟨l,⟨rfl,rfl⟩,⟨λx hx=>⟨by have:=a2 x hx;omega,True.intro⟩,JZ⟩,⟨.inl ⟨(),KD,KD,KD,KD,KD,KD,KD,AR _,KD⟩,?_,?_⟩,?_,?_⟩
  .intro _ _ _;refine cV (λc=>?_) (λc=> .inl ⟨KD,KD,JZ,KD⟩);have a4:0<l.length:=JZ;have O:l.getD 0 default=l[0]:=bO a4;refine aA (by simp;omega) (uM a4 rfl ⟨l.length+1,aA (by simp;omega) (aR (n:=(aD l).getD 0 0) (by rw [BJ,AB JZ,bO (by omega:0< (aD l).length)];rfl) ?_),?_,?_⟩)
   .refine aB (λs1=>?_) (λs1=>?_)
    .have e:false=rE l ((aD l).getD 0 0) (unV vs C) [] l[0]:=by
      unfold rE
      rw [if_pos (bne_iff_ne.1 s1)]
     exact .inl ⟨false,KD,KD,KD,KD,KD,KD,KD,KD,⟨JZ,by rw [O];exact e⟩,AF _⟩
    have G:(aD l).getD 0 0=1:=bne_eq_false_iff_eq.1 s1;obtain⟨v1,v2⟩:=mY a4 G;have a3:l[0].ks=[]:=List.eq_nil_iff_forall_not_mem.2 (λk hk=>by
     have:=v1 k hk;omega)
    have hu:rE l ((aD l).getD 0 0) (unV vs C) [] l[0]=if l[0].op=3 then unV vs C l[0].im else if l[0].op=25 then(gU [] (aX (mP l l[0]) l[0].im.toNat).f||gU [] (aX (mP l l[0]) l[0].im.toNat).n)else(decide ((4:Int)<=l[0].op/\l[0].op<=22) &&l[0].ks.any (gU [])):=by
     unfold rE
     rw [if_neg (λq=>q G)]
    refine aB (λZ=>⟨C,⟨rfl,rfl⟩,hC.2,1000000*l.length+vs.length,⟨⟨0,0,0,_,.nilslice,false⟩,KD,KD,KD,KD,KD,KD,KD,KD,by rw [O],KD,by rw [O],rfl,⟨⟨.inl ⟨rfl,rfl,rfl⟩⟩,⟨a4,G,by rw [O];exact beq_iff_eq.1 Z,AR _⟩,KB⟩,KE⟩,?_⟩) (λZ=>?_)
    .rintro x _ ⟨hv,⟨h1,h2,h3,h4⟩,K⟩ hm;have m:IntKind.i64.wrap ((x.j:Int)+1)=((x.j+1:Nat):Int):=by rw [AA _ JZ];rfl
     refine cV (λc=>?_) (λc=>?_)
     .have R:x.j<vs.length:=JZ;have ht:vs.take (x.j+1)=vs.take x.j++ [vs[x.j]]:=AO R;have nx: ∀b:Bool,b=((vs.take (x.j+1)).any (λw=>decide (w=(l.getD x.i default).im)) &&!(iQ C (l.getD x.i default).im).2)->RuV l (unV vs C) {x with j:=x.j+1,b:=b } /\(x.i<l.length/\(aD l).getD x.i 0=1/\(l.getD x.i default).op=3/\x.j+1<=vs.length)/\b=((vs.take (x.j+1)).any (λw=>decide (w=(l.getD x.i default).im)) &&!(iQ C (l.getD x.i default).im).2):=λb e=>⟨⟨hv.e⟩,⟨h1,h2,h3,R⟩,e⟩
      have D:1000000*(l.length-x.i)+(vs.length- (x.j+1))<1000000*(l.length-x.i)+(vs.length-x.j):=JZ;refine aB (λd=>⟨{x with j:=x.j+1,b:=true },KD,KD,KD,KD,KD,KD,KD,KD,KD,by rw [m],KD,rfl,nx true ?_,D⟩) (λd=>aA (by simp;omega) (aR (n:=vs[x.j]) (by rw [tn,AM,BJ,AB R];rfl) (aB (λd2=>⟨{x with j:=x.j+1,b:=!(iQ C (l.getD x.i default).im).2 },KD,KD,KD,KD,KD,KD,KD,KD,KD,by rw [m],KD,rfl,nx _ ?_,D⟩) (λd2=>⟨{x with j:=x.j+1,b:=false },KD,KD,KD,KD,KD,KD,KD,KD,KD,by rw [m],KD,rfl,nx false ?_,D⟩))))
      .rw [ht,DO,EB,EU,DA];rw [K,AE]at d;rw [d.1,d.2];rfl
      .rw [ht,DO,EB,EU,DA];rw [decide_eq_true (beq_iff_eq.1 d2),GH,BD]
      .rw [ht,DO,EB,EU,DA];rw [decide_eq_false (beq_eq_false_iff_ne.1 d2),DA,<-K,d]
     .have hu:x.b=rE l ((aD l).getD x.i 0) (unV vs C) (uP l (unV vs C) x.i) (l.getD x.i default):=by
       unfold rE
       rw [if_neg (λq=>q h2),if_pos h3,K,AJ JZ];rfl
      rcases hv.e with⟨a1,V,a8⟩| ⟨hr,V⟩
      .rw [a1]at hu;exact .inl ⟨x.b,KD,KD,KD,KD,by rw [V],congrArg (λn:Nat=>some (TV.v (IV.int IntKind.i64 (n:Int)))) a1,KD,a8,⟨JZ,hu⟩,AF _⟩
      .exact .inr ⟨x,KD,KD,KD,KD,by rw [V],KD,KD,rfl,⟨hr,h1,hu⟩,JZ⟩
    have Z:=beq_eq_false_iff_ne.1 Z;rcases v2 with⟨_,q,hq,_⟩| ⟨X,_,_,a0,_⟩
    .rw [a3]at hq
     cases hq
    unfold ar at a0;rw [a3]at a0;have o4: ¬ ((4:Int)<=l[0].op/\l[0].op<=22):=λq=>by
     split at a0
     .omega
     .repeat' split at a0
      all_goals first|omega| (simp at a0)
    have e:false=rE l ((aD l).getD 0 0) (unV vs C) [] l[0]:=by
     rw [hu,if_neg Z,if_neg X,decide_eq_false o4,CN]
    refine bf (beq_eq_false_iff_ne.2 X) (cV (λc3=>cV (λc4=>absurd ⟨c3,c4⟩ o4) (λ_=>?_)) (λ_=>?_))
    .exact .inl ⟨false,KD,KD,KD,KD,KD,KD,KD,KD,⟨JZ,by rw [O];exact e⟩,AF _⟩
    .exact .inl ⟨false,KD,KD,KD,KD,KD,KD,KD,KD,⟨JZ,by rw [O];exact e⟩,AF _⟩
   .rintro b _ ⟨h1,K⟩ hM;have e:(uP l (unV vs C) 1).map IV.bool=[.bool b]:=by
     show(([]++ [rE l ((aD l).getD 0 0) (unV vs C) [] (l.getD 0 default)]:Y13)).map IV.bool=_;rw [<-K];rfl
    exact Mr KA (λ_=> .inr ⟨⟨1,0,0,_,.nilslice,b⟩,KD,KD,KD,KD,by rw [e],KD,rfl,⟨⟨AF _,h1⟩,rfl⟩,KE⟩)
   .rintro y _ ⟨hy,c0,a6⟩ hM;have b9:=hy.le;have m:IntKind.i64.wrap ((y.i:Int)+1)=((y.i+1:Nat):Int):=by rw [AA _ JZ];rfl
    have e:(uP l (unV vs C) (y.i+1)).map IV.bool=(uP l (unV vs C) y.i).map IV.bool++ [.bool y.b]:=by
     rw [uP,BY,<-a6];rfl
    exact yX JZ hy.tp (.inr ⟨⟨y.i+1,y.t,0,_,.nilslice,y.b⟩,KD,KD,KD,KD,by rw [e],by rw [m],rfl,⟨⟨KE,KE⟩,aH⟩,KE⟩)
  .intro z _ L;have d0:=L.le;have a7:(uP l (unV vs C) z.i).length=z.i:=Ta l _ _;refine cV (λc=>?_) (λc=> .inr ⟨z,KD,rfl,JZ,KD⟩);have u:z.i<l.length:=JZ;have gl:l.getD z.i default=l[z.i]:=bO u;have a5: ∀{p:Prop}[Decidable p]{A:Prop},p->A->aF (true&&decide p) A:=λh a=>aA (by rw [decide_eq_true h];rfl) a
   refine aP ⟨JZ,JZ⟩ (uM u (by rw [tn]) ⟨l.length-z.i,aP ⟨JZ,JZ⟩ (aR (n:=(aD l).getD z.i 0) (by rw [tn,AM,BJ,AB JZ,bO (by omega:z.i< (aD l).length)];rfl) ?_),?_,?_⟩)
   rotate_left
   .rintro b _ ⟨h1,K⟩ hM;exact absurd hM JZ
   .rintro y _ ⟨hy,c0,a6⟩ hM;have b9:=hy.le;have m:IntKind.i64.wrap ((y.i:Int)+1)=((y.i+1:Nat):Int):=by rw [AA _ JZ];rfl
    have e:(uP l (unV vs C) (y.i+1)).map IV.bool=(uP l (unV vs C) y.i).map IV.bool++ [.bool y.b]:=by
     rw [uP,BY,<-a6];rfl
    exact yX JZ hy.tp (.inr ⟨⟨y.i+1,y.t,0,_,.nilslice,y.b⟩,KD,KD,KD,KD,by rw [e],by rw [m],rfl,⟨⟨KE,KE⟩,aH⟩,KE⟩)
   refine aB (λs1=>?_) (λs1=>?_)
   .have e:false=rE l ((aD l).getD z.i 0) (unV vs C) (uP l (unV vs C) z.i) l[z.i]:=by
     unfold rE
     rw [if_pos (bne_iff_ne.1 s1)]
    exact .inr ⟨{z with b:=false },KD,KD,KD,KD,KD,KD,KD,rfl,⟨⟨L.le,L.tp⟩,u,by rw [gl];exact e⟩,AF _⟩
   have G:(aD l).getD z.i 0=1:=bne_eq_false_iff_eq.1 s1;obtain⟨v1,v2⟩:=mY u G;have hu:rE l ((aD l).getD z.i 0) (unV vs C) (uP l (unV vs C) z.i) l[z.i]=if l[z.i].op=3 then unV vs C l[z.i].im else if l[z.i].op=25 then(gU (uP l (unV vs C) z.i) (aX (mP l l[z.i]) l[z.i].im.toNat).f||gU (uP l (unV vs C) z.i) (aX (mP l l[z.i]) l[z.i].im.toNat).n)else(decide (4<=l[z.i].op/\l[z.i].op<=22) &&l[z.i].ks.any (gU (uP l (unV vs C) z.i))):=by
    unfold rE
    rw [if_neg (λq=>q G)]
   refine aB (λZ=>⟨C,⟨rfl,rfl⟩,hC.2,1000000*(l.length-z.i)+vs.length,⟨⟨z.i,z.t,0,z.g,_,false⟩,KD,KD,KD,KD,KD,KD,KD,KD,by rw [gl],KD,by rw [gl],rfl,⟨⟨.inr ⟨⟨L.le,L.tp⟩,rfl⟩⟩,⟨u,G,by rw [gl];exact beq_iff_eq.1 Z,AR _⟩,KB⟩,KE⟩,?_⟩) (λZ=>?_)
   .rintro x _ ⟨hv,⟨h1,h2,h3,h4⟩,K⟩ hm;have m:IntKind.i64.wrap ((x.j:Int)+1)=((x.j+1:Nat):Int):=by rw [AA _ JZ];rfl
    refine cV (λc=>?_) (λc=>?_)
    .have R:x.j<vs.length:=JZ;have ht:vs.take (x.j+1)=vs.take x.j++ [vs[x.j]]:=AO R;have nx: ∀b:Bool,b=((vs.take (x.j+1)).any (λw=>decide (w=(l.getD x.i default).im)) &&!(iQ C (l.getD x.i default).im).2)->RuV l (unV vs C) {x with j:=x.j+1,b:=b } /\(x.i<l.length/\(aD l).getD x.i 0=1/\(l.getD x.i default).op=3/\x.j+1<=vs.length)/\b=((vs.take (x.j+1)).any (λw=>decide (w=(l.getD x.i default).im)) &&!(iQ C (l.getD x.i default).im).2):=λb e=>⟨⟨hv.e⟩,⟨h1,h2,h3,R⟩,e⟩
     have D:1000000*(l.length-x.i)+(vs.length- (x.j+1))<1000000*(l.length-x.i)+(vs.length-x.j):=JZ;refine aB (λd=>⟨{x with j:=x.j+1,b:=true },KD,KD,KD,KD,KD,KD,KD,KD,KD,by rw [m],KD,rfl,nx true ?_,D⟩) (λd=>aA (by simp;omega) (aR (n:=vs[x.j]) (by rw [tn,AM,BJ,AB R];rfl) (aB (λd2=>⟨{x with j:=x.j+1,b:=!(iQ C (l.getD x.i default).im).2 },KD,KD,KD,KD,KD,KD,KD,KD,KD,by rw [m],KD,rfl,nx _ ?_,D⟩) (λd2=>⟨{x with j:=x.j+1,b:=false },KD,KD,KD,KD,KD,KD,KD,KD,KD,by rw [m],KD,rfl,nx false ?_,D⟩))))
     .rw [ht,DO,EB,EU,DA];rw [K,AE]at d;rw [d.1,d.2];rfl
     .rw [ht,DO,EB,EU,DA];rw [decide_eq_true (beq_iff_eq.1 d2),GH,BD]
     .rw [ht,DO,EB,EU,DA];rw [decide_eq_false (beq_eq_false_iff_ne.1 d2),DA,<-K,d]
    .have hu:x.b=rE l ((aD l).getD x.i 0) (unV vs C) (uP l (unV vs C) x.i) (l.getD x.i default):=by
      unfold rE
      rw [if_neg (λq=>q h2),if_pos h3,K,AJ JZ];rfl
     rcases hv.e with⟨a1,V,a8⟩| ⟨hr,V⟩
     .rw [a1]at hu;exact absurd hm (by rw [a1];omega)
     .exact .inr ⟨x,KD,KD,KD,KD,by rw [V],KD,KD,rfl,⟨hr,h1,hu⟩,JZ⟩
   have Z:=beq_eq_false_iff_ne.1 Z;refine aB (λY=>?_) (λY=>?_)
   .have Y:=beq_iff_eq.1 Y;rcases v2 with⟨_,q,hq,b7,q3,q4,q5,q6⟩| ⟨X,_⟩
    case inr=>exact absurd Y X
    have a9:=gJ q3;have b6:=a9.odd;have T:q.toNat<l.length:=JZ;have a3:mP l l[z.i]=l[q.toNat]:=by unfold mP;rw [hq];exact bO T
    rw [bO T]at b6 q6;have b2:l[z.i].im.toNat<l[q.toNat].ks.length/2:=JZ;have b0:=Z9 (j:=l[z.i].im.toNat) a9 (by rw [bO T];exact b2);rw [bO T]at b0;obtain⟨f1,n1,_⟩:=b0;have e0:(gU (uP l (unV vs C) z.i) (aX l[q.toNat] l[z.i].im.toNat).f||gU (uP l (unV vs C) z.i) (aX l[q.toNat] l[z.i].im.toNat).n)=rE l ((aD l).getD z.i 0) (unV vs C) (uP l (unV vs C) z.i) l[z.i]:=by
     rw [hu,if_neg Z,if_pos Y,a3]
    have c7:l[z.i].ks.length=1:=by rw [hq];rfl
    have b4:l[z.i].ks.getD 0 0=q:=by rw [hq];rfl
    have c5:=a2 _ (AG T);have hw:IntKind.i64.wrap (IntKind.i64.wrap (IntKind.i64.wrap (Int.tdiv (l[q.toNat].ks.length:Int) 2)+1)+l[z.i].im)=((l[q.toNat].ks.length/2+1+l[z.i].im.toNat:Nat):Int):=by
     have t:Int.tdiv (l[q.toNat].ks.length:Int) 2=((l[q.toNat].ks.length/2:Nat):Int):=by rw [BQ JZ];omega
     rw [t,AA ((l[q.toNat].ks.length/2:Nat):Int) JZ,AA (((l[q.toNat].ks.length/2:Nat):Int)+1) JZ,AA _ JZ];omega
    have b5:(aX l[q.toNat] l[z.i].im.toNat).n=l[q.toNat].ks.getD (l[q.toNat].ks.length/2+1+l[z.i].im.toNat) 0:=by
     unfold aX
     dsimp only
     congr 1
     omega
    have f2:0<=(aX l[q.toNat] l[z.i].im.toNat).f/\(aX l[q.toNat] l[z.i].im.toNat).f< ((uP l (unV vs C) z.i).length:Int):=⟨f1.1,by rw [a7];omega⟩;have n2:0<=(aX l[q.toNat] l[z.i].im.toNat).n/\(aX l[q.toNat] l[z.i].im.toNat).n< ((uP l (unV vs C) z.i).length:Int):=⟨n1.1,by rw [a7];omega⟩;refine a5 JZ (oP JZ rfl ?_);rw [b4];refine aP ⟨b7.1,JZ⟩ (lP (by rw [pD T KA];rfl) ?_);rw [hw];refine aP ⟨JZ,JZ⟩ (oP (j:=l[z.i].im.toNat) JZ JZ (aP ⟨f2.1,by have:=f1.2;show(aX l[q.toNat] l[z.i].im.toNat).f<_;omega⟩ (H1 f2 (by rw [AM];rfl) (aB (λcu=>?_) (λcu=>aP ⟨JZ,JZ⟩ (oP (j:=l[q.toNat].ks.length/2+1+l[z.i].im.toNat) JZ JZ ?_))))))
    .have e:true=rE l ((aD l).getD z.i 0) (unV vs C) (uP l (unV vs C) z.i) l[z.i]:=by
      rw [<-e0,cu,FM]
     exact .inr ⟨{z with b:=true },KD,KD,KD,KD,KD,KD,KD,rfl,⟨⟨L.le,L.tp⟩,u,by rw [gl];exact e⟩,AF _⟩
    .rw [<-b5];have e:gU (uP l (unV vs C) z.i) (aX l[q.toNat] l[z.i].im.toNat).n=rE l ((aD l).getD z.i 0) (unV vs C) (uP l (unV vs C) z.i) l[z.i]:=by
      rw [<-e0,cu,EA]
     refine aP ⟨n1.1,JZ⟩ (H1 n2 (by rw [AM]) ?_);exact .inr ⟨{z with b:=gU (uP l (unV vs C) z.i) (aX l[q.toNat] l[z.i].im.toNat).n },KD,KD,KD,KD,KD,KD,KD,rfl,⟨⟨L.le,L.tp⟩,u,by rw [gl];exact e⟩,AF _⟩
   have X:=beq_eq_false_iff_ne.1 Y;have e0:rE l ((aD l).getD z.i 0) (unV vs C) (uP l (unV vs C) z.i) l[z.i]=(decide (4<=l[z.i].op/\l[z.i].op<=22) &&l[z.i].ks.any (gU (uP l (unV vs C) z.i))):=by rw [hu,if_neg Z,if_neg X]
   refine cV (λc3=>cV (λc4=>?_) (λc4=>?_)) (λc3=>?_)
   rotate_left
   .have e:false=rE l ((aD l).getD z.i 0) (unV vs C) (uP l (unV vs C) z.i) l[z.i]:=by rw [e0,decide_eq_false JZ,CN]
    exact .inr ⟨{z with b:=false },KD,KD,KD,KD,KD,KD,KD,rfl,⟨⟨L.le,L.tp⟩,u,by rw [gl];exact e⟩,AF _⟩
   .have e:false=rE l ((aD l).getD z.i 0) (unV vs C) (uP l (unV vs C) z.i) l[z.i]:=by rw [e0,decide_eq_false JZ,CN]
    exact .inr ⟨{z with b:=false },KD,KD,KD,KD,KD,KD,KD,rfl,⟨⟨L.le,L.tp⟩,u,by rw [gl];exact e⟩,AF _⟩
   have b3:=a2 _ (AG u);refine⟨1000000*(l.length-z.i)+l[z.i].ks.length,⟨⟨z.i,z.t,0,z.g,.nilslice,false⟩,KD,KD,KD,KD,KD,KD,KD,KD,KD,by rw [gl],rfl,⟨⟨L.le,L.tp⟩,⟨u,G,by rw [gl];exact⟨c3,c4⟩,AR _⟩,KB⟩,by dsimp only;rw [gl];omega⟩,?_⟩;rintro x _ ⟨hr,⟨h1,h2,h3,h4⟩,K⟩ hm;have r:l.getD x.i default=l[x.i]:=bO h1;have b1:(uP l (unV vs C) x.i).length=x.i:=Ta l _ _;have vx:=(mY h1 h2).1;rw [r]at h3 h4 K hm⊢;have c6:=a2 _ (AG h1);have m:IntKind.i64.wrap ((x.j:Int)+1)=((x.j+1:Nat):Int):=by rw [AA _ JZ];rfl
   refine cV (λc=>?_) (λc=>?_)
   .have R:x.j<l[x.i].ks.length:=JZ;have ht:l[x.i].ks.take (x.j+1)=l[x.i].ks.take x.j++ [l[x.i].ks[x.j]]:=AO R;have hk:=vx _ (AG R);have D:1000000*(l.length-x.i)+((l.getD x.i default).ks.length- (x.j+1))<1000000*(l.length-x.i)+(l[x.i].ks.length-x.j):=by rw [r];omega
    refine aB (λd=>⟨{x with j:=x.j+1,b:=true },KD,KD,KD,KD,KD,KD,KD,KD,by rw [m],by rw [r],rfl,⟨hr,⟨h1,h2,by rw [r];exact h3,by rw [r];exact R⟩,?_⟩,D⟩) (λd=>aA (by simp;omega) (aR (n:=l[x.i].ks[x.j]) (by rw [tn,AM,BJ,AB R];rfl) (aP ⟨hk.1,hk.2.1⟩ (H1 ⟨hk.1,by rw [b1];exact hk.2.1⟩ (by rw [AM]) ⟨{x with j:=x.j+1,b:=gU (uP l (unV vs C) x.i) l[x.i].ks[x.j] },KD,KD,KD,KD,KD,KD,KD,KD,by rw [m],by rw [r],rfl,⟨hr,⟨h1,h2,by rw [r];exact h3,by rw [r];exact R⟩,?_⟩,D⟩))))
    .show true=((l.getD x.i default).ks.take (x.j+1)).any _;rw [r,ht,DO,<-K,d,FM]
    .show gU _ _=((l.getD x.i default).ks.take (x.j+1)).any _;rw [r,ht,DO,<-K,d,EA,EB,EU,DA]
   .have b8:x.b=rE l ((aD l).getD x.i 0) (unV vs C) (uP l (unV vs C) x.i) l[x.i]:=by
     unfold rE
     rw [if_neg (λq=>q h2),if_neg JZ];rw [AJ JZ]at K
     by_cases o:l[x.i].op=25
     .exact absurd h3.2 JZ
     .rw [if_neg o,decide_eq_true h3,BD];exact K
    exact .inr ⟨x,KD,KD,KD,KD,KD,KD,KD,rfl,⟨hr,h1,by rw [r];exact b8⟩,JZ⟩
  .intro _ _ hN;have e:uG l (unV vs C)=[]:=CU (by rw [a4Q,hN]);rw [e,hN]at hk;exact hk
  .intro x _ hx;rw [hx];exact aA (by simp only [aQ,aY,Xu,AN]) hk
 .exact hk.elim
def b6M:=aV 123 b9L b6B
theorem c2G:aS env b6M:=aE f0P (c1W)
def rs1(l:Y15)(x:LV)(i:Nat)(a b:Int)(p:Bool)(C:dW)(r:Int):Inv':=dL (Iv×Iv) (λy=>[(0,.v (.vslice none 0 (l).length 3 ((l).flatMap cN))),(5,.v (.int .i64 r)),(8,.l 8 0),(12,.l 12 0),(13,.v (.vslice none 0 l.length 1 ((uG l (unV (fI l) C)).map IV.bool))),(14,.v (.vslice none 0 l.length 2 ((rG l (kSI C)).flatMap cR))),(15,.v (.vslice none 0 ((l.getD i default).ks).length 1 (((l.getD i default).ks).map (IV.int .i64)))),(16,.v (.int .i64 (((l.getD i default).ks.length/2:Nat):Int))),(18,.v (.int .i64 x.n)),(19,.l 19 0),(20,.l 20 0)])
 (λy=>[(8,[.int .i64 a,.int .i64 b,.bool p]),(12,[.int .i64 0,.int .i64 0,.bool false]),(19,[.int .i64 y.1.1,.int .i64 y.1.2,.bool (!gU (uG l (unV (fI l) C)) x.f)]),(20,[.int .i64 y.2.1,.int .i64 y.2.2,.bool (!gU (uG l (unV (fI l) C)) x.n)])]) (λ_=>Heap.empty)
 (λy=>y.1=Tf ((a,b),p) r (gR (rG l (kSI C)) x.f)/\y.2=Tf ((a,b),p) r (gR (rG l (kSI C)) x.n)) (λ_=>0)
def b9H(xs:Y14)(h:Heap)(K:KT):Prop:=match xs with
 | [.vslice none e1 n1 3 c1,.int .i64 v,.agg [.int .i64 a,.int .i64 b,.bool p],.vslice none e2 n2 1 c2,.vslice none e3 n3 3 c3,.int .i64 r]=> ∃(l:Y15)(x:LV)(i:Nat)(C:dW),(n1=l.length/\c1=l.flatMap cN/\v=x.v/\n2=(fI l).length/\c2=(fI l).map (IV.int .i64)/\n3=C.length/\c3=C.flatMap cL)/\((∀n∈l,aZ n.im/\n.ks.length<=41)/\l.length<=6000)/\(∃j,LvAt l x i j)/\((∀p∈C,cF p.2)/\C.length<=1099511627776)/\K (eO (stQ l x ((a,b),p) (unV (fI l) C) (kSI C) r)) h
 |_=>False
def d3M(x:LV)(g:Nat):=wW (wW (Int.tdiv (g:Int) 2)+1)+Int.tmod (LV.v x) 16
def c6Q(x:LV)(g:Iv×Iv)(j:Int)(i:Y15)(R:List Iv):=jL i (LV.mk 0 0 (LV.n x) j) (g.2.1,g.2.2) R
def d3N(x:LV):=wW (Int.tdiv (LV.v x) 16)
def e6L(x:LV)(g:Nat):=decide (0<=Int.tmod (LV.v x) 16) &&decide (Int.tmod (LV.v x) 16< (g:Int))
def e6M:=[iI 0,iI 0,IV.bool false]
def b3X:=IV.int .i64
def qH(g:Y15)(i:Nat):Y12:=Nd.ks (List.getD g i default)
def c6R(l:Y15)(i:Nat):=(qH l i).length/ (2:Nat)
def e6N(l:Y15):=TV.v (.vslice none 0 l.length 3 (List.flatMap cN l))
def d3O(a b:Int)(p:Bool):=[iI a,iI b,IV.bool p]
def Q1(i:Y15):Prop:=(∀(g:Nd),g∈i->aZ (Nd.im g)/\List.length (Nd.ks g)<=41)/\i.length<=100000
def tL(g:Int)(i:Y15):Bool:=decide (0<=g) &&decide (g< (i.length:Int))
def P9(l:Y15)(r:Int)(j:Y15)(vs:Y12)(u:List (Int×Iv))(C:dW)(m:Y15)(y:List (Int×Iv))(V:Y10)(T:Nat)(L:Nat)(R:Y14)(i:Nat)(X:Int)(x:LV)(a:Int)(b:Int)(p:Bool)(O:Bool)(z:Bool)(A:Int)(D:Int)(G:Int)(K:Int):Prop:= ∃(g:Iv×Iv),some (e6N l)=some (e6N l)/\tI r=tI r/\some (TV.l 8 0)=some (TV.l 8 0)/\some (TV.l 12 0)=some (TV.l 12 0)/\some (TV.v (.vslice none 0 j.length 1 (List.map IV.bool (uG j (unV vs u)))))=some (TV.v (.vslice none 0 l.length 1 (List.map IV.bool (uG l (unV (fI l) C)))))
 /\some (TV.v (.vslice none 0 m.length 2 (List.flatMap cR (rG m (kSI y)))))=some (TV.v (.vslice none 0 l.length 2 (List.flatMap cR (rG l (kSI C)))))/\some (TV.v (.vslice V T L 1 R))=some (TV.v (.vslice none 0 ((qH l i).length) 1 (List.map b3X (qH l i))))/\tI (wW (Int.tdiv
 (L:Int) 2))=tI ((c6R l i):Int)/\tI X=tI (LV.n x)/\some (TV.l 19 0)=some (TV.l 19 0)/\some (TV.l 20 0)=some (TV.l 20 0)/\some (d3O a b p)=some (d3O a b p)/\some e6M=some e6M/\some [iI A,iI D,IV.bool !O]=some [iI g.1.1,iI g.1.2,IV.bool !gU (uG l (unV
 (fI l) C)) (LV.f x)]/\some [iI G,iI K,IV.bool !z]=some [iI g.2.1,iI g.2.2,IV.bool !gU (uG l (unV (fI l) C)) (LV.n x)]/\Heap.mk PT.nil 0=Heap.mk PT.nil 0/\(g.1=Tf ((a,b),p) r (gR (rG l (kSI C)) (LV.f x))/\g.2=Tf ((a,b),p) r (gR (rG l (kSI C)) (LV.n x)))/\True
def Kj(l:Y15)(i:Nat)(j:Int->Prop):Prop:=aF (decide (0<=((c6R l i):Int)) &&decide (((c6R l i):Int)< (↑((qH l i).length):Int))) (aN .i64 (List.map b3X (qH l i)) (((c6R l i):Int).toNat*1) λg=>j g)
def Q3(a:Int)(b:Int)(p:Bool)(g:Iv×Iv)(l:Y15)(C:dW)(x:LV):Iv×Bool:=joQ ((a,b),p) ((g.1.1,g.1.2),!gU (uG l (unV (fI l) C)) (LV.f x))
def Q0(a:Int)(b:Int)(p:Bool)(g:Iv×Iv)(l:Y15)(C:dW)(x:LV)(i:(Int×Int) ×Bool):Iv×Bool:=joQ ((((Q3 a b p g l C x).1).1,((Q3 a b p g l C x).1).2),(Q3 a b p g l C x).2) i
def Ki(a:Int)(b:Int)(p:Bool)(g:Iv×Iv)(l:Y15)(C:dW)(x:LV)(j:Iv)(i:(Int×Int) ×Bool):IV:=IV.agg [.int .i64 (((Q0 a b p g l C x i).1).1),iI (((Q0 a b p g l C x i).1).2),IV.bool ((Q0 a b p g l C x i).2)]
def Q2(a:Int)(b:Int)(p:Bool)(g:Iv×Iv)(l:Y15)(C:dW)(x:LV):IV:=Ki a b p g l C x g.2 ((g.2.1,g.2.2),!gU (uG l (unV (fI l) C)) (LV.n x))
theorem f3E(l:Y15)(x:LV)(i:Nat)(a b:Int)(p:Bool)(C:dW)(r:Int)(X e2 e3:Nat)(h:Heap)(Q:KT):dF (aU b6M) env 66 cC bD (mJ 13 (rs1 l x i a b p C r)) [.vslice none X (l).length 3 ((l).flatMap cN),.int .i64 x.v,.agg [.int .i64 a,.int .i64 b,.bool p],.vslice none e2 (fI l).length 1 ((fI l).map (IV.int .i64)),.vslice none e3 C.length 3 (C.flatMap cL),.int .i64 r] h Q=(
 aF (aQ [IV.vslice none 0 l.length 3 (List.flatMap cN l),iI (LV.v x),IV.agg (d3O a b p),IV.vslice none 0 ((fI l).length) 1 (List.map b3X (fI l)),IV.vslice none 0 C.length 3 (List.flatMap cL C),iI r]) (∃(y:Y15)(vs:Y12)(A:List (Int×Iv)),(l.length=y.length/\List.flatMap cN l=List.flatMap cN y/\List.length (fI l)=vs.length/\List.map b3X (fI l)=List.map b3X vs/\C.length=A.length/\List.flatMap cL C=List.flatMap cL A)/\(Q1 y)/\(vs.length<=100000/\A.length<=1099511627776)/\∃(j:Y15)(m:List (Int×Iv)),(l.length=j.length/\List.flatMap cN l=List.flatMap cN j/\C.length=m.length/\List.flatMap cL C=List.flatMap cL m)/\(Q1 j)/\((∀(pa:Int×Iv),pa∈m->cF pa.2)/\m.length<=1099511627776)/\∃(D:Y15),(l.length=D.length/\List.flatMap cN l=List.flatMap cN D)/\(Q1 D)/\aF (decide (0<=T6 D (d3N x)) &&decide (T6 D (d3N x)< (l.length:Int))) (bM 1 (List.flatMap cN l) ((T6 D (d3N x)).toNat*3+2) λi0 X G V=>aF (decide (0<=wW (d3M x G)) &&decide (wW (d3M x G)< (G:Int))) (aN .i64 V ((wW (d3M x G)).toNat*1) λK=>aF (e6L x G) (aN .i64 V ((Int.tmod (LV.v x) 16).toNat*1) λn5=>aF (tL n5 j) (aN .i64 (List.flatMap cR (rG j (kSI m))) (n5.toNat*2) λn6=>aN .i64 (List.flatMap cR (rG j (kSI m))) (n5.toNat*2+1) λn7=>aF (e6L x G) (aN .i64 V ((Int.tmod (LV.v x) 16).toNat*1) λn8=>aF (tL n8 y) (kQ (List.map IV.bool (uG y (unV vs A))) (n8.toNat*1) λb9=>aF (tL K j) (aN .i64 (List.flatMap cR (rG j (kSI m))) (K.toNat*2) λO=>aN .i64 (List.flatMap cR (rG j (kSI m))) (K.toNat*2+1) λT=>aF (tL K y) (kQ (List.map IV.bool (uG y (unV vs A))) (K.toNat*1) λL=>aK (decide (r>3)) (aK p (P9 l r y vs A C j m i0 X G V i K x a b p b9 L (wlo a (min a n6)) (whi b (max b n7)) (wlo a (min a O)) (whi b (max b T))) (P9 l r y vs A C j m i0 X G V i K x a b p b9 L n6 n7 O T)) (P9 l r y vs A C j m i0 X G V i K x a b p b9 L n6 n7 O T)/\∀(z:Iv×Iv)(a0:FF),z.1=Tf ((a,b),p) r (gR (rG l (kSI C)) (LV.f x))/\z.2=Tf ((a,b),p) r (gR (rG l (kSI C)) (LV.n x))->aK (decide (r<=12)) (aK (!gU (uG l (unV (fI l) C)) (LV.n x)) (Kj l i (λY=>aF (tL Y l) (kQ (List.map IV.bool (uG l (unV (fI l) C))) (Y.toNat*1) λZ=>aK (!Z) (Kj l i (λu=> ∃(g:Y15)(R:List Iv),(l.length=g.length/\List.flatMap cN l=List.flatMap cN g/\l.length=R.length/\List.flatMap cR (rG l (kSI C))=List.flatMap cR R)/\((∀(n:Nd),n∈g->aZ (Nd.im n)/\List.length (Nd.ks n)<=41)/\g.length<=100000/\R.length=g.length/\(∀(ra:Iv),ra∈R->cF ra)/\(0<=u/\u< (g.length:Int))/\(Nd.op (List.getD g u.toNat default)=17\/Nd.op (List.getD g u.toNat default)=18\/Nd.op (List.getD g u.toNat default)=(19:Int)->List.length (qH g u.toNat)=2/\∀(k:Int),k∈Nd.ks (List.getD g u.toNat default)->0<=k/\k< (g.length:Int)))/\Q (Ki a b p z l C x ((c6Q x z u g R).1) ((((c6Q x z u g R).1).1,((c6Q x z u g R).1).2),(c6Q x z u g R).2)) h)) (Q (Q2 a b p z l C x) h)))) (Q (Q2 a b p z l C x) h)) (Q (Q2 a b p z l C x) h))))))))))):=by kernel_rfl
theorem f0M: ∀xs h Q,b9H xs h Q->aM env 66 xs h Q:=by
 intro xs h Q hk;unfold b9H at hk;split at hk
 .rename_i Z n1 V v a b p e2 n2 X e3 n3 c3 r;obtain⟨l,x,i,C,⟨rfl,rfl,rfl,rfl,rfl,rfl,rfl⟩,hl,hx,hC,hk⟩:=hk;refine aL (c2G) (f3E l x i a b p C r Z e2 e3 h Q) ?_;delta d3O b3X Q1 d3N d3M e6L tL e6N qH c6R e6M P9 Kj Q3 Q0 Ki c6Q Q2 tI wW iI; (try dsimp -iota -proj only);have tn: ∀x:Nat,(x:Int).toNat=x:=AK
  obtain⟨hn,a9⟩:=hl;obtain⟨j,g⟩:=hx;have hL:=gJ g.s;have L:=hL.lt;have a8:=hL.im;have b0:=hL.odd;have hj:=g.jj;obtain⟨⟨D,f1⟩,⟨T,n1⟩,⟨Y,d1,ds⟩⟩:=g.lvs;have a3:l.getD i default=l[i]:=bO L;have ev:x.v=16*(l.getD i default).im+(j:Int):=by rw [g.e];rfl
  have ef:x.f=(l.getD i default).ks.getD j 0:=by rw [g.e];rfl
  have en:x.n=(l.getD i default).ks.getD ((l.getD i default).ks.length/2+1+j) 0:=by
   rw [g.e];show(l.getD i default).ks.getD (((l.getD i default).ks.length-1)/2+1+j) 0=_;rw [show((l.getD i default).ks.length-1)/2=(l.getD i default).ks.length/2 by omega]
  have ed:x.d=(l.getD i default).ks.getD ((l.getD i default).ks.length/2) 0:=by
   rw [g.e];show(l.getD i default).ks.getD (((l.getD i default).ks.length-1)/2) 0=_;rw [show((l.getD i default).ks.length-1)/2=(l.getD i default).ks.length/2 by omega]
  have a0:T6 l (IntKind.i64.wrap (Int.tdiv x.v 16))=(i:Int):=by
   have Z:Int.tdiv x.v 16=(l.getD i default).im:=by
    rw [BQ JZ];omega
   rw [Z,AA _ JZ];exact Sh g.s g.n
  have a1:Int.tmod x.v 16=(j:Int):=by
   rw [CH JZ];omega
  have a6:(fI l).length<=100000:=by
   have:=H6 l;unfold fI
   rw [AX];omega
  have A:(∀n∈l,aZ n.im/\n.ks.length<=41)/\l.length<=100000:=⟨hn,JZ⟩;have K: ∀n∈l,aZ n.im:=λn h=>(hn n h).1
  have a2:=Ag K (W3 hC.1);have G:=rS l (kSI C);have a7:=a4Q l (unV (fI l) C);refine aA (by simp only [aQ,aY,bX,eY,bL,AN]) ⟨l,fI l,C,⟨rfl,rfl,rfl,rfl,rfl,rfl⟩,A,⟨a6,hC.2⟩,l,C,⟨rfl,rfl,rfl,rfl⟩,A,hC,l,⟨rfl,rfl⟩,A,?_⟩;rw [a0,a1,tn];generalize hks:(l.getD i default).ks=ks at*
  generalize hun:unV (fI l) C=un at*
  have t2:Int.tdiv (ks.length:Int) 2=((ks.length/2:Nat):Int):=by
   rw [BQ JZ];omega
  have hw: ∀z:Nat,z<=1000->IntKind.i64.wrap (z:Int)=(z:Int):=λz h=>AA _ JZ
  have kd:(ks.map (IV.int .i64))[ks.length/2]?=some (.int .i64 x.d):=by rw [ed];exact kAt JZ
  refine aP ⟨JZ,JZ⟩ (lP (i:=none) (a:=0) (n:=ks.length) (c:=ks.map (IV.int .i64)) (by rw [pD L KA,<-a3,<-hks];rfl) ?_);rw [t2,hw _ JZ,show((ks.length/2:Nat):Int)+1=((ks.length/2+1:Nat):Int)from rfl,hw _ JZ,show((ks.length/2+1:Nat):Int)+(j:Int)=((ks.length/2+1+j:Nat):Int)from rfl,hw _ JZ];simp only [tn,AM];refine aP ⟨JZ,JZ⟩ (aR (n:=x.n) (by rw [en];exact kAt JZ) (aP ⟨JZ,JZ⟩ (aR (n:=x.f) (by rw [ef];exact kAt JZ) ?_)));refine aP ⟨D,f1⟩ (aR (rAt (R:=rG l (kSI C)) D JZ).1 (aR (rAt (R:=rG l (kSI C)) D JZ).2 (aP ⟨JZ,JZ⟩ (aR (n:=x.f) (by rw [ef];exact kAt JZ) (aP ⟨D,f1⟩ (kS (uAt (U:=uG l un) D JZ) (aP ⟨T,n1⟩ (aR (rAt (R:=rG l (kSI C)) T JZ).1 (aR (rAt (R:=rG l (kSI C)) T JZ).2 (aP ⟨T,n1⟩ (kS (uAt (U:=uG l un) T JZ) ⟨?_,?_⟩)))))))))))
  .refine cV (λc=>aB (λO=>⟨((wlo a (min a (gR (rG l (kSI C)) x.f).1),whi b (max b (gR (rG l (kSI C)) x.f).2)),(wlo a (min a (gR (rG l (kSI C)) x.n).1),whi b (max b (gR (rG l (kSI C)) x.n).2))),KD,KD,KD,KD,KD,KD,KD,KD,KD,KD,KD,KD,KD,KD,KD,KD,⟨by unfold Tf;rw [if_pos ⟨JZ,O⟩],by unfold Tf;rw [if_pos ⟨JZ,O⟩]⟩,KD⟩) (λO=>⟨((gR (rG l (kSI C)) x.f),(gR (rG l (kSI C)) x.n)),KD,KD,KD,KD,KD,KD,KD,KD,KD,KD,KD,KD,KD,KD,KD,KD,⟨by unfold Tf;rw [if_neg (λz=>by rw [O]at z;cases z.2)],by unfold Tf;rw [if_neg (λz=>by rw [O]at z;cases z.2)]⟩,KD⟩)) (λc=>⟨((gR (rG l (kSI C)) x.f),(gR (rG l (kSI C)) x.n)),KD,KD,KD,KD,KD,KD,KD,KD,KD,KD,KD,KD,KD,KD,KD,KD,⟨by unfold Tf;rw [if_neg (λz=>c z.1)],by unfold Tf;rw [if_neg (λz=>c z.1)]⟩,KD⟩)
  rintro⟨P,q⟩ _ ⟨h1,h2⟩;dsimp only at h1 h2⊢;unfold stQ at hk;rw [<-h1,<-h2]at hk;refine cV (λc=>aB (λV=>?_) (λV=>?_)) (λc=>?_)
  .have m:gU (uG l un) x.n=false:=by simpa using V
   refine aP ⟨JZ,JZ⟩ (aR (n:=x.d) kd (aP ⟨Y,d1⟩ (kS (uAt (U:=uG l un) Y JZ) (aB (λX=>?_) (λX=>?_)))))
   .have u:gU (uG l un) x.d=false:=by simpa using X
    rw [if_pos ⟨c,m,u⟩]at hk;refine aP ⟨JZ,JZ⟩ (aR (n:=x.d) kd ⟨l,rG l (kSI C),⟨rfl,rfl,G.symm,rfl⟩,⟨hn,JZ,G,λy hy=>?_,⟨Y,d1⟩,λo=>?_⟩,hk⟩)
    .obtain⟨q2,a5,rfl⟩:=DK.1 hy;have:=(a2 q2 JZ).2;rw [bO a5]at this;exact this
    .obtain⟨z1,z2⟩:=mY (by omega:x.d.toNat<l.length) ds;have hD:l.getD x.d.toNat default=l[x.d.toNat]'JZ:=bO JZ;rw [hD]at o⊢;rcases z2 with⟨b1,_⟩| ⟨_,_,_,ha,_⟩
     .omega
     .unfold ar at ha;rw [if_neg JZ,if_neg JZ,if_pos JZ]at ha;exact⟨JZ,λk a4=>by have:=z1 k a4;omega⟩
   .have u:gU (uG l un) x.d=true:=by simpa using X
    rw [if_neg (λz=>by rw [u]at z;cases z.2.2)]at hk;exact hk
  .have m:gU (uG l un) x.n=true:=by simpa using V
   rw [if_neg (λz=>by rw [m]at z;cases z.2.1)]at hk;exact hk
  .rw [if_neg (λz=>c z.1)]at hk;exact hk
 .exact hk.elim
def b6I:=aV 66 b9H b6M
theorem c2C:aS env b6I:=aE f0M (c2G)
def rB(l:Y15)(n i:Nat):Nat:=(13+3*(aI l).length-n)*2000000+((aI l).length-i)
def rv1(l:Y15):Inv':=dL RvX (λx=>[(3,.v (.vslice none 0 (l).length 3 ((l).flatMap cN))),(4,.v (.vslice none 0 (aD l).length 1 ((aD l).map (IV.int .i64)))),(5,.v x.ov),(6,.v (.int .i64 (x.i:Int)))]) (λ_=>[]) (λx=>x.g) (λx=>x.i<=l.length/\OvL x.g x.ov (vsP l x.i)) (λx=>100*(l.length-x.i))
def rv2(l:Y15):Inv':=dL RvX (λx=>[(3,.v (.vslice none 0 (l).length 3 ((l).flatMap cN))),(4,.v (.vslice none 0 (aD l).length 1 ((aD l).map (IV.int .i64)))),(5,.v x.ov),(6,.v (.int .i64 (x.i:Int))),(7,.v (.int .i64 (x.m:Int)))]) (λ_=>[]) (λx=>x.g)
 (λx=>(x.i<l.length/\(aD l).getD x.i 0=3/\vK l x.i (l.getD x.i default).im=false/\1<=x.m/\x.m<=(l.getD x.i default).ks.length/2)/\OvL x.g x.ov (vsP l x.i++(C9 (l.getD x.i default) x.m).map λy=>y.v)) (λx=>100*(l.length-x.i)-x.m)
def OvF(l:Y15)(g:IV):Prop:=(g= .nilslice/\aI l=[]) \/ (aI l≠[]/\∃t,g= .vslice (some t) ((fI l).length*1) (fI l).length 1 ((fI l).map (IV.int .i64)))
def CvS(g:Heap)(i:IV)(C:dW):Prop:=(i= .nilslice/\C=[]) \/ ∃id,i= .hslice id 0 C.length 3/\g.get id= .cells (C.flatMap cL)/\id<g.next
def rv3(l:Y15):Inv':=dL RvX (λx=>[(3,.v (.vslice none 0 (l).length 3 ((l).flatMap cN))),(5,.v x.ov),(8,.v x.cv),(9,.v (.int .i64 ((x.n+1:Nat):Int)))]) (λ_=>[]) (λx=>x.g) (λx=>RvC l x.n 0 x.C/\OvF l x.ov/\CvS x.g x.cv x.C) (λx=>(13+3*(aI l).length-x.n)*2000000)
def rv4(l:Y15):Inv':= .or (dL RvX (λx=>[(3,.v (.vslice none 0 (l).length 3 ((l).flatMap cN))),(5,.v .nilslice),(8,.v x.cv),(9,.v (.int .i64 ((x.n+1:Nat):Int))),(10,.v (.bool false)),(11,.v (.int .i64 0))]) (λ_=>[]) (λx=>x.g) (λx=>RvC l x.n 0 x.C/\aI l=[]/\CvS x.g x.cv x.C) (λx=>rB l x.n 0))
 (.or (dL RvX (λx=>[(3,.v (.vslice none 0 (l).length 3 ((l).flatMap cN))),(5,.v (.vslice (some x.t) ((fI l).length*1) (fI l).length 1 ((fI l).map (IV.int .i64)))),(8,.v .nilslice),(9,.v (.int .i64 ((x.n+1:Nat):Int))),(10,.v (.bool (mG l x.n x.i).2)),(11,.v (.int .i64 (x.i:Int)))]) (λ_=>[]) (λx=>x.g) (λx=>RvC l x.n x.i []/\aI l≠[]) (λx=>rB l x.n x.i))
 (dL RvX (λx=>[(3,.v (.vslice none 0 (l).length 3 ((l).flatMap cN))),(5,.v (.vslice (some x.t) ((fI l).length*1) (fI l).length 1 ((fI l).map (IV.int .i64)))),(8,.v (.hslice x.id 0 x.C.length 3)),(9,.v (.int .i64 ((x.n+1:Nat):Int))),(10,.v (.bool (mG l x.n x.i).2)),(11,.v (.int .i64 (x.i:Int)))]) (λ_=>[]) (λx=>x.g) (λx=>RvC l x.n x.i x.C/\aI l≠[]/\x.g.get x.id= .cells (x.C.flatMap cL)/\x.id<x.g.next) (λx=>rB l x.n x.i)))
def rv5(l:Y15):Inv':=dL RvX (λx=>[(3,.v (.vslice none 0 (l).length 3 ((l).flatMap cN))),(5,.v (.vslice (some x.t) ((fI l).length*1) (fI l).length 1 ((fI l).map (IV.int .i64)))),(8,.v (.hslice x.id 0 x.C.length 3)),(9,.v (.int .i64 ((x.n+1:Nat):Int))),(10,.v (.bool true)),(11,.v (.int .i64 (x.i:Int))),(14,.l 14 0),(15,.v (.int .i64 (x.m:Int)))]) (λx=>[(14,[.int .i64 x.y.1,.int .i64 x.y.2,.bool true])]) (λx=>x.g) (λx=>((∃C,RvM l x C)/\aI l≠[])/\x.g.get x.id= .cells (x.C.flatMap cL)/\x.id<x.g.next) (λx=>1000000*rB l x.n x.i+(x.C.length-x.m))
def rv8(l:Y15):Inv':=dL RvX (λx=>[(3,.v (.vslice none 0 (l).length 3 ((l).flatMap cN))),(5,.v (.vslice (some x.t) ((fI l).length*1) (fI l).length 1 ((fI l).map (IV.int .i64)))),(8,.v (.hslice x.id 0 x.C.length 3)),(9,.v (.int .i64 ((x.n+1:Nat):Int))),(10,.v (.bool true)),(11,.v (.int .i64 (x.i:Int))),(14,.l 14 0)]) (λx=>[(14,[.int .i64 x.y.1,.int .i64 x.y.2,.bool true])]) (λx=>x.g) (λx=>(x.m=0/\(∃C,RvM l x C)/\aI l≠[])/\x.g.get x.id= .cells (x.C.flatMap cL)/\x.id<x.g.next) (λx=>rB l x.n x.i)
def rv7(l:Y15):Inv':=dL RvX (λx=>[(5,.v x.ov),(8,.v x.cv)]) (λ_=>[]) (λx=>x.g) (λx=>RvC l x.n (aI l).length x.C/\(eT l (aI l) (x.n+1)).2=false/\OvF l x.ov/\CvS x.g x.cv x.C) (λ_=>0)
def rv6(l:Y15):Inv':= .or (dL RvX (λx=>[(5,.v .nilslice),(8,.v x.cv),(16,.v .nilslice),(17,.v (.int .i64 0))]) (λ_=>[]) (λx=>x.g) (λx=>aI l=[]/\RvC l x.n (aI l).length x.C/\(eT l (aI l) (x.n+1)).2=false) (λ_=>0))
 (.or (dL RvX (λx=>[(5,.v (.vslice (some x.t) ((fI l).length*1) (fI l).length 1 ((fI l).map (IV.int .i64)))),(8,.v .nilslice),(16,.v .nilslice),(17,.v (.int .i64 (x.i:Int)))]) (λ_=>[]) (λx=>x.g) (λx=>RvC l x.n (aI l).length []/\(eT l (aI l) (x.n+1)).2=false/\x.i<=(aI l).length) (λx=>(aI l).length-x.i))
 (dL RvX (λx=>[(5,.v (.vslice (some x.t) ((fI l).length*1) (fI l).length 1 ((fI l).map (IV.int .i64)))),(8,.v (.hslice x.id 0 x.C.length 3)),(16,.v x.ov),(17,.v (.int .i64 (x.i:Int)))]) (λ_=>[]) (λx=>x.g) (λx=>RvC l x.n (aI l).length x.C/\(eT l (aI l) (x.n+1)).2=false/\x.i<=(aI l).length/\(x.g.get x.id= .cells (x.C.flatMap cL)/\x.id<x.g.next)/\OvC cL 3 (x.id+1) x.g x.ov (mW ((aI l).take x.i) (eT l (aI l) (x.n+1)).1)) (λx=>(aI l).length-x.i)))
def Rn(xs:Y14)(h:Heap)(K:KT):Prop:=match xs with
 | [.agg [g0,g1,.vslice none e0 n 3 c,g3,g4]]=> ∃l:Y15,(n=l.length/\c=l.flatMap cN)/\(aY g0=true/\aY g1=true/\aY g3=true/\aY g4=true)/\((∀n∈l,aZ n.im/\n.ks.length<=41)/\l.length<=6000)/\∀N,(∀m,m<N->(eT l (aI l) m).2=true)->(eT l (aI l) N).2=false->K (.vslice none 0 (mW (aI l) (eT l (aI l) N).1).length 3 ((mW (aI l) (eT l (aI l) N).1).flatMap cL)) h
 |_=>False
def Tw:=IV.int .i64
def Mg(l:Y15):=(aI l).length
def e5P(g:RvX):=iI (wW (((RvX.m g):Int)+1))
def b3Q:=TV.v IV.nilslice
def e5Q(g:RvX):=(0:Nat)+((RvX.m g):Int).toNat*3+1+2
def d2U:=iI 0
def e5R:=IV.vslice none 0 0 3 []
def a5R(l:Y15):=(fI l).length
def qK(g:Int)(i:Int):Bool:=decide (0<=g) &&decide (g<i)
def e5S(g:RvX):=qK ((RvX.m g):Int) (↑((RvX.C g).length):Int)
def fA(g:IV)(i:IV)(j:Prop):Prop:=some (TV.v g)=some (TV.v i)/\j
def dQ(g:IV)(i:IV)(j:Prop):Prop:=fA g i j
def tN(l:Y15):IV:=IV.vslice none 0 l.length 3 (List.flatMap cN l)
def yF(l:Y15)(g:Y15)(m:IV)(j:RvX)(r:Int)(u:Prop):Prop:=dQ (tN l) (tN l) (fA (IV.vslice none 0 ((aD g).length) 1 (List.map Tw (aD g))) (IV.vslice none 0 ((aD l).length) 1 (List.map Tw (aD l))) (some (TV.v m)=some (TV.v (RvX.ov j))/\tI r=tI ((RvX.i j):Int)/\u))
def mE(g:RvX)(j:Y12)(m:Int->Prop):Prop:=aF (qK ((RvX.i g):Int) (j.length:Int)) (aN .i64 (List.map Tw j) (((RvX.i g):Int).toNat*1) λl=>m l)
def R6(l:Y15)(g:RvX):Prop:=RvX.i g<l.length/\List.getD (aD l) (RvX.i g) 0=3/\vK l (RvX.i g) (Nd.im (List.getD l (RvX.i g) default))=false/\1<=RvX.m g/\RvX.m g<=List.length (Nd.ks (List.getD l (RvX.i g) default))/ (2:Nat)
def zV(l:Y15)(g:RvX):Y12:=vsP l (RvX.i g)++List.map (λj=>LV.v j) (C9 (List.getD l (RvX.i g) default) (RvX.m g))
def R5(l:Y15)(r:RvX)(m:RvX):Prop:= ∃(j:RvX),yF l l (RvX.ov m) j (wW (((RvX.i m):Int)+1)) (RvX.g m=RvX.g j/\(RvX.i j<=l.length/\OvL (RvX.g j) (RvX.ov j) (vsP l (RvX.i j)))/\(100:Nat)*(l.length-RvX.i j)<100*(l.length-RvX.i r))
def qI(l:Y15)(j:IV)(m:RvX->IV)(r:IV)(u:RvX->IV)(y:Int)(i:RvX->Prop):Prop:= ∃(g:RvX),dQ (tN l) (tN l) (fA j (m g) (some (TV.v r)=some (TV.v (u g))/\tI y=tI (↑(RvX.n g+1):Int)/\i g))
def Y8(i:RvX):Prop:=(RvX.cv i=IV.nilslice/\RvX.C i=[] \/ ∃(j:Nat),RvX.cv i=IV.hslice j 0 ((RvX.C i).length) 3/\Heap.get (RvX.g i) j=IObj.cells (List.flatMap cL (RvX.C i))/\j< (RvX.g i).next)
def yG(l:Y15)(g:RvX):Prop:=(RvX.ov g=IV.nilslice/\aI l=[] \/aI l≠[]/\∃(i:Nat),RvX.ov g=IV.vslice (some i) ((fI l).length*1) (a5R l) 1 (List.map Tw (fI l)))/\Y8 g
def fV(l:Y15)(g:RvX):IV:=IV.vslice (some (RvX.t g)) ((fI l).length*1) (a5R l) 1 (List.map Tw (fI l))
def jH(g:RvX):IV:=IV.hslice (RvX.id g) 0 ((RvX.C g).length) 3
def oD(i:RvX):Prop:=(RvX.g i).get (RvX.id i)=IObj.cells (List.flatMap cL (RvX.C i))/\RvX.id i< (RvX.g i).next
def R0(l:Y15)(y:IV)(z:IV)(u:RvX)(A:Bool)(D:Int)(G:RvX->Prop)(K:RvX->Prop)(L:RvX->Prop):Prop:=(qI l y (λr=>IV.nilslice) z (λr=>(RvX.cv r)) (↑(RvX.n u+1):Int) (λr=>dQ (IV.bool A) (IV.bool false) (fA (iI D) d2U (RvX.g u=RvX.g r/\(RvC l (RvX.n r) 0 (RvX.C r)/\aI l=[]/\Y8 r)/\G r)))) \/
 (qI l y (λm=>(fV l m)) z (λm=>IV.nilslice) (↑(RvX.n u+1):Int) (λm=>dQ (IV.bool A) (IV.bool ((mG l (RvX.n m) (RvX.i m)).2)) (fA (iI D) (iI ((RvX.i m):Int)) (RvX.g u=RvX.g m/\(RvC l (RvX.n m) (RvX.i m)
 []/\aI l≠[])/\K m)))) \/qI l y (λj=>(fV l j)) z (λj=>(jH j)) (↑(RvX.n u+1):Int) (λj=>dQ (IV.bool A) (IV.bool ((mG l (RvX.n j) (RvX.i j)).2)) (fA (iI D) (iI ((RvX.i j):Int)) (RvX.g u=RvX.g
 j/\(RvC l (RvX.n j) (RvX.i j) (RvX.C j)/\aI l≠[]/\oD j)/\L j)))
def eZ(l:Y15)(g:RvX):(Int->Option Iv) ×Bool:=eT l (aI l) (RvX.n g+1)
def Kt(l:Y15)(m:RvX)(M:Nat)(G:RvX)(D:Int->Prop)(u:IV):Prop:=rB l (RvX.n m) (RvX.i m)<=M->aK (decide (((RvX.i m):Int)< ((a5R l):Int))) (mE m (fI l) (λy=>D y)) (aK (!Prod.snd (mG l (RvX.n m) (RvX.i m))) (∃(j:RvX),dQ (fV l m) (RvX.ov j) (fA u (RvX.cv j) (RvX.g m=RvX.g
 j/\(RvC l (RvX.n j) (Mg l) (RvX.C j)/\Prod.snd (eZ l j)=false/\yG l j)/\True))) (qI l (fV l m) (λz=>(RvX.ov z)) u (λA=>(RvX.cv A)) (wW ((↑(RvX.n m+1):Int)+1)) (λr=>RvX.g m=RvX.g r/\(RvC l (RvX.n
 r) 0 (RvX.C r)/\yG l r)/\((13:Nat)+3*(aI l).length-RvX.n r)*2000000< ((13:Nat)+3*(aI l).length-RvX.n G)*2000000)))
def fG(j:Y15)(m:LV)(C:List (Int×Iv))(i:List (Int×Iv))(l:RvX)(g:Int):Iv×Bool:=stQ j m ((((iQ C g).1).1,((iQ C g).1).2),(iQ C g).2) (unV (fI j) i) (kSI i) (↑(RvX.n l+1):Int)
def Ku(l:Y15)(g:RvX)(u:IV):Prop:=R0 l (fV l g) u g ((mG l (RvX.n g) (RvX.i g)).2) (wW (((RvX.i g):Int)+1)) (λr=>rB l (RvX.n r) 0<rB l (RvX.n g) (RvX.i g)) (λj=>rB l (RvX.n j) (RvX.i j)<rB l (RvX.n g) (RvX.i g)) (λm=>rB l (RvX.n m) (RvX.i
 m)<rB l (RvX.n g) (RvX.i g))
def tO(l:Y15)(j:RvX)(m:IV)(r:RvX->Prop):Prop:=qI l (fV l j) (λg=>(fV l g)) m (λg=>(jH g)) (↑(RvX.n j+1):Int) (λg=>dQ (IV.bool true) (IV.bool true) (fA (iI ((RvX.i j):Int)) (iI ((RvX.i g):Int)) (some (TV.l 14 0)=some (TV.l 14 0)/\r g)))
def tP(g:Iv)(j:Bool)(i:RvX)(l:Prop):Prop:=some [iI g.1,iI g.2,IV.bool j]=some [iI ((RvX.y i).1),iI ((RvX.y i).2),IV.bool true]/\l
def qJ(l:Y15)(i:RvX):Prop:=(∃(g:List (Int×Iv)),RvM l i g)/\aI l≠[]
def Z0(l:Y15)(j:RvX)(g:RvX):Prop:=((qJ l g)/\oD g)/\(1000000:Nat)*rB l (RvX.n g) (RvX.i g)+((RvX.C g).length-RvX.m g)<1000000*rB l (RvX.n j) (RvX.i j)+((RvX.C j).length-RvX.m j)
def Kq(C:List (Int×Iv))(z:RvX)(l:Y15)(T:Y15)(xb:LV)(R:List (Int×Iv))(M:Nat)(O:Int)(a2:Int->Prop)(a3:IV):Prop:=aK (!Prod.snd (iQ C O)) (mE z (fI l) (λa1=>a2 a1)) (tO l z a3 (λA=>tP ((fG T xb C R z O).1) ((fG T xb C R z O).2) A (RvX.g z=RvX.g A/\((RvX.m A=0/\qJ l A)/\oD A)/\rB l (RvX.n A) (RvX.i
 A)<=M)))/\∀(u:RvX)(a5:FF),(RvX.m u=0/\qJ l u)/\Heap.get (RvX.g u) (RvX.id u)=IObj.cells (List.flatMap cL (RvX.C u))/\RvX.id u< (RvX.g u).next->rB l (RvX.n u) (RvX.i u)<=M-> ∃(a0:Nat),(tO l u (jH u) (λr=>dQ d2U
 (iI ((RvX.m r):Int)) (tP (RvX.y u) true r (RvX.g u=RvX.g r/\((qJ l r)/\oD r)/\(1000000:Nat)*rB l (RvX.n r) (RvX.i r)+((RvX.C r).length-RvX.m r)<=a0))))/\∀(j:RvX)(a4:FF),(qJ l j)/\Heap.get (RvX.g j) (RvX.id
 j)=IObj.cells (List.flatMap cL (RvX.C j))/\RvX.id j< (RvX.g j).next->(1000000:Nat)*rB l (RvX.n j) (RvX.i j)+((RvX.C j).length-RvX.m j)<=a0->aK (decide (((RvX.m j):Int)< (↑((RvX.C j).length):Int))) (aF (e5S j) (aT (RvX.g j)
 (RvX.id j) λV=>aN .i64 V ((0:Nat)+((RvX.m j):Int).toNat*3+0) λX=>mE j (fI l) (λY=>aK (X==Y) (aF (e5S j) (aT (RvX.g j) (RvX.id j) λG=>aF (Nat.ble (e5Q j) G.length) (tO l j (jH j) (fun
 zb19=>dQ (e5P j) (iI ((RvX.m zb19):Int)) (tP (RvX.y j) true zb19 ((RvX.g j).set (RvX.id j) (IObj.cells (List.take ((0:Nat)+((RvX.m j):Int).toNat*3+1) G++ [iI ((RvX.y j).1),iI ((RvX.y j).2)]++List.drop (e5Q j) G))=
 RvX.g zb19/\Z0 l j zb19)))))) (tO l j (jH j) (λD=>dQ (e5P j) (iI ((RvX.m D):Int)) (tP (RvX.y j) true D (RvX.g j=RvX.g D/\Z0 l j D))))))) (R0 l (fV l j) (jH j) j true (wW ((↑(RvX.i j):
 Int)+1)) (λZ=>rB l (RvX.n Z) 0<rB l (RvX.n z) (RvX.i z)) (λK=>rB l (RvX.n K) (RvX.i K)<rB l (RvX.n z) (RvX.i z)) (λL=>rB l (RvX.n L) (RvX.i L)<rB l (RvX.n z) (RvX.i z)))
def Ks(l:Y15)(j:Y15)(G:LV)(i:Nat)(m:List (Int×Iv))(C:List (Int×Iv))(r:RvX)(R:Int)(T:Prop)(g:Int)(u:IV)(V:Int->Nat->Prop)(X:Nat->Int->Prop):Prop:=(l.length=j.length/\List.flatMap cN l=List.flatMap cN j/\R=LV.v G/\List.length (fI l)=(fI j).length/\List.map Tw (fI l)=List.map Tw (fI j)/\T)/\((∀(y:Nd),y∈j->aZ (Nd.im y)/\List.length (Nd.ks y)<=41)/\j.length<=6000)/\(∃ (K:
 Nat),LvAt j G i K)/\((∀(z:Int×Iv),z∈m->cF z.2)/\m.length<=1099511627776)/\aK (!Prod.snd (fG j G C m r g)) (Ku l r u) (aK ((iQ C g).2) (aK (((fG j G C m r g).1).1==((iQ C g).1).1
 && (((fG j G C m r g).1).2==((iQ C g).1).2&&true)) (Ku l r u) (∃(A:Nat),Kq C r l j G m A g (λL=>V L A) u)) (∃(D:Nat),Kq C r l j G m D g (λO=>X D O) u))
def R3(l:Y15)(u:RvX)(G:Y15)(K:LV)(C:List (Int×Iv))(D:List (Int×Iv))(M:Nat)(y:Nat)(r:Int)(z:Heap)(A:Y14):Prop:=tO l u (IV.hslice ((RvX.g u).next) 0 y 3) (λj=>tP ((fG G K C D u r).1) ((fG G K C D u r).2) j (z.push (IObj.cells A)=RvX.g j/\((RvX.m j=0/\qJ l j)/\oD j)/\rB l (RvX.n
 j) (RvX.i j)<=M))
def Y9(i:RvX)(m:List (Int×Iv)->Prop):=aT (RvX.g i) (RvX.id i) λl=>aF (true&&Nat.ble ((0:Nat)+(RvX.C i).length*3) l.length) (∃(j:List (Int×Iv)),((RvX.C i).length=j.length/\List.take ((RvX.C i).length*3) l=List.flatMap cL j)/\j.length<=1099511627776
 /\m j)
def Kv(i:RvX)(l:Y15)(r:Y15)(z:LV)(C:List (Int×Iv))(m:List (Int×Iv))(M:Nat)(u:Int)(y:Int):=aT (RvX.g i) (RvX.id i) λj=>aF (true&& (Nat.ble ((RvX.C i).length*3) j.length&&Nat.ble (((RvX.C i).length+1)*24) 140737488355328)) (R3 l i r z C m M ((RvX.C i).length+1) u ((RvX.g i).set (RvX.id i) IObj.dead) (List.take
 ((RvX.C i).length*3) j++ [iI y,iI (((fG r z C m i u).1).1),iI (((fG r z C m i u).1).2)]))
def R1(l:Y15)(m:IV)(r:IV)(u:IV)(y:Int)(A:RvX->Prop)(D:RvX->Prop)(G:RvX->Prop):Prop:=(∃(z:RvX),some (TV.v m)=some b3Q/\dQ r (RvX.cv z) (some (TV.v u)=some b3Q/\fA (iI y) d2U (A z))) \/ (∃(j:RvX),dQ m (fV l j) (some (TV.v r)=some b3Q/\some (TV.v u)=some b3Q/\fA (iI y) (iI ((RvX.i
 j):Int)) (D j))) \/ ∃(g:RvX),dQ m (fV l g) (fA r (jH g) (some (TV.v u)=some (TV.v (RvX.ov g))/\tI y=tI ((RvX.i g):Int)/\G g))
def zU(l:Y15)(g:RvX):Prop:=aI l=[]/\RvC l (RvX.n g) (Mg l) (RvX.C g)/\Prod.snd (eZ l g)=false
def R7(l:Y15)(g:RvX):Prop:=RvC l (RvX.n g) (Mg l) []/\Prod.snd (eZ l g)=false/\RvX.i g<=List.length (aI l)
def R4(l:Y15)(j:RvX):Prop:=RvC l (RvX.n j) (Mg l) (RvX.C j)/\Prod.snd (eZ l j)=false/\RvX.i j<=List.length (aI l)/\(oD j)/\OvC cL 3 (RvX.id j+1) (RvX.g j) (RvX.ov j) (mW (List.take (RvX.i j) (aI l)) ((eZ l j).1))
def Kr(C:List (Int×Iv))(j:RvX)(l:Y15)(A:Int)(K:IV)(L:IV):Prop:=aK ((iQ C A).2) (mE j (fI l) (λO=>dX (RvX.g j) 3 24 K 1 [iI O,iI (((iQ C A).1).1),iI (((iQ C A).1).2)] λR T V X m=>R1 l (fV l j) L (IV.vslice (some R) T V 3 X) (wW
 (((RvX.i j):Int)+1)) (λD=>m=RvX.g D/\(zU l D)/\0< (aI l).length-RvX.i j) (λr=>m=RvX.g r/\(R7 l r)/\List.length (aI l)-RvX.i r< (aI l).length-RvX.i j) (λu=>m=RvX.g u/\(R4 l u)/\List.length
 (aI l)-RvX.i u< (aI l).length-RvX.i j))) (R1 l (fV l j) L K (wW (((RvX.i j):Int)+1)) (λG=>RvX.g j=RvX.g G/\(zU l G)/\0< (aI l).length-RvX.i j) (λy=>RvX.g j=RvX.g y/\(R7 l y)/\List.length (aI l)
 -RvX.i y< (aI l).length-RvX.i j) (λz=>RvX.g j=RvX.g z/\(R4 l z)/\List.length (aI l)-RvX.i z< (aI l).length-RvX.i j))
theorem e4T(l:Y15)(g0 g1 g3 g4:IV)(e0:Nat)(h:Heap)(Q:KT):dF (aU b6I) env 27 cC (zE 6 (rv1 l) (zE 1000010 (rv2 l) (zE 16 (rv3 l) (zE 1000018 (rv4 l) (zE 1000027 (rv5 l) (mJ 34 (rv6 l))))))) (zE 1000026 (rv8 l) (mJ 32 (rv7 l))) [.agg [g0,g1,.vslice none e0 (l).length 3 ((l).flatMap cN),g3,g4]] h Q=(
 aF (aQ [IV.agg [g0,g1,IV.vslice none 0 l.length 3 (List.flatMap cN l),g3,g4]]) (∃(A:Y15),(l.length=A.length/\List.flatMap cN l=List.flatMap cN A)/\((∀(x:Nd),x∈A->List.length (Nd.ks x)<=1000000/\True)/\A.length<=(1000000:Nat))/\(∃(r:RvX),yF l A IV.nilslice r 0 (Heap.mk PT.nil 0=RvX.g r/\(RvX.i r<=l.length/\OvL (RvX.g r) (RvX.ov r) (vsP l (RvX.i r)))/\True))/\∀(r:RvX)(b:FF),RvX.i r<=l.length/\OvL (RvX.g r) (RvX.ov r) (vsP l (RvX.i r))->aK (decide (((RvX.i r):Int)< (l.length:Int))) (mE r (aD l) (λn0=>aK (n0==3) (aF (qK ((RvX.i r):Int) (l.length:Int)) (aN .i64 (List.flatMap cN l) (((RvX.i r):Int).toNat*3+1) λn1=> ∃(u:Y15),(l.length=u.length/\List.flatMap cN l=List.flatMap cN u)/\((∀(x:Nd),x∈u->aZ (Nd.im x)/\List.length (Nd.ks x)<=41)/\u.length<=100000)/\aK (T6 u n1==((RvX.i r):Int)) (∃(M:Nat),(∃(j:RvX),yF l l (RvX.ov r) j ((RvX.i r):Int) (dQ (iI 1) (iI ((RvX.m j):Int)) (RvX.g r=RvX.g j/\((R6 l j)/\OvL (RvX.g j) (RvX.ov j) (zV l j))/\(100:Nat)*(l.length-RvX.i j)-RvX.m j<=M)))/\∀(j:RvX)(b:FF),(R6 l j)/\OvL (RvX.g j) (RvX.ov j) (zV l j)->(100:Nat)*(l.length-RvX.i j)-RvX.m j<=M->aF (qK ((RvX.i j):Int) (l.length:Int)) (bM 1 (List.flatMap cN l) (((RvX.i j):Int).toNat*3+2) λi2 e3 l4 c5=>aK (decide (((RvX.m j):Int)<wW (Int.tdiv (l4:Int) 2))) (aF (qK ((RvX.i j):Int) (l.length:Int)) (aN .i64 (List.flatMap cN l) (((RvX.i j):Int).toNat*3+1) λn6=>dX (RvX.g j) 1 8 (RvX.ov j) 1 [iI (wW (wW ((16:Int)*n6)+((RvX.m j):Int)))] λi7 e8 l9 L O=> ∃(r:RvX),yF l l (IV.vslice (some i7) e8 l9 1 L) r ((RvX.i j):Int) (dQ (iI (wW (((RvX.m j):Int)+1))) (iI ((RvX.m r):Int)) (O=RvX.g r/\((R6 l r)/\OvL (RvX.g r) (RvX.ov r) (zV l r))/\(100:Nat)*(l.length-RvX.i r)-RvX.m r<100*(l.length-RvX.i j)-RvX.m j)))) (R5 l r j))) (R5 l r r))) (R5 l r r))) (((qI l (RvX.ov r) (λj=>(RvX.ov j)) IV.nilslice (λj=>(RvX.cv j)) 1 (λj=>RvX.g r=RvX.g j/\(RvC l (RvX.n j) 0 (RvX.C j)/\yG l j)/\True))/\∀(r:RvX)(b:FF),RvC l (RvX.n r) 0 (RvX.C r)/\OvF l (RvX.ov r)/\CvS (RvX.g r) (RvX.cv r) (RvX.C r)-> ∃(M:Nat),(R0 l (RvX.ov r) (RvX.cv r) r false 0 (λj=>rB l (RvX.n j) 0<=M) (λj=>rB l (RvX.n j) (RvX.i j)<=M) (λj=>rB l (RvX.n j) (RvX.i j)<=M))/\(∀(r:RvX)(b:FF),RvC l (RvX.n r) 0 (RvX.C r)/\aI l=[]/\CvS (RvX.g r) (RvX.cv r) (RvX.C r)->rB l (RvX.n r) 0<=M-> ∃(j:RvX),some b3Q=some (TV.v (RvX.ov j))/\dQ (RvX.cv r) (RvX.cv j) (RvX.g r=RvX.g j/\(RvC l (RvX.n j) (Mg l) (RvX.C j)/\Prod.snd (eZ l j)=false/\yG l j)/\True))/\(∀(j:RvX)(b:FF),RvC l (RvX.n j) (RvX.i j) []/\aI l≠[]->Kt l j M r (λz=> ∃(C:List (Int×Iv)),((0:Nat)=C.length/\[]=List.flatMap cL C)/\C.length<=1099511627776/\aF (qK ((RvX.i j):Int) ((a5R l):Int)) (aN .i64 (List.map Tw (fI l)) (((RvX.i j):Int).toNat*1) λR=> ∃(u:Y15)(D:LV)(i:Nat)(y:List (Int×Iv)),Ks l u D i y C j R ((0:Nat)=y.length/\[]=List.flatMap cL y) z IV.nilslice (λT M=>R3 l j u D C y M 1 z (RvX.g j) [iI T,iI (((fG u D C y j z).1).1),iI (((fG u D C y j z).1).2)]) (λM V=>R3 l j u D C y M 1 z (RvX.g j) [iI V,iI (((fG u D C y j z).1).1),iI (((fG u D C y j z).1).2)]))) IV.nilslice)/\∀(j:RvX)(b:FF),RvC l (RvX.n j) (RvX.i j) (RvX.C j)/\aI l≠[]/\Heap.get (RvX.g j) (RvX.id j)=IObj.cells (List.flatMap cL (RvX.C j))/\RvX.id j< (RvX.g j).next->Kt l j M r (λG=>Y9 j (λC=>mE j (fI l) (λX=>aT (RvX.g j) (RvX.id j) λK=>aF (true&&Nat.ble ((0:Nat)+(RvX.C j).length*3) K.length) (∃(u:Y15)(D:LV)(i:Nat)(y:List (Int×Iv)),Ks l u D i y C j X ((RvX.C j).length=y.length/\List.take ((RvX.C j).length*3) K=List.flatMap cL y) G (jH j) (λY M=>Kv j l u D C y M G Y) (λM Z=>Kv j l u D C y M G Z))))) (jH j))/\∀(r:RvX)(b:FF),RvC l (RvX.n r) (Mg l) (RvX.C r)/\Prod.snd (eZ l r)=false/\OvF l (RvX.ov r)/\CvS (RvX.g r) (RvX.cv r) (RvX.C r)->(R1 l (RvX.ov r) (RvX.cv r) IV.nilslice 0 (λj=>RvX.g r=RvX.g j/\(zU l j)/\True) (λj=>RvX.g r=RvX.g j/\(R7 l j)/\True) (λj=>RvX.g r=RvX.g j/\(R4 l j)/\True))/\(∀(r:RvX)(b:FF),aI l=[]/\RvC l (RvX.n r) (Mg l) (RvX.C r)/\Prod.snd (eZ l r)=false->Q e5R h)/\(∀(r:RvX)(b:FF),RvC l (RvX.n r) (Mg l) []/\Prod.snd (eZ l r)=false/\RvX.i r<=List.length (aI l)->aK (decide (((RvX.i r):Int)< ((a5R l):Int))) (mE r (fI l) (λa0=> ∃(C:List (Int×Iv)),((0:Nat)=C.length/\[]=List.flatMap cL C)/\C.length<=1099511627776/\Kr C r l a0 IV.nilslice IV.nilslice)) (Q e5R h))/\∀(r:RvX)(b:FF),RvC l (RvX.n r) (Mg l) (RvX.C r)/\Prod.snd (eZ l r)=false/\RvX.i r<=List.length (aI l)/\(oD r)/\OvC cL 3 (RvX.id r+1) (RvX.g r) (RvX.ov r) (mW (List.take (RvX.i r) (aI l)) ((eZ l r).1))->aK (decide (((RvX.i r):Int)< ((a5R l):Int))) (mE r (fI l) (λa1=>Y9 r (λC=>Kr C r l a1 (RvX.ov r) (jH r)))) (aF (aQ [mV Proofs.Tryz.prog 49 (RvX.ov r)]) (Q (eF [mV Proofs.Tryz.prog 49 (RvX.ov r)]) h))))):=by kernel_rfl
theorem c3R: ∀xs h Q,Rn xs h Q->aM env 27 xs h Q:=by
 intro xs h Q hk;unfold Rn at hk;split at hk
 .rename_i g0 g1 e0 n c g3 g4;obtain⟨l,⟨rfl,rfl⟩,hp,hl,hk⟩:=hk;refine aL (c2C) (e4T l g0 g1 g3 g4 e0 h Q) ?_;delta fA dQ tN Tw yF qK mE R6 zV R5 qI a5R Y8 yG d2U fV jH oD R0 b3Q Mg eZ Kt fG Ku tO tP qJ e5S e5Q e5P Z0 Kq Ks R3 Y9 Kv R1 zU R7 R4 e5R Kr tI wW iI; (try dsimp -iota -proj only);have K: ∀x:Nat,(x:Int).toNat=x:=AK
  obtain⟨hn,b3⟩:=hl;obtain⟨p0,p1,p3,p4⟩:=hp;have d5:=bA l;have d4:=H6 l;have O: ∀n∈l,aZ n.im:=λn h=>(hn n h).1
  have b7:(∀n∈l,aZ n.im/\n.ks.length<=41)/\l.length<=100000:=⟨hn,JZ⟩;have c7:=d2I l;have w1: ∀z:Nat,z<=1000000000->IntKind.i64.wrap ((z:Int)+1)=((z+1:Nat):Int):=λz h=>by rw [AA _ JZ];rfl
  have A: ∀z:Nat,z<=1000000000->some (TV.v (IV.int IntKind.i64 (IntKind.i64.wrap ((z:Int)+1))))=some (TV.v (IV.int IntKind.i64 ((z+1:Nat):Int))):=λz h=>by rw [w1 z h]
  refine aA (by simp only [aQ,aY,bX,p0,p1,p3,p4,AN,EI]) ⟨l,⟨rfl,rfl⟩,⟨λx hx=>⟨by have:=(hn x hx).2;omega,True.intro⟩,JZ⟩,⟨⟨0,0,0,0,0,_,[],(0,0),.nilslice,.nilslice⟩,KD,KD,KD,KD,KD,⟨AR _,.inl ⟨rfl,rfl⟩⟩,KD⟩,?_⟩;rintro x _ ⟨hi,R⟩;refine cV (λc=>?_) (λc=>⟨⟨?_,?_⟩,?_⟩)
  .have j:x.i<l.length:=JZ;have b8:l.getD x.i default=l[x.i]:=bO j;refine aP ⟨JZ,JZ⟩ (aR (n:=(aD l).getD x.i 0) (by rw [K,AM];exact kAt JZ) (aB (λc3=>?_) (λc3=>?_)))
   .have h3:=beq_iff_eq.1 c3;refine aP ⟨JZ,JZ⟩ (aR (n:=(l.getD x.i default).im) (by rw [K,pD j KA,<-b8];rfl) ⟨l,⟨rfl,rfl⟩,b7,aB (λc4=>?_) (λc4=>?_)⟩)
    .have h4:=(c8P h3).1 (beq_iff_eq.1 c4);have hL:=gJ h3;have c5:=hL.odd;have c6:=hL.im;refine⟨100*(l.length-x.i),⟨{x with m:=1 },KD,KD,KD,KD,KD,KD,⟨⟨j,h3,h4,AF _,KE⟩,by
      have e:(C9 (l.getD x.i default) 1).map (λy=>y.v)=[]:=rfl;rw [e,CZ];exact R⟩,KE⟩,?_⟩
     rintro z _ ⟨⟨z1,z2,z3,z4,z5⟩,zo⟩ hM;have hL:=gJ z2;have c5:=hL.odd;have c6:=hL.im;have b0:l.getD z.i default=l[z.i]:=bO z1;have t2:IntKind.i64.wrap (Int.tdiv ((l.getD z.i default).ks.length:Int) 2)=(((l.getD z.i default).ks.length/2:Nat):Int):=by
      rw [BQ JZ,AA _ JZ];omega
     refine aP ⟨JZ,JZ⟩ (lP (i:=none) (a:=0) (n:=(l.getD z.i default).ks.length) (c:=(l.getD z.i default).ks.map (IV.int .i64)) (by rw [K,pD z1 KA,<-b0];rfl) ?_);rw [t2];refine cV (λcj=>?_) (λcj=>?_)
     .refine aP ⟨JZ,JZ⟩ (aR (n:=(l.getD z.i default).im) (by rw [K,pD z1 KA,<-b0];rfl) ?_);have ev:IntKind.i64.wrap (IntKind.i64.wrap (16*(l.getD z.i default).im)+(z.m:Int))=(aX (l.getD z.i default) z.m).v:=by
       rw [show IntKind.i64.wrap (16*(l.getD z.i default).im)=16*(l.getD z.i default).im from AA _ JZ,AA _ JZ];rfl
      rw [ev];have b2:(vsP l z.i++(C9 (l.getD z.i default) z.m).map (λy=>y.v)).length<=2000000:=by
       have:=a3Q l z.i;unfold vsP C9
       simp only [AI,AX,EK];omega
      refine zo.app b2 λid e n c g2 ho=>⟨{z with m:=z.m+1,g:=g2,ov:=_ },KD,KD,KD,KD,A z.m JZ,KD,⟨⟨z1,z2,z3,KE,KE⟩,?_⟩,KE⟩
      dsimp only;rw [Ns z4,BY,<-List.append_assoc];exact ho
     .refine⟨{z with i:=z.i+1 },KD,KD,KD,A z.i JZ,KD,⟨z1,?_⟩,KE⟩;dsimp only;have e:vsP l (z.i+1)=vsP l z.i++(C9 (l.getD z.i default) z.m).map (λy=>y.v):=by
       unfold vsP
       rw [Wm ⟨z2,z3⟩,BY,show z.m=(l.getD z.i default).ks.length/2 by omega]
      rw [e];exact zo
    .have h4: ¬ ((aD l).getD x.i 0=3/\vK l x.i (l.getD x.i default).im=false):=λq=>by
      have:=Sh q.1 q.2;rw [this]at c4;simp at c4
     refine⟨{x with i:=x.i+1 },KD,KD,KD,A x.i JZ,KD,⟨j,?_⟩,KE⟩;dsimp only;unfold vsP
     rw [(wR h4).2];exact R
   .have h4: ¬ ((aD l).getD x.i 0=3/\vK l x.i (l.getD x.i default).im=false):=λq=>by
     rw [q.1]at c3
     cases c3
    refine⟨{x with i:=x.i+1 },KD,KD,KD,A x.i JZ,KD,⟨j,?_⟩,KE⟩;dsimp only;unfold vsP
    rw [(wR h4).2];exact R
  .have e:vsP l x.i=fI l:=by
    unfold vsP fI aI
    rw [show x.i=l.length by omega]
   rw [e]at R;refine⟨{x with n:=0,C:=[],cv:= .nilslice },KD,KD,KD,KD,KD,⟨RvC.init l,?_,.inl ⟨rfl,rfl⟩⟩,KD⟩;rcases R with⟨h1,h2⟩| ⟨io,h1,_,h2⟩
   .exact .inl ⟨h1,CU (by rw [<-c7,h2];rfl)⟩
   .exact .inr ⟨λq=>h2 (by unfold fI;rw [q];rfl),io,h1⟩
  .rintro x _ ⟨hR,R,a8⟩;have hb:=hR.bound;refine⟨rB l x.n 0,?_,?_,?_,?_⟩
   .rcases R with⟨h1,h2⟩| ⟨h1,t,h2⟩
    .exact .inl ⟨x,KD,by rw [h1],KD,KD,KD,KD,KD,⟨hR,h2,a8⟩,AF _⟩
    .rcases a8 with⟨h3,h4⟩| ⟨id,h3,h4,h5⟩
     .exact .inr (.inl ⟨{x with t:=t,i:=0 },KD,by rw [h2],by rw [h3],KD,KD,KD,KD,⟨by rw [<-h4];exact hR,h1⟩,AF _⟩)
     .exact .inr (.inr ⟨{x with t:=t,i:=0,id:=id },KD,by rw [h2],by rw [h3],KD,KD,KD,KD,⟨hR,h1,h4,h5⟩,AF _⟩)
   .rintro y _ ⟨D,y1,d3⟩ hM;have e0:(mG l y.n 0).2=false:=rfl;obtain⟨a1,a2⟩:=D.fin (by rw [y1];exact Nat.lt_irrefl 0) e0;exact⟨{y with ov:= .nilslice },KD,KD,KD,⟨a1,a2,.inl ⟨rfl,y1⟩,d3⟩,KD⟩
   .rintro y _ ⟨D,u⟩ hM;have c8:=D.bound;have d0:=D.ii;refine cV (λc=>?_) (λc=>?_)
    rotate_left
    .refine aB (λcc=>?_) (λcc=>?_)
     .obtain⟨a1,a2⟩:=D.fin JZ (by simpa using cc);exact⟨{y with C:=[],ov:= .vslice (some y.t) ((fI l).length*1) (fI l).length 1 ((fI l).map (IV.int .i64)),cv:= .nilslice },KD,KD,KD,⟨a1,a2,.inr ⟨u,y.t,rfl⟩,.inl ⟨rfl,rfl⟩⟩,KD⟩
     .have a1:=D.turn JZ (by simpa using cc);exact⟨{y with n:=y.n+1,C:=[],ov:= .vslice (some y.t) ((fI l).length*1) (fI l).length 1 ((fI l).map (IV.int .i64)),cv:= .nilslice },KD,KD,KD,A (y.n+1) JZ,KD,⟨a1,.inr ⟨u,y.t,rfl⟩,.inl ⟨rfl,rfl⟩⟩,by unfold rB at hM;dsimp only;omega⟩
    have j:y.i< (aI l).length:=JZ;have hv:=E1 j;obtain⟨i0,j0,hX⟩:=a7N (AG j);refine aP ⟨JZ,JZ⟩ (aR (by rw [K,AM];exact hv) ⟨[],⟨rfl,rfl⟩,AR _,aP ⟨JZ,JZ⟩ (aR (by rw [K,AM];exact hv) ⟨l,(aI l)[y.i],i0,[],⟨rfl,rfl,rfl,rfl,rfl,rfl,rfl⟩,⟨hn,b3⟩,⟨j0,hX⟩,⟨D.o,AR _⟩,?_⟩)⟩);generalize hq:stQ l (aI l)[y.i] (((iQ [] (aI l)[y.i].v).1.1,(iQ [] (aI l)[y.i].v).1.2),(iQ [] (aI l)[y.i].v).2) (unV (fI l) []) (kSI []) ((y.n+1:Nat):Int)=q;refine aB (λc1=>?_) (λc1=>aB (λh1=>absurd h1 (show¬ (false=true) by decide)) (λh1=>⟨rB l y.n y.i,aB (λ_=>aP ⟨JZ,JZ⟩ (aR (by rw [K,AM];exact hv) ?_)) (λh2=>absurd h2 (show¬ (true=false) by decide)),?_⟩))
    .obtain⟨s1,s2⟩:=D.skip j (D.none O j hq.symm (.inl (by simpa using c1)));exact .inr (.inl ⟨{y with i:=y.i+1 },KD,KD,KD,KD,by rw [s2],A y.i JZ,KD,⟨s1,u⟩,by unfold rB;dsimp only;omega⟩)
    .have q2:q.2=true:=by simpa using c1
     have hu:=D.some O j hq.symm q2 (λz=>absurd z (show¬ (false=true) by decide));exact⟨{y with m:=0,id:=y.g.next,g:=y.g.push (.cells [.int .i64 (aI l)[y.i].v,.int .i64 q.1.1,.int .i64 q.1.2]),C:=[((aI l)[y.i].v,q.1)],y:=q.1 },KD,KD,KD,KD,KD,KD,KD,by rw [q2],KD,⟨⟨rfl,⟨[],RvM.start D j hu rfl rfl⟩,u⟩,aW,AQ _⟩,AF _⟩
    .rintro z0 _ ⟨⟨a7,⟨C0,X⟩,_⟩,a6,Y⟩ b6;have b4:=X.small;refine⟨1000000*rB l z0.n z0.i+z0.C.length,⟨z0,KD,KD,KD,KD,KD,KD,KD,by rw [a7];rfl,KD,KD,⟨⟨⟨C0,X⟩,u⟩,a6,Y⟩,JZ⟩,?_⟩;rintro z _ ⟨⟨⟨C1,V⟩,_⟩,zg,L⟩ zM;have b5:=V.small;have a5:=V.i;refine cV (λcm=>?_) (λcm=>?_)
     .have hm:z.m<z.C.length:=JZ;have Z:=yY z.C;refine aP ⟨JZ,JZ⟩ (aC zg (aR (n:=(z.C[z.m]).1) (by rw [K,AY];exact gA hm 0 KA) (aP ⟨JZ,JZ⟩ (aR (by rw [K,AM];exact E1 a5) (aB (λev=>?_) (λev=>?_))))))
      .refine aP ⟨JZ,JZ⟩ (aC zg (aA (by rw [K,BB,Z];omega) ⟨{z with m:=z.m+1,g:=z.g.set z.id (.cells ((z.C.set z.m ((z.C[z.m]).1,z.y)).flatMap cL)),C:=z.C.set z.m ((z.C[z.m]).1,z.y) },KD,KD,by dsimp only;rw [CM],KD,KD,KD,KD,A z.m JZ,KD,by rw [<-Po hm,K,AY],⟨⟨⟨C1,V.put hm (beq_iff_eq.1 ev) _⟩,u⟩,aH,L⟩,by dsimp only;rw [CM];omega⟩))
      .exact⟨{z with m:=z.m+1 },KD,KD,KD,KD,KD,KD,KD,A z.m JZ,KD,KD,⟨⟨⟨C1,V.same hm (beq_eq_false_iff_ne.1 ev)⟩,u⟩,zg,L⟩,KE⟩
     .obtain⟨d1,d2⟩:=V.done O JZ;exact .inr (.inr ⟨{z with i:=z.i+1 },KD,KD,KD,KD,by rw [d2],A z.i JZ,KD,⟨d1,u,zg,L⟩,by unfold rB at*;dsimp only;omega⟩)
   .rintro y _ ⟨D,u,yg,T⟩ hM;have c8:=D.bound;have d0:=D.ii;have c9:=D.lenC;have Z:=yY y.C;refine cV (λc=>?_) (λc=>?_)
    rotate_left
    .refine aB (λcc=>?_) (λcc=>?_)
     .obtain⟨a1,a2⟩:=D.fin JZ (by simpa using cc);exact⟨{y with C:=y.C,ov:= .vslice (some y.t) ((fI l).length*1) (fI l).length 1 ((fI l).map (IV.int .i64)),cv:= .hslice y.id 0 y.C.length 3 },KD,KD,KD,⟨a1,a2,.inr ⟨u,y.t,rfl⟩,.inr ⟨y.id,rfl,yg,T⟩⟩,KD⟩
     .have a1:=D.turn JZ (by simpa using cc);exact⟨{y with n:=y.n+1,C:=y.C,ov:= .vslice (some y.t) ((fI l).length*1) (fI l).length 1 ((fI l).map (IV.int .i64)),cv:= .hslice y.id 0 y.C.length 3 },KD,KD,KD,A (y.n+1) JZ,KD,⟨a1,.inr ⟨u,y.t,rfl⟩,.inr ⟨y.id,rfl,yg,T⟩⟩,by unfold rB at hM;dsimp only;omega⟩
    have j:y.i< (aI l).length:=JZ;have hv:=E1 j;have a4:(y.C.flatMap cL).take (y.C.length*3)=y.C.flatMap cL:=AJ JZ;have a9:(true&&Nat.ble (0+y.C.length*3) (y.C.flatMap cL).length)=true:=by rw [BD,BB];omega
    have b1:(true&& (Nat.ble (y.C.length*3) (y.C.flatMap cL).length&&Nat.ble ((y.C.length+1)*24) 140737488355328))=true:=by
     rw [BD,AE,BB,BB];exact⟨JZ,JZ⟩
    obtain⟨i0,j0,hX⟩:=a7N (AG j);refine aP ⟨JZ,JZ⟩ (aR (by rw [K,AM];exact hv) (aC yg (aA a9 ⟨y.C,⟨rfl,a4⟩,JZ,aP ⟨JZ,JZ⟩ (aR (by rw [K,AM];exact hv) (aC yg (aA a9 ⟨l,(aI l)[y.i],i0,y.C,⟨rfl,rfl,rfl,rfl,rfl,rfl,a4⟩,⟨hn,b3⟩,⟨j0,hX⟩,⟨D.o,JZ⟩,?_⟩)))⟩)));generalize hq:stQ l (aI l)[y.i] (((iQ y.C (aI l)[y.i].v).1.1,(iQ y.C (aI l)[y.i].v).1.2),(iQ y.C (aI l)[y.i].v).2) (unV (fI l) y.C) (kSI y.C) ((y.n+1:Nat):Int)=q;have G:=c0M y.C (aI l)[y.i].v;refine aB (λc1=>?_) (λc1=>aB (λh1=>aB (λe1=>?_) (λe1=>⟨rB l y.n y.i,aB (λh2=>by rw [h1]at h2;cases h2) (λ_=>?_),?_⟩)) (λh1=>⟨rB l y.n y.i,aB (λ_=>aP ⟨JZ,JZ⟩ (aR (by rw [K,AM];exact hv) (aC yg (aA b1 ?_)))) (λh2=>by rw [h1]at h2;cases h2),?_⟩))
    .obtain⟨s1,s2⟩:=D.skip j (D.none O j hq.symm (.inl (by simpa using c1)));exact .inr (.inr ⟨{y with i:=y.i+1 },KD,KD,KD,KD,by rw [s2],A y.i JZ,KD,⟨s1,u,yg,T⟩,by unfold rB;dsimp only;omega⟩)
    .obtain⟨s1,s2⟩:=D.skip j (D.none O j hq.symm (.inr ⟨h1,by simpa using c1,by
      rw [AE]at e1;exact Prod.ext (beq_iff_eq.1 e1.1) (by have:=e1.2;first|exact beq_iff_eq.1 this| (rw [AN]at this;exact beq_iff_eq.1 this))⟩))
     exact .inr (.inr ⟨{y with i:=y.i+1 },KD,KD,KD,KD,by rw [s2],A y.i JZ,KD,⟨s1,u,yg,T⟩,by unfold rB;dsimp only;omega⟩)
    .have q2:q.2=true:=by simpa using c1
     have hu:=D.some O j hq.symm q2 (λ_ z=>by
      rw [z]at e1;simp at e1)
     exact⟨{y with m:=0,y:=q.1 },KD,KD,KD,KD,KD,KD,KD,by rw [q2],KD,⟨⟨rfl,⟨y.C,RvM.start D j hu rfl (by unfold vU;rw [if_pos (by rw [<-G];exact h1)])⟩,u⟩,yg,T⟩,AF _⟩
    .rintro z0 _ ⟨⟨a7,⟨C0,X⟩,_⟩,a6,Y⟩ b6;have b4:=X.small;refine⟨1000000*rB l z0.n z0.i+z0.C.length,⟨z0,KD,KD,KD,KD,KD,KD,KD,by rw [a7];rfl,KD,KD,⟨⟨⟨C0,X⟩,u⟩,a6,Y⟩,JZ⟩,?_⟩;rintro z _ ⟨⟨⟨C1,V⟩,_⟩,zg,L⟩ zM;have b5:=V.small;have a5:=V.i;refine cV (λcm=>?_) (λcm=>?_)
     .have hm:z.m<z.C.length:=JZ;have Z:=yY z.C;refine aP ⟨JZ,JZ⟩ (aC zg (aR (n:=(z.C[z.m]).1) (by rw [K,AY];exact gA hm 0 KA) (aP ⟨JZ,JZ⟩ (aR (by rw [K,AM];exact E1 a5) (aB (λev=>?_) (λev=>?_))))))
      .refine aP ⟨JZ,JZ⟩ (aC zg (aA (by rw [K,BB,Z];omega) ⟨{z with m:=z.m+1,g:=z.g.set z.id (.cells ((z.C.set z.m ((z.C[z.m]).1,z.y)).flatMap cL)),C:=z.C.set z.m ((z.C[z.m]).1,z.y) },KD,KD,by dsimp only;rw [CM],KD,KD,KD,KD,A z.m JZ,KD,by rw [<-Po hm,K,AY],⟨⟨⟨C1,V.put hm (beq_iff_eq.1 ev) _⟩,u⟩,aH,L⟩,by dsimp only;rw [CM];omega⟩))
      .exact⟨{z with m:=z.m+1 },KD,KD,KD,KD,KD,KD,KD,A z.m JZ,KD,KD,⟨⟨⟨C1,V.same hm (beq_eq_false_iff_ne.1 ev)⟩,u⟩,zg,L⟩,KE⟩
     .obtain⟨d1,d2⟩:=V.done O JZ;exact .inr (.inr ⟨{z with i:=z.i+1 },KD,KD,KD,KD,by rw [d2],A z.i JZ,KD,⟨d1,u,zg,L⟩,by unfold rB at*;dsimp only;omega⟩)
    .have q2:q.2=true:=by simpa using c1
     have hu:=D.some O j hq.symm q2 (λz=>by rw [h1]at z;cases z);refine⟨{y with m:=0,id:=y.g.next,g:=(y.g.set y.id .dead).push (.cells ((y.C++ [((aI l)[y.i].v,q.1)]).flatMap cL)),C:=y.C++ [((aI l)[y.i].v,q.1)],y:=q.1 },KD,KD,by dsimp only;rw [AI];rfl,KD,KD,KD,KD,by rw [q2],by rw [a4,CI];rfl,⟨⟨rfl,⟨y.C,RvM.start D j hu rfl (by unfold vU;rw [if_neg (by rw [<-G,h1];decide)])⟩,u⟩,aW,AQ _⟩,AF _⟩
    .rintro z0 _ ⟨⟨a7,⟨C0,X⟩,_⟩,a6,Y⟩ b6;have b4:=X.small;refine⟨1000000*rB l z0.n z0.i+z0.C.length,⟨z0,KD,KD,KD,KD,KD,KD,KD,by rw [a7];rfl,KD,KD,⟨⟨⟨C0,X⟩,u⟩,a6,Y⟩,JZ⟩,?_⟩;rintro z _ ⟨⟨⟨C1,V⟩,_⟩,zg,L⟩ zM;have b5:=V.small;have a5:=V.i;refine cV (λcm=>?_) (λcm=>?_)
     .have hm:z.m<z.C.length:=JZ;have Z:=yY z.C;refine aP ⟨JZ,JZ⟩ (aC zg (aR (n:=(z.C[z.m]).1) (by rw [K,AY];exact gA hm 0 KA) (aP ⟨JZ,JZ⟩ (aR (by rw [K,AM];exact E1 a5) (aB (λev=>?_) (λev=>?_))))))
      .refine aP ⟨JZ,JZ⟩ (aC zg (aA (by rw [K,BB,Z];omega) ⟨{z with m:=z.m+1,g:=z.g.set z.id (.cells ((z.C.set z.m ((z.C[z.m]).1,z.y)).flatMap cL)),C:=z.C.set z.m ((z.C[z.m]).1,z.y) },KD,KD,by dsimp only;rw [CM],KD,KD,KD,KD,A z.m JZ,KD,by rw [<-Po hm,K,AY],⟨⟨⟨C1,V.put hm (beq_iff_eq.1 ev) _⟩,u⟩,aH,L⟩,by dsimp only;rw [CM];omega⟩))
      .exact⟨{z with m:=z.m+1 },KD,KD,KD,KD,KD,KD,KD,A z.m JZ,KD,KD,⟨⟨⟨C1,V.same hm (beq_eq_false_iff_ne.1 ev)⟩,u⟩,zg,L⟩,KE⟩
     .obtain⟨d1,d2⟩:=V.done O JZ;exact .inr (.inr ⟨{z with i:=z.i+1 },KD,KD,KD,KD,by rw [d2],A z.i JZ,KD,⟨d1,u,zg,L⟩,by unfold rB at*;dsimp only;omega⟩)
  .rintro x _ ⟨hR,hr,R,a8⟩;have hb:=hR.bound;refine⟨?_,?_,?_,?_⟩
   .rcases R with⟨h1,h2⟩| ⟨h1,t,h2⟩
    .exact .inl ⟨x,by rw [h1],KD,KD,KD,KD,⟨h2,hR,hr⟩,KD⟩
    .rcases a8 with⟨h3,h4⟩| ⟨id,h3,h4,h5⟩
     .exact .inr (.inl ⟨{x with t:=t,i:=0 },by rw [h2],by rw [h3],KD,KD,KD,⟨by rw [<-h4];exact hR,hr,AR _⟩,KD⟩)
     .exact .inr (.inr ⟨{x with t:=t,i:=0,id:=id,ov:= .nilslice },by rw [h2],by rw [h3],KD,KD,KD,⟨hR,hr,AR _,⟨h4,h5⟩,.inl ⟨rfl,rfl⟩⟩,KD⟩)
   .rintro y _ ⟨y1,D,yr⟩;have G:=hk (y.n+1) D.r yr;rw [y1]at G;exact G
   .rintro y _ ⟨D,yr,yi⟩;have e:mG l y.n (aI l).length=eT l (aI l) (y.n+1):=F7 rfl;refine cV (λc=>?_) (λc=>?_)
    .have j:y.i< (aI l).length:=JZ;have hv:=E1 j;exact aP ⟨JZ,JZ⟩ (aR (by rw [K,AM];exact hv) ⟨[],⟨rfl,rfl⟩,AR _,aB (λh1=>absurd h1 (show¬ (false=true) by decide)) (λ_=> .inr (.inl ⟨{y with i:=y.i+1 },KD,KD,KD,A y.i JZ,KD,⟨D,yr,j⟩,KE⟩))⟩)
    .have G:=hk (y.n+1) D.r yr;have e2:mW (aI l) (eT l (aI l) (y.n+1)).1=[]:=by
      unfold mW
      rw [List.filterMap_eq_nil_iff];intro p hp;have h2:=D.k p.v;rw [e]at h2
      cases h1:(eT l (aI l) (y.n+1)).1 p.v with
      |none=>rfl
      |some r=>rw [h1]at h2;cases congrArg Prod.snd h2
     rw [e2]at G;exact G
   .rintro y _ ⟨D,yr,yi,⟨yg,T⟩,yo⟩;have e:mG l y.n (aI l).length=eT l (aI l) (y.n+1):=F7 rfl;have c9:=D.lenC;have Z:=yY y.C;refine cV (λc=>?_) (λc=>?_)
    .have j:y.i< (aI l).length:=JZ;have hv:=E1 j;have a4:(y.C.flatMap cL).take (y.C.length*3)=y.C.flatMap cL:=AJ JZ;have a9:(true&&Nat.ble (0+y.C.length*3) (y.C.flatMap cL).length)=true:=by rw [BD,BB];omega
     have a0:=On ((aI l).take y.i) (eT l (aI l) (y.n+1)).1 (aI l)[y.i];rw [<-List.take_succ_eq_append_getElem j]at a0;have a3:=D.k (aI l)[y.i].v;rw [e]at a3;have ho:=So ((aI l).take y.i) (eT l (aI l) (y.n+1)).1;rw [AW]at ho;refine aP ⟨JZ,JZ⟩ (aR (by rw [K,AM];exact hv) (aC yg (aA a9 ⟨y.C,⟨rfl,a4⟩,JZ,?_⟩)))
     cases z:(eT l (aI l) (y.n+1)).1 (aI l)[y.i].v with
     |none=>
      rw [z]at a0 a3;rw [CZ]at a0;rw [a3];exact aB (λh1=>absurd h1 (show¬ (false=true) by decide)) (λ_=> .inr (.inr ⟨{y with i:=y.i+1 },KD,KD,KD,A y.i JZ,KD,⟨D,yr,j,⟨yg,T⟩,by dsimp only;rw [a0];exact yo⟩,KE⟩))
     |some r=>
      rw [z]at a0 a3;rw [a3];refine aB (λ_=>aP ⟨JZ,JZ⟩ (aR (by rw [K,AM];exact hv) ?_)) (λh1=>absurd h1 (show¬ (true=false) by decide));refine yo.app (x:=((aI l)[y.i].v,r)) rfl JZ T λi2 e2 l2 c2 gg c0 fr nx=> .inr (.inr ⟨{y with i:=y.i+1,g:=gg,ov:= .vslice (some i2) e2 l2 3 c2 },KD,KD,KD,A y.i JZ,KD,⟨D,yr,j,⟨(fr y.id JZ).trans yg,KE⟩,by dsimp only;rw [a0];exact c0⟩,KE⟩)
    .have b9:(aI l).take y.i=aI l:=AJ JZ;rw [b9]at yo;have G:=hk (y.n+1) D.r yr;rcases yo with⟨h1,e2⟩| ⟨io,h1,_⟩
     .rw [h1,show mV Go.Proofs.Tryz.prog 49 .nilslice= .vslice none 0 0 3 [] by kernel_rfl];rw [e2]at G;exact aA rfl G
     .rw [h1,show∀(i:Y10)(e n:Nat)(c:Y14),mV Go.Proofs.Tryz.prog 49 (.vslice i e n 3 c)= .vslice none 0 n 3 c from λi e n c=>by kernel_rfl];refine aA ?_ G;simp only [aQ,aY,AN];exact eY _
 .exact hk.elim
def a0Z:=aV 27 Rn b6I
theorem a8G:aS env a0Z:=aE c3R (c2C)
def b9O(xs:Y14)(h:Heap)(K:KT):Prop:=match xs with
 | [.agg [.int .i64 a,.int .i64 b],.agg [.int .i64 c,.int .i64 d]]=>K (.bool (ctd (a,b) (c,d))) h
 |_=>False
theorem f3J(a b c d:Int)(h:Heap)(Q:KT):dF (aU a0Z) env 68 cC bD bD [.agg [.int .i64 a,.int .i64 b],.agg [.int .i64 c,.int .i64 d]] h Q=(
 aK (decide (c<=a)) (Q (.bool (decide (b<=d))) h) (Q (.bool false) h)):=by kernel_rfl
theorem f0Q: ∀xs h Q,b9O xs h Q->aM env 68 xs h Q:=by
 intro xs h Q hk;unfold b9O at hk;split at hk
 .rename_i a b c d;refine aL (a8G) (f3J a b c d h Q) ?_;unfold ctd at hk;refine aB (λe=>?_) (λe=>?_)
  .rw [e,BD]at hk;exact hk
  .rw [e,CN]at hk;exact hk
 .exact hk.elim
def b6N:=aV 68 b9O a0Z
theorem c2H:aS env b6N:=aE f0Q (a8G)
def smI(A:List Iv):Inv':=dL Nat (λi=>[(0,.v (.vslice none 0 A.length 2 (A.flatMap cR))),(1,.v (.vslice none 0 A.length 2 (A.flatMap cR))),(4,.v (.bool false)),(5,.v (.int .i64 (i:Int)))]) (λ_=>[]) (λ_=>Heap.empty) (λi=>i<=A.length) (λi=>A.length-i)
def c8H(xs:Y14)(h:Heap)(K:KT):Prop:=match xs with
 | [.vslice none e1 n1 2 c1,.vslice none e2 n2 2 c2]=> ∃A:List Iv,(n1=A.length/\c1=A.flatMap cR/\n2=A.length/\c2=A.flatMap cR)/\A.length<=1099511627776/\K (.bool true) h
 |_=>False
def e5V(A:List Iv):=IV.vslice none 0 A.length 2 (List.flatMap cR A)
def tJ(l:Nat)(r:Nat)(g:IV)(m:Int)(j:Nat)(i:Prop):Prop:=some (TV.v g)=some (TV.v g)/\some (TV.v g)=some (TV.v g)/\some (TV.v (.bool false))=some (TV.v (.bool false))/\tI m=tI (j:Int)/\Heap.mk PT.nil 0=Heap.mk PT.nil 0/\Nat.le j l/\i
def yA(g:Int)(m:Bool)(i:List Iv)(r:Int->Int->Prop):Prop:=aF m (aN .i64 (List.flatMap cR i) (g.toNat*2) λj=>aN .i64 (List.flatMap cR i) (g.toNat*2+1) λl=>r j l)
def mD(g:Nat)(i:Int):Bool:=decide (0<=(g:Int)) &&decide ((g:Int)<i)
theorem f8Q(A:List Iv)(i j:Nat)(h:Heap)(Q:KT):dF (aU b6N) env 30 cC (mJ 5 (smI A)) bD [.vslice none i A.length 2 (A.flatMap cR),.vslice none j A.length 2 (A.flatMap cR)] h Q=(
 aF (aQ [IV.vslice none 0 A.length 2 (List.flatMap cR A),IV.vslice none 0 A.length 2 (List.flatMap cR A)]) (aK ((A.length:Int) !=(A.length:Int)) (Q (.bool false) h) ((∃(x:Nat),tJ A.length 2 (e5V A) 0 x True)/\∀(x:Nat)(b:FF),x<=A.length->aK (decide ((x:Int)< (A.length:Int))) (yA (x:Int) (mD x (A.length:Int)) A (λl m=>aF (mD x (A.length:Int)) (aN .i64 (List.flatMap cR A) ((x:Int).toNat*2) λr=>aN .i64 (List.flatMap cR A) ((x:Int).toNat*2+1) λu=>aK (!(l==r&& (m==u&&true))) (Q (.bool false) h) (∃(g:Nat),tJ A.length 2 (e5V A) (wW ((x:Int)+(1:Int))) g (A.length-g<A.length-x))))) (Q (.bool true) h)))):=by kernel_rfl
theorem f0X: ∀xs h Q,c8H xs h Q->aM env 30 xs h Q:=by
 intro xs h Q hk;unfold c8H at hk;split at hk
 .rename_i l D r m G u;obtain⟨A,⟨rfl,rfl,rfl,rfl⟩,z,hk⟩:=hk;refine aL (c2H) (f8Q A l m h Q) ?_;delta tJ e5V yA mD tI wW; (try dsimp -iota -proj only);have j: ∀x:Nat,(x:Int).toNat=x:=AK
  refine aA (by simp only [aQ,aY,pM,AN]) (aB (λc=>by simp at c) (λ_=>⟨⟨0,KD,KD,KD,KD,KD,AR _,KD⟩,?_⟩));rintro i _ y;refine cV (λc=>?_) (λc=>hk);have g:i<A.length:=JZ;have b:(0:Int)<=(i:Int)/\(i:Int)< (A.length:Int):=⟨JZ,JZ⟩;refine aP b (aR (n:=A[i].1) (by rw [j];exact(A5 g).1) (aR (n:=A[i].2) (by rw [j];exact(A5 g).2) (aP b (aR (n:=A[i].1) (by rw [j];exact(A5 g).1) (aR (n:=A[i].2) (by rw [j];exact(A5 g).2) ?_)))));exact aB (λe=>by simp at e) (λ_=>⟨i+1,KD,KD,KD,by rw [AA _ JZ];rfl,KD,g,JZ⟩)
 .exact hk.elim
def d8U:=aV 30 c8H b6N
theorem d6G:aS env d8U:=aE f0X (c2H)
def smC(A:dW):Inv':=dL Nat (λi=>[(0,.v (.vslice none 0 A.length 3 (A.flatMap cL))),(1,.v (.vslice none 0 A.length 3 (A.flatMap cL))),(4,.v (.bool false)),(5,.v (.int .i64 (i:Int)))]) (λ_=>[]) (λ_=>Heap.empty) (λi=>i<=A.length) (λi=>A.length-i)
def c8G(xs:Y14)(h:Heap)(K:KT):Prop:=match xs with
 | [.vslice none e1 n1 3 c1,.vslice none e2 n2 3 c2]=> ∃A:dW,(n1=A.length/\c1=A.flatMap cL/\n2=A.length/\c2=A.flatMap cL)/\A.length<=1099511627776/\K (.bool true) h
 |_=>False
def Zo(A:dW):=List.flatMap cL A
def e5T(x:Nat):=(x:Int).toNat*3+1+1
def tK(g:dW):IV:=IV.vslice none 0 g.length 3 (List.flatMap cL g)
def qG(j:Nat)(g:dW)(l:Nat)(m:Int->Prop):Prop:=aF (mD j (g.length:Int)) (aN .i64 (List.flatMap cL g) l λi=>m i)
theorem f8P(A:dW)(i j:Nat)(h:Heap)(Q:KT):dF (aU d8U) env 28 cC (mJ 5 (smC A)) bD [.vslice none i A.length 3 (A.flatMap cL),.vslice none j A.length 3 (A.flatMap cL)] h Q=(
 aF (aQ [IV.vslice none 0 A.length 3 (Zo A),IV.vslice none 0 A.length 3 (Zo A)]) (aK ((A.length:Int) !=(A.length:Int)) (Q (.bool false) h) ((∃(x:Nat),tJ A.length 3 (tK A) 0 x True)/\∀(x:Nat)(b:FF),x<=A.length->aK (decide ((x:Int)< (A.length:Int))) (qG x A ((x:Int).toNat*3) (λl=>aN .i64 (Zo A) ((x:Int).toNat*3+1) λm=>aN .i64 (Zo A) (e5T x) λr=>aF (mD x (A.length:Int)) (aN .i64 (Zo A) ((x:Int).toNat*3) λu=>aN .i64 (Zo A) ((x:Int).toNat*3+1) λy=>aN .i64 (Zo A) (e5T x) λz=>aK (!(l==u&& (m==y&& (r==z&&true) &&true))) (Q (.bool false) h) (∃(g:Nat),tJ A.length 3 (tK A) (wW ((x:Int)+1)) g (A.length-g<A.length-x))))) (Q (.bool true) h)))):=by kernel_rfl
theorem f0V: ∀xs h Q,c8G xs h Q->aM env 28 xs h Q:=by
 intro xs h Q hk;unfold c8G at hk;split at hk
 .rename_i l D r m G u;obtain⟨A,⟨rfl,rfl,rfl,rfl⟩,z,hk⟩:=hk;refine aL (d6G) (f8P A l m h Q) ?_;delta Zo tJ tK mD qG e5T tI wW; (try dsimp -iota -proj only);have j: ∀x:Nat,(x:Int).toNat=x:=AK
  refine aA (by simp only [aQ,aY,eY,AN]) (aB (λc=>by simp at c) (λ_=>⟨⟨0,KD,KD,KD,KD,KD,AR _,KD⟩,?_⟩));rintro i _ y;refine cV (λc=>?_) (λc=>hk);have g:i<A.length:=JZ;have b:(0:Int)<=(i:Int)/\(i:Int)< (A.length:Int):=⟨JZ,JZ⟩;refine aP b (aR (n:=A[i].1) (by rw [j];exact gA g 0 KA) (aR (n:=A[i].2.1) (by rw [j];exact gA g 1 KA) (aR (n:=A[i].2.2) (by rw [j];exact gA g 2 KA) (aP b (aR (n:=A[i].1) (by rw [j];exact gA g 0 KA) (aR (n:=A[i].2.1) (by rw [j];exact gA g 1 KA) (aR (n:=A[i].2.2) (by rw [j];exact gA g 2 KA) ?_)))))));exact aB (λe=>by simp at e) (λ_=>⟨i+1,KD,KD,KD,by rw [AA _ JZ];rfl,KD,g,JZ⟩)
 .exact hk.elim
def e7X:=aV 28 c8G d8U
theorem e8Y:aS env e7X:=aE f0V (d6G)
def rj1(l:Y15)(C:dW)(g j m r:IV):Inv':=dL Nat (λi=>[(1,.v (.vslice none 0 C.length 3 (C.flatMap cL))),(2,.l 2 0),(4,.v (.bool false)),(5,.v (.vslice none 0 l.length 2 ((rG l (kSI C)).flatMap cR))),(6,.v (.int .i64 (i:Int)))]) (λ_=>[(2,[g,j,.vslice none 0 (l).length 3 ((l).flatMap cN),m,r])]) (λ_=>Heap.empty) (λi=>i<=C.length/\vQ l C i=true) (λi=>4000000*(C.length-i))
def rj2(l:Y15)(C:dW)(g i j m:IV):Inv':=dL (Nat×Nat) (λx=>[(1,.v (.vslice none 0 C.length 3 (C.flatMap cL))),(2,.l 2 0),(4,.v (.bool false)),(5,.v (.vslice none 0 l.length 2 ((rG l (kSI C)).flatMap cR))),(6,.v (.int .i64 (x.1:Int))),(7,.v (.int .i64 (x.2:Int)))]) (λ_=>[(2,[g,i,.vslice none 0 (l).length 3 ((l).flatMap cN),j,m])]) (λ_=>Heap.empty) (λx=>x.1<C.length/\vQ l C x.1=true/\x.2<=x.1/\fW (C.take x.2) (C.getD x.1 (0,(0,0))).1=false) (λx=>4000000*(C.length-x.1)-x.2)
def b9B(xs:Y14)(h:Heap)(K:KT):Prop:=match xs with
 | [.agg [g0,g1,.vslice none e0 n 3 c,g3,g4],.vslice none e1 n1 3 c1]=> ∃(l:Y15)(C:dW),(n=l.length/\c=l.flatMap cN/\n1=C.length/\c1=C.flatMap cL)/\(aY g0=true/\aY g1=true/\aY g3=true/\aY g4=true)/\((∀n∈l,aZ n.im/\n.ks.length<=41)/\l.length<=6000)/\((∀p∈C,bE p.1/\cF p.2)/\C.length<=1000000)/\K (.bool (Ba l C)) h
 |_=>False
def Zp(g:Int):=wW (Int.tdiv g 16)
def Tx:=IV.bool false
def P6(C:dW)(l:Y15)(g:Y15)(i:List Iv)(j:Int)(m:Nat)(r:Prop):Prop:=some (TV.v (tK C))=some (TV.v (tK C))/\some (TV.l 2 0)=some (TV.l 2 0)/\some (TV.v Tx)=some (TV.v Tx)/\some (TV.v (.vslice none 0 g.length 2 (List.flatMap cR i)))=some (TV.v (.vslice none 0 l.length 2 (List.flatMap cR (rG l (kSI C)))))/\tI j=tI (m:Int)/\r
def d2V(l:Y15)(g i j m:IV):=[g,i,IV.vslice none 0 l.length 3 (List.flatMap cN l),j,m]
def P7(j:IV)(m:IV)(l:Y15)(r:IV)(u:IV)(g:Prop)(i:Prop):Prop:=some (d2V l j m r u)=some (d2V l j m r u)/\Heap.mk PT.nil 0=Heap.mk PT.nil 0/\g/\i
def e5U(l:Y15)(C:dW)(j m r u:IV)(i:Nat×Nat)(x:Nat):=(∃(g:Nat),P6 C l l (rG l (kSI C)) (wW ((i.1:Int)+1)) g (P7 j m l r u (g<=C.length/\vQ l C g=true) ((4000000:Nat)*(C.length-g)<4000000*(C.length-x))))
def c6G(g:Nat×Nat):=(g.1:Int).toNat*3+0
def b3R(i:Int)(g:Y15):=List.getD g i.toNat default
def Kh(C:dW)(l:Y15)(r:IV)(u:IV)(y:IV)(z:IV)(i:Nat)(j:Int)(m:Nat×Nat->Prop):Prop:= ∃(g:Nat×Nat),P6 C l l (rG l (kSI C)) (i:Int) g.1 (tI j=tI (g.2:Int)/\P7 r u l y z (g.1<C.length/\vQ l C g.1=true/\g.2<=g.1/\fW (List.take g.2 C) ((List.getD C g.1 ((0:Int),(0:Int),(0:Int))).1)=false) (m g))
def P8(g:Nat×Nat)(C:dW)(Q:KT)(h:Heap)(l:Int->Int->Bool)(m:Prop):Prop:=qG g.1 C ((g.1:Int).toNat*3+1) (λi=>aN .i64 (List.flatMap cL C) ((g.1:Int).toNat*3+1+1) λj=>aK (l i j) (Q Tx h) m)
def Kg(m:Nat)(l:Y14)(g:Int)(j:Int->Prop):Prop:=aF (decide (0<=wW g) &&decide (wW g< (m:Int))) (aN .i64 l ((wW g).toNat*1) λi=>j i)
theorem f2X(l:Y15)(C:dW)(D G K L:IV)(e0 e1:Nat)(h:Heap)(Q:KT):dF (aU e7X) env 29 cC (zE 4 (rj1 l C D G K L) (mJ 1000007 (rj2 l C D G K L))) bD [.agg [D,G,.vslice none e0 (l).length 3 ((l).flatMap cN),K,L],.vslice none e1 C.length 3 (C.flatMap cL)] h Q=(
 aF (aQ [IV.agg (d2V l D G K L),IV.vslice none 0 C.length 3 (List.flatMap cL C)]) (∃(u:Y15)(z:List (Int×Iv)),(l.length=u.length/\List.flatMap cN l=List.flatMap cN u/\C.length=z.length/\List.flatMap cL C=List.flatMap cL z)/\((∀(n:Nd),n∈u->aZ (Nd.im n)/\List.length (Nd.ks n)<=41)/\u.length<=100000)/\((∀(p:Int×Iv),p∈z->cF p.2)/\z.length<=1099511627776)/\(∃(x:Nat),P6 C l u (rG u (kSI z)) 0 x (P7 D G l K L (x<=C.length/\vQ l C x=true) True))/\∀(x:Nat)(b:FF),x<=C.length/\vQ l C x=true->aK (decide ((x:Int)< (C.length:Int))) (∃(M:Nat),(Kh C l D G K L x 0 (λg=>((4000000:Nat)*(C.length-g.1)-g.2<=M)))/\∀(g:Nat×Nat)(b:FF),g.1<C.length/\vQ l C g.1=true/\g.2<=g.1/\fW (List.take g.2 C) ((List.getD C g.1 ((0:Int),(0:Int),(0:Int))).1)=false->(4000000:Nat)*(C.length-g.1)-g.2<=M->aK (decide ((g.2:Int)< (g.1:Int))) (qG g.2 C ((g.2:Int).toNat*3+0) (λn0=>aF (mD g.1 (C.length:Int)) (aN .i64 (List.flatMap cL C) (c6G g) λn1=>aK (n0==n1) (Q Tx h) (Kh C l D G K L g.1 (wW ((g.2:Int)+1)) (λxa=>((4000000:Nat)*(C.length-xa.1)-xa.2<4000000*(C.length-g.1)-g.2)))))) (qG g.1 C (c6G g) (λn2=>aK (decide (n2<0)) (Q Tx h) (P8 g C Q h (λn3 n4=>(!decide (n3<=n4))) (qG g.1 C (c6G g) (λY=> ∃(j:Y15),(l.length=j.length/\List.flatMap cN l=List.flatMap cN j)/\((∀(xb:Nd),xb∈j->aZ (Nd.im xb)/\List.length (Nd.ks xb)<=41)/\j.length<=100000)/\aF (mD g.1 (C.length:Int)) (aN .i64 (List.flatMap cL C) (c6G g) λZ=>aK (decide (T6 j (Zp Y)<0)) (Q Tx h) (aK (Int.tmod Z 16==0) (Q Tx h) (aF (decide (0<=T6 j (Zp Y)) &&decide (T6 j (Zp Y)< (l.length:Int))) (bM 1 (List.flatMap cN l) ((T6 j (Zp Y)).toNat*3+2) λi7 e8 l9 a6=>aK (decide (Int.tmod Z 16>=wW (Int.tdiv (l9:Int) 2))) (Q Tx h) (aF (decide (0<=T6 j (Zp Y)) &&decide (T6 j (Zp Y)< (l.length:Int))) (bM 1 (List.flatMap cN l) ((T6 j (Zp Y)).toNat*3+2) λa8 a7 A O=>Kg A O (wW (wW (Int.tdiv (A:Int) 2)+1)+Int.tmod Z 16) (λy=>aF (decide (0<=Int.tmod Z 16) &&decide (Int.tmod Z 16< (A:Int))) (aN .i64 O ((Int.tmod Z 16).toNat*1) λT=>yA T (decide (0<=T) &&decide (T< (l.length:Int))) (rG l (kSI C)) (λa0 a1=>P8 g C Q h (λa2 a3=>(!ctd (a0,a1) (a2,a3))) (Kg A O (Int.tdiv (A:Int) 2) (λm=>yA y (decide (0<=y) &&decide (y< (l.length:Int))) (rG l (kSI C)) (λV X=> ∃(i:Y15)(R:List Iv),(l.length=i.length/\List.flatMap cN l=List.flatMap cN i/\l.length=R.length/\List.flatMap cR (rG l (kSI C))=List.flatMap cR R)/\((∀(n:Nd),n∈i->aZ (Nd.im n)/\List.length (Nd.ks n)<=41)/\i.length<=100000/\R.length=i.length/\(∀(r:Iv),r∈R->cF r)/\(0<=m/\m< (i.length:Int))/\(Nd.op (b3R m i)=17\/Nd.op (b3R m i)=18\/Nd.op (b3R m i)=19->List.length (Nd.ks (b3R m i))=2/\∀(k:Int),k∈Nd.ks (b3R m i)->0<=k/\k< ((i.length):Int)))/\aK ((jL i (LV.mk 0 0 y m) (V,X) R).2) (P8 g C Q h (λa4 a5=>(!ctd (((jL i (LV.mk 0 0 y m) (V,X) R).1).1,((jL i (LV.mk 0 0 y m) (V,X) R).1).2) (a4,a5))) (e5U l C D G K L g x)) (e5U l C D G K L g x))))))))))))))))))) (Q (.bool true) h))):=by kernel_rfl
theorem f0G: ∀xs h Q,b9B xs h Q->aM env 29 xs h Q:=by
 intro xs h Q hk;unfold b9B at hk;split at hk
 .rename_i g0 g1 e0 n c g3 g4 e1 n1 c1;obtain⟨l,C,⟨rfl,rfl,rfl,rfl⟩,hp,hl,hC,hk⟩:=hk;refine aL (e8Y) (f2X l C g0 g1 g3 g4 e0 e1 h Q) ?_;delta d2V tK Tx P6 P7 Kh mD qG c6G P8 Zp Kg yA b3R e5U tI wW; (try dsimp -iota -proj only);have D: ∀x:Nat,(x:Int).toNat=x:=AK
  obtain⟨hn,b9⟩:=hl;obtain⟨p0,p1,p3,p4⟩:=hp;have b0: ∀n∈l,aZ n.im:=λn h=>(hn n h).1
  have a4:(∀n∈l,aZ n.im/\n.ks.length<=41)/\l.length<=100000:=⟨hn,JZ⟩;have a3:(∀p∈C,cF p.2)/\C.length<=1099511627776:=⟨λp hp=>(hC.1 p hp).2,JZ⟩;have a9:=Ag b0 (W3 a3.1);have a5:=rS l (kSI C);have b7:=hC.2;have a2: ∀z:Nat,z<=1000000000->some (TV.v (IV.int IntKind.i64 (IntKind.i64.wrap ((z:Int)+1))))=some (TV.v (IV.int IntKind.i64 ((z+1:Nat):Int))):=λz h=>by rw [AA _ JZ];rfl
  refine aA (by simp only [aQ,aY,bX,eY,p0,p1,p3,p4,AN,EI]) ⟨l,C,⟨rfl,rfl,rfl,rfl⟩,a4,a3,⟨0,KD,KD,KD,KD,KD,KD,KD,⟨AR _,KD⟩,KD⟩,?_⟩;rintro i0 _ ⟨b8,T⟩;refine cV (λc0=>?_) (λc0=>?_)
  rotate_left
  .have e:i0=C.length:=JZ;rw [show Ba l C=true by unfold Ba;rw [<-e];exact T]at hk;exact hk
  refine⟨4000000*(C.length-i0),⟨(i0,0),KD,KD,KD,KD,KD,KD,KD,KD,⟨JZ,T,AR _,KD⟩,AF _⟩,?_⟩;rintro⟨i,k⟩ _ ⟨G,L,b1,O⟩ hM;dsimp only at G L b1 O hM⊢;have gC:C.getD i (0,(0,0))=C[i]:=bO G;rw [gC]at O;have m:Ls l C i=false->Q (.bool false) h:=λe=>by
   rw [c8C G e]at hk;exact hk
  have A:=λ(j:Nat)(hj:j<3)=>(gA G j hj)
  have V:(0:Int)<=(i:Int)/\(i:Int)< (C.length:Int):=⟨JZ,JZ⟩;refine cV (λc=>?_) (λc=>?_)
  .have u:k<C.length:=JZ;refine aP ⟨JZ,JZ⟩ (aR (n:=(C[k]).1) (by rw [D];exact gA u 0 KA) (aP V (aR (n:=(C[i]).1) (by rw [D];exact A 0 KA) (aB (λe=>m ?_) (λe=>?_)))))
   .refine c9H ?_;rw [gC];exact Qv (a:=k+1) JZ (by rw [Dt u,decide_eq_true (beq_iff_eq.1 e),GH])
   .exact⟨(i,k+1),KD,KD,KD,KD,KD,a2 k JZ,KD,KD,⟨G,L,KE,by
     dsimp only;rw [gC,Dt u,O,decide_eq_false (beq_eq_false_iff_ne.1 e)];rfl⟩,KE⟩
  obtain rfl:k=i:=JZ;obtain⟨b5,d2⟩:=hC.1 _ (AG G);generalize hvv:(C[k]).1=v at*
  refine aP V (aR (n:=v) (by rw [D,<-hvv];exact A 0 KA) (cV (λc1=>m (I1 (by rw [gC,hvv];exact Bx (.inl c1)))) (λc1=>aP V (aR (n:=(C[k]).2.1) (by rw [D];exact A 1 KA) (aR (n:=(C[k]).2.2) (by rw [D];exact A 2 KA) (aB (λc2=>m (c9I (by rw [gC];simpa using c2))) (λc2=>aP V (aR (n:=v) (by rw [D,<-hvv];exact A 0 KA) ⟨l,⟨rfl,rfl⟩,a4,aP V (aR (n:=v) (by rw [D,<-hvv];exact A 0 KA) ?_)⟩))))))));have b4:(C[k]).2.1<=(C[k]).2.2:=by simpa using c2
  have ed:IntKind.i64.wrap (Int.tdiv v 16)=v/16:=by
   unfold bE at b5;rw [BQ JZ,AA _ JZ]
  have em:Int.tmod v 16=v%16:=CH JZ;rw [ed,em];refine cV (λc3=>m (I1 (by rw [gC,hvv];exact Bx (.inr (.inl c3))))) (λc3=>aB (λc4=>m (I1 (by rw [gC,hvv];exact Bx (.inr (.inr (.inl (beq_iff_eq.1 c4))))))) (λc4=>?_));have b6:v%16≠0:=beq_eq_false_iff_ne.1 c4;obtain⟨g,a0⟩: ∃a:Nat,T6 l (v/16)=(a:Int):=⟨(T6 l (v/16)).toNat,JZ⟩
  obtain⟨j,hj⟩: ∃j:Nat,v%16=(j:Int):=⟨(v%16).toNat,JZ⟩
  have a1:g<l.length:=by
   have:T6 l (v/16)= -1\/ (0<=T6 l (v/16)/\T6 l (v/16)<l.length):=a3O l (v/16) l.length;omega
  have vn:=λ(z:(((l.getD (T6 l (v/16)).toNat default).ks.length/2:Nat):Int)<=v%16)=>Bx (l:=l) (v:=v) (.inr (.inr (.inr z)))
  rw [a0,D]at vn;have a6:l.getD g default=l[g]:=bO a1;have b2:(l.getD g default).ks.length<=41:=by rw [a6];exact(hn _ (AG a1)).2
  have lK: ∀{K:Y10->Nat->Nat->Y14->Prop},K none 0 (l.getD g default).ks.length ((l.getD g default).ks.map (IV.int .i64))->bM 1 (l.flatMap cN) (g*3+2) K:=λq=>lP (by rw [pD a1 KA,<-a6];rfl) q
  have t2:IntKind.i64.wrap (Int.tdiv ((l.getD g default).ks.length:Int) 2)=(((l.getD g default).ks.length/2:Nat):Int):=by
   rw [BQ JZ,AA _ JZ];omega
  rw [a0,hj,D];refine aP ⟨JZ,JZ⟩ (lK ?_);rw [t2];refine cV (λc5=>m (I1 (by rw [gC,hvv];exact vn JZ))) (λc5=>?_);obtain⟨hX,a7⟩:=d2H JZ a0 hj JZ (by omega:j< (l.getD g default).ks.length/2);have r:=e1I G (by rw [hvv];exact a7) (by rw [hvv];exact O) b4;have c9:=(gJ hX.s).odd;obtain⟨⟨f0,f1⟩,⟨n0,n1⟩,⟨d0,d1,ds⟩⟩:=hX.lvs;generalize hx:aX (l.getD g default) j=x at*
  have ef:x.f=(l.getD g default).ks.getD j 0:=by rw [<-hx];rfl
  have en:x.n=(l.getD g default).ks.getD ((l.getD g default).ks.length/2+1+j) 0:=by
   rw [<-hx];show(l.getD g default).ks.getD (((l.getD g default).ks.length-1)/2+1+j) 0=_;rw [show((l.getD g default).ks.length-1)/2=(l.getD g default).ks.length/2 by omega]
  have a8:x.d=(l.getD g default).ks.getD ((l.getD g default).ks.length/2) 0:=by
   rw [<-hx];show(l.getD g default).ks.getD (((l.getD g default).ks.length-1)/2) 0=_;rw [show((l.getD g default).ks.length-1)/2=(l.getD g default).ks.length/2 by omega]
  generalize(l.getD g default).ks=ks at*
  have hw: ∀z:Nat,z<=1000->IntKind.i64.wrap (z:Int)=(z:Int):=λz h=>AA _ JZ
  refine aP ⟨JZ,JZ⟩ (lK ?_);rw [t2,show((ks.length/2:Nat):Int)+1=((ks.length/2+1:Nat):Int)from rfl,hw _ JZ,show((ks.length/2+1:Nat):Int)+(j:Int)=((ks.length/2+1+j:Nat):Int)from rfl,hw _ JZ];simp only [D,AM];refine aP ⟨JZ,JZ⟩ (aR (n:=x.n) (by rw [en];exact kAt JZ) (aP ⟨JZ,JZ⟩ (aR (n:=x.f) (by rw [ef];exact kAt JZ) (aP ⟨f0,f1⟩ (aR (rAt (R:=rG l (kSI C)) f0 JZ).1 (aR (rAt (R:=rG l (kSI C)) f0 JZ).2 (aP V (aR (n:=(C[k]).2.1) (A 1 KA) (aR (n:=(C[k]).2.2) (A 2 KA) (aB (λc6=>m ?_) (λc6=>?_)))))))))))
  .rw [r];have X:ctd (gR (rG l (kSI C)) x.f) (C[k]).2=false:=by simpa using c6
   rw [X,CN]
  have X:ctd (gR (rG l (kSI C)) x.f) (C[k]).2=true:=by simpa using c6
  rw [X,BD]at r;refine aP ⟨JZ,JZ⟩ (aR (n:=x.d) (by rw [a8];exact kAt JZ) (aP ⟨n0,n1⟩ (aR (rAt (R:=rG l (kSI C)) n0 JZ).1 (aR (rAt (R:=rG l (kSI C)) n0 JZ).2 ⟨l,rG l (kSI C),⟨rfl,rfl,a5.symm,rfl⟩,⟨hn,JZ,a5,λy hy=>?_,⟨d0,d1⟩,λo=>?_⟩,aB (λc7=>aP V (aR (n:=(C[k]).2.1) (A 1 KA) (aR (n:=(C[k]).2.2) (A 2 KA) (aB (λc8=>m ?_) (λc8=>?_))))) (λc7=>?_)⟩))))
  .obtain⟨q2,b3,rfl⟩:=DK.1 hy;have:=(a9 q2 JZ).2;rw [bO b3]at this;exact this
  .obtain⟨z1,z2⟩:=mY (by omega:x.d.toNat<l.length) ds;have hD:l.getD x.d.toNat default=l[x.d.toNat]'JZ:=bO JZ;rw [hD]at o⊢;rcases z2 with⟨d3,_⟩| ⟨_,_,_,ha,_⟩
   .omega
   .unfold ar at ha;rw [if_neg JZ,if_neg JZ,if_pos JZ]at ha;exact⟨JZ,λk u=>by have:=z1 k u;omega⟩
  .have Y:(jL l x (gR (rG l (kSI C)) x.n) (rG l (kSI C))).2=true:=c7;have Z:ctd (jL l x (gR (rG l (kSI C)) x.n) (rG l (kSI C))).1 (C[k]).2=false:=by
    rw [BS]at c8;exact c8
   rw [r,Y,Z];rfl
  .have Z:ctd (jL l x (gR (rG l (kSI C)) x.n) (rG l (kSI C))).1 (C[k]).2=true:=by
    rw [CA]at c8;exact c8
   rw [Z,GH]at r;exact⟨k+1,KD,KD,KD,KD,a2 k JZ,KD,KD,⟨G,by show(vQ l C k&&Ls l C k)=true;rw [L,r];rfl⟩,JZ⟩
  .have Y:(jL l x (gR (rG l (kSI C)) x.n) (rG l (kSI C))).2=false:=c7;rw [Y]at r;exact⟨k+1,KD,KD,KD,KD,a2 k JZ,KD,KD,⟨G,by show(vQ l C k&&Ls l C k)=true;rw [L,r];rfl⟩,JZ⟩
 .exact hk.elim
def a3D(xs:Y14)(h:Heap)(K:KT):Prop:=match xs with
 | [x]=>d9X [x] h K
 |_=>False
theorem e3L: ∀xs h Q,a3D xs h Q->aM env 9 xs h Q:=by
 intro xs h Q hk;unfold a3D at hk;split at hk
 .exact f5Z _ _ _ hk
 .exact hk.elim
def b6S:=aV 9 a3D d4G
theorem c9V:aS env b6S:=aE e3L (e1J)
def b7Y(xs:Y14)(h:Heap)(K:KT):Prop:=match xs with
 | []=>d9J [] h K
 |_=>False
theorem e9G: ∀xs h Q,b7Y xs h Q->aM env 25 xs h Q:=by
 intro xs h Q hk;unfold b7Y at hk;split at hk
 .exact f5L _ _ _ hk
 .exact hk.elim
def d4E:=aV 25 b7Y b6S
theorem e1G:aS env d4E:=aE e9G (c9V)
def b8N(xs:Y14)(h:Heap)(K:KT):Prop:=match xs with
 | [x,y,z]=>b8M [x,y,z] h K
 |_=>False
theorem e9T: ∀xs h Q,b8N xs h Q->aM env 10 xs h Q:=by
 intro xs h Q hk;unfold b8N at hk;split at hk
 .exact e9S _ _ _ hk
 .exact hk.elim
def d4H:=aV 10 b8N d4E
theorem e1K:aS env d4H:=aE e9T (e1G)
def b8O(xs:Y14)(h:Heap)(K:KT):Prop:=match xs with
 | [x,y]=>Rk [x,y] h K
 |_=>False
theorem e9U: ∀xs h Q,b8O xs h Q->aM env 11 xs h Q:=by
 intro xs h Q hk;unfold b8O at hk;split at hk
 .exact d0L _ _ _ hk
 .exact hk.elim
def d4I:=aV 11 b8O d4H
theorem e1L:aS env d4I:=aE e9U (e1K)
def a2U(xs:Y14)(h:Heap)(K:KT):Prop:=match xs with
 | [x]=>Rn [x] h K
 |_=>False
theorem e3D: ∀xs h Q,a2U xs h Q->aM env 27 xs h Q:=by
 intro xs h Q hk;unfold a2U at hk;split at hk
 .exact c3R _ _ _ hk
 .exact hk.elim
def b6A:=aV 27 a2U d4I
theorem c9S:aS env b6A:=aE e3D (e1L)
def a2T(xs:Y14)(h:Heap)(K:KT):Prop:=match xs with
 | [x,y]=>b9B [x,y] h K
 |_=>False
theorem e3C: ∀xs h Q,a2T xs h Q->aM env 29 xs h Q:=by
 intro xs h Q hk;unfold a2T at hk;split at hk
 .exact f0G _ _ _ hk
 .exact hk.elim
def b5Z:=aV 29 a2T b6A
theorem c9R:aS env b5Z:=aE e3C (c9S)
def a2V(xs:Y14)(h:Heap)(K:KT):Prop:=match xs with
 | [x,y]=>a7B [x,y] h K
 |_=>False
theorem e3E: ∀xs h Q,a2V xs h Q->aM env 32 xs h Q:=by
 intro xs h Q hk;unfold a2V at hk;split at hk
 .exact d6Q _ _ _ hk
 .exact hk.elim
def b6C:=aV 32 a2V b5Z
theorem c9T:aS env b6C:=aE e3E (c9R)
def b9T(xs:Y14)(h:Heap)(K:KT):Prop:=match xs with
 | [x,y]=>c8G [x,y] h K
 |_=>False
theorem f0W: ∀xs h Q,b9T xs h Q->aM env 28 xs h Q:=by
 intro xs h Q hk;unfold b9T at hk;split at hk
 .exact f0V _ _ _ hk
 .exact hk.elim
def d4L:=aV 28 b9T b6C
theorem e1O:aS env d4L:=aE f0W (c9T)
def b9U(xs:Y14)(h:Heap)(K:KT):Prop:=match xs with
 | [x,y]=>c8H [x,y] h K
 |_=>False
theorem f0Y: ∀xs h Q,b9U xs h Q->aM env 30 xs h Q:=by
 intro xs h Q hk;unfold b9U at hk;split at hk
 .exact f0X _ _ _ hk
 .exact hk.elim
def d4M:=aV 30 b9U d4L
theorem e1P:aS env d4M:=aE f0Y (e1O)
abbrev GrT:=Y11×Int×Y15×Int×Int
def gL(x:GrT):Y14:=[.str x.1,.int .i64 x.2.1,.vslice none 0 x.2.2.1.length 3 (x.2.2.1.flatMap cN),.int .i64 x.2.2.2.1,.int .i64 x.2.2.2.2]
theorem d4W{cs:Y14}{K:Y11->Prop}{s:Y11}(e:cs[i]?=some (.str s))(hk:K s):dU cs i K:=by
 unfold dU;rw [e];exact hk
theorem d4S: ∀{L:List GrT}{i:Nat}(h:i<L.length)(j:Nat),j<5->(L.flatMap gL)[i*5+j]?=(gL L[i])[j]?
 |x::r,0,_,j,hj=>by
  rw [BF,BM (by show 0*5+j<5;omega)];simp
 |x::r,i+1,h,j,hj=>by
  rw [BF,BC (by show 5<=(i+1)*5+j;omega)];have:(i+1)*5+j- (gL x).length=i*5+j:=by show(i+1)*5+j-5=_;omega
  rw [this,d4S (by simpa using h) j hj];rfl
structure LzX where
 i:Nat
 gs:List GrT
 C:dW
def lz1:Inv':=dL LzX (λx=>[(10,.v (.bool false)),(14,.v (.vslice none 0 x.C.length 3 (x.C.flatMap cL))),(46,.v (.vslice none 1 3 5 (x.gs.flatMap gL))),(47,.v (.int .i64 3)),(48,.v (.int .i64 (x.i:Int)))]) (λ_=>[]) (λ_=>Heap.empty)
 (λx=>x.i<=3/\x.gs.length=3/\(∀g∈x.gs,(∀n∈g.2.2.1,aZ n.im/\n.ks.length<=41)/\g.2.2.1.length<=6000)/\(∀p∈x.C,bE p.1/\cF p.2)/\x.C.length<=4) (λx=>3-x.i)
def d4V(xs:Y14)(h:Heap)(K:KT):Prop:=match xs with
 | [.vslice none e1 n1 1 c1,.int .i64 how,.int .i64 at_,.vslice none e2 n2 1 c2,.vslice none e3 n3 2 c3]=> ∃(l m:Y12)(Z:IvS),(n1=l.length/\c1=l.map (IV.int .i64)/\n2=m.length/\c2=m.map (IV.int .i64)/\n3=Z.length/\c3=Z.flatMap cR)/\((∀x∈l,bE x)/\l.length<=9223372036854775807/\(∀x∈m,bE x)/\m.length<=9223372036854775807/\(bE how/\bE at_)/\∀r∈Z,cF r)/\K (.bool true) h
 |_=>False
def z6a(l:Y12):=if 30< (l.length:Int)then(30:Int)else(l.length:Int)
def z6b:=IV.int .i64
def z6c(g:LzX):=List.flatMap gL (LzX.gs g)
def If(j:LzX):Prop:= ∀(g:GrT),g∈LzX.gs j->(∀(i:Nd),i∈g.2.2.1->aZ (Nd.im i)/\List.length (Nd.ks i)<=41)/\g.2.2.1.length<=6000
def Ie(g:LzX)(l:dW)(m:IV)(r:Int)(u:Prop):Prop:=some (TV.v (.bool false))=some (TV.v (.bool false))/\some (TV.v (.vslice none 0 l.length 3 (List.flatMap cL l)))=some (TV.v (.vslice none 0 ((LzX.C g).length) 3 (List.flatMap cL (LzX.C g))))/\some (TV.v m)=some (TV.v (.vslice none 1 3 5 (List.flatMap gL (LzX.gs g))))/\tI 3
 =tI 3/\tI r=tI ((LzX.i g):Int)/\Heap.mk PT.nil 0=Heap.mk PT.nil 0/\(LzX.i g<=3/\List.length (LzX.gs g)=3/\(If g)/\(∀(j:Int×Iv),j∈LzX.C g->bE j.1/\cF j.2)/\List.length (LzX.C g)<=4)/\u
def pU(l:Y11)(j:Int)(g:Int)(i:Int):Prop:=aY (IV.str l)=true/\aY (iI j)=true/\aY (iI g)=true/\aY (iI i)=true
def sZ(i:Y15)(j:Nat):Prop:=(∀(g:Nd),g∈i->aZ (Nd.im g)/\List.length (Nd.ks g)<=41)/\i.length<=j
def sY(g:Y15)(N:Nat)(i:List (Int×Iv)):Prop:=(mW (aI g) ((eT g (aI g) N).1)).length=i.length/\List.flatMap cL (mW (aI g) ((eT g (aI g) N).1))=List.flatMap cL i
def xL(l:Nat)(j:Y14)(m:LzX)(g:Y15)(i:List (Int×Iv)):Prop:=l=g.length/\j=List.flatMap cN g/\List.length (LzX.C m)=i.length/\List.flatMap cL (LzX.C m)=List.flatMap cL i
def Yu(i:List (Int×Iv)):Prop:= ∀(g:Int×Iv),g∈i->cF g.2
def pV(g:List (Int×Iv)):Prop:=(Yu g)/\g.length<=1099511627776
theorem f3M(l m:Y12)(a9 u:Int)(Z:IvS)(e1 e2 e3:Nat)(h:Heap)(Q:KT):dF (aU d4M) env 6 cC (mJ 8 lz1) bD [.vslice none e1 (l).length 1 ((l).map (IV.int .i64)),.int .i64 a9,.int .i64 u,.vslice none e2 (m).length 1 ((m).map (IV.int .i64)),.vslice none e3 Z.length 2 (Z.flatMap cR)] h Q=(
 aF (aQ [IV.vslice none 0 l.length 1 (List.map z6b l),iI a9,iI u,IV.vslice none 0 m.length 1 (List.map z6b m),IV.vslice none 0 Z.length 2 (List.flatMap cR Z)]) (aF (true&& (decide ((0:Int)<=if 30< (l.length:Int)then(30:Int)else(l.length:Int)) &&decide ((z6a l)<=(l.length:Int)))) (∃(b0:Y12),((z6a l).toNat-0=b0.length/\List.take (((z6a l).toNat-0)*1) (List.drop 0 (List.map z6b l))=List.map z6b b0)/\(∀(x:Int),x∈b0->bE x)/\∀(ac fc gc:Y14),vR ac fc->a1W gc->((0:Int)<2/\(2:Int)<4611686018427387904)/\aF (decide (0<=u% (2:Int)) &&decide (u% (2:Int)<2)) (dU gc ((u% (2:Int)).toNat*(5:Nat)) λs0=>aN .i64 gc ((u% (2:Int)).toNat*5+1) λn1=>bM 3 gc ((u% (2:Int)).toNat*5+1+1) λi2 e3 l4 c5=>aN .i64 gc ((u% (2:Int)).toNat*5+1+1+1) λn6=>aN .i64 gc ((u% (2:Int)).toNat*5+1+1+1+1) λn7=> ∃(D:Y15),(l4=D.length/\c5=List.flatMap cN D)/\((∀(xa:Nd),xa∈D->bE (Nd.op xa)/\bE (Nd.im xa)/\List.length (Nd.ks xa)<=40)/\1<=D.length/\D.length<=2000)/\(bE a9/\bE (wW (Int.tdiv u 2)))/\∀(xb:Y15),PGm xb->1<=xb.length-> ∃(b2:Y12)(a8:List Iv),(m.length=b2.length/\List.map z6b m=List.map z6b b2/\Z.length=a8.length/\List.flatMap cR Z=List.flatMap cR a8)/\((∀(x:Int),x∈b2->bE x)/\∀(r:Iv),r∈a8->cF r)/\∀(C:dW),(∀(p:Int×Iv),p∈C->bE p.1/\cF p.2)->List.length C<=4-> ∃(l:Y12),(m.length=l.length/\List.map z6b m=List.map z6b l)/\((∀(x:Int),x∈l->bE x)/\l.length<=9223372036854775807)/\∀(b3:Y15),NW 14 b3->(∃(a5:LzX),Ie a5 C (IV.vslice none 1 3 5 [IV.str s0,iI n1,IV.vslice none 0 l4 3 c5,iI n6,iI n7,IV.str s0,iI n1,IV.vslice none 0 xb.length 3 (List.flatMap cN xb),iI n6,iI n7,IV.str [],iI 0,IV.vslice none 0 b3.length 3 (List.flatMap cN b3),iI 0,iI 0]) 0 True)/\∀(j:LzX)(b:FF),LzX.i j<=3/\List.length (LzX.gs j)=3/\(If j)/\(∀(p:Int×Iv),p∈LzX.C j->bE p.1/\cF p.2)/\List.length (LzX.C j)<=4->aK (decide (((LzX.i j):Int)<3)) (aF (decide (0<=((LzX.i j):Int)) &&decide (((LzX.i j):Int)<3)) (dU (z6c j) (((LzX.i j):Int).toNat*5) λs8=>aN .i64 (z6c j) (((LzX.i j):Int).toNat*5+1) λn9=>bM 3 (z6c j) (((LzX.i j):Int).toNat*5+1+1) λb5 b4 z y=>aN .i64 (z6c j) (((LzX.i j):Int).toNat*(5:Nat)+1+1+1) λO=>aN .i64 (z6c j) (((LzX.i j):Int).toNat*5+1+1+1+1) λR=> ∃(D:Y15),(z=D.length/\y=List.flatMap cN D)/\(pU s8 n9 O R)/\(sZ D 6000)/\∀(N:Nat),(∀(ma:Nat),ma<N->Prod.snd (eT D (aI D) ma)=true)->Prod.snd (eT D (aI D) N)=false-> ∃(g:Y15),(z=g.length/\y=List.flatMap cN g)/\(pU s8 n9 O R)/\Lv g/\(∀(n:Nd),n∈g->aZ (Nd.im n))/\∀(a1:Nat),(∀(ma:Nat),ma<a1->Prod.snd (eT g (aI g) ma)=true)->Prod.snd (eT g (aI g) a1)=false-> ∃(A:List (Int×Iv)),((mW (aI g) ((eT g (aI g) a1).1)).length=A.length/\List.flatMap cL (mW (aI g) ((eT g (aI g) a1).1))=List.flatMap cL A/\sY D N A)/\A.length<=1099511627776/\∃(a2:Y15)(K:List (Int×Iv)),(xL z y j a2 K)/\(pU s8 n9 O R)/\Lv a2/\(∀(n:Nd),n∈a2->aZ (Nd.im n))/\(pV K)/\∃(b1:Y15)(Y:List (Int×Iv)),(xL z y j b1 Y)/\(pU s8 n9 O R)/\(sZ b1 6000)/\((∀(p:Int×Iv),p∈Y->bE p.1/\cF p.2)/\Y.length<=1000000)/\aK (!Ba a2 K==Ba b1 Y) (Q (.bool false) h) (∃(V:Y15)(K:List (Int×Iv)),(z=V.length/\y=List.flatMap cN V/\sY D N K)/\(pU s8 n9 O R)/\Lv V/\(∀(n:Nd),n∈V->aZ (Nd.im n))/\(pV K)/\∃(a3:Y15)(a0:List (Int×Iv)),(z=a3.length/\y=List.flatMap cN a3/\sY D N a0)/\(pU s8 n9 O R)/\(sZ a3 6000)/\((∀(p:Int×Iv),p∈a0->bE p.1/\cF p.2)/\a0.length<=1000000)/\aK (!Ba V K==Ba a3 a0) (Q (.bool false) h) (∃(X:Y15)(K:List (Int×Iv)),(xL z y j X K)/\Lv X/\(∀(n:Nd),n∈X->aZ (Nd.im n))/\(pV K)/\∃(a4:Y15)(a6:List (Int×Iv)),(xL z y j a4 a6)/\(sZ a4 100000)/\(pV a6)/\∃(T:List Iv),(X.length=T.length/\List.flatMap cR (rG X (kSI K))=List.flatMap cR T/\a4.length=T.length/\List.flatMap cR (rG a4 (kSI a6))=List.flatMap cR T)/\T.length<=1099511627776/\∃(L:Y15)(K:List (Int×Iv)),(z=L.length/\y=List.flatMap cN L/\sY D N K)/\Lv L/\(∀(n:Nd),n∈L->aZ (Nd.im n))/\(pV K)/\∃(G:Y15)(a7:List (Int×Iv)),(z=G.length/\y=List.flatMap cN G/\sY D N a7)/\(sZ G 100000)/\(pV a7)/\∃(T:List Iv),(L.length=T.length/\List.flatMap cR (rG L (kSI K))=List.flatMap cR T/\G.length=T.length/\List.flatMap cR (rG G (kSI a7))=List.flatMap cR T)/\T.length<=1099511627776/\∃(a5:LzX),Ie a5 (LzX.C j) (IV.vslice none 1 3 5 (z6c j)) (wW (((LzX.i j):Int)+1)) ((3:Nat)-LzX.i a5<3-LzX.i j))))) (Q (.bool true) h))))):=by kernel_rfl
theorem f0T: ∀xs h Q,d4V xs h Q->aM env 6 xs h Q:=by
 intro xs h Q hk;unfold d4V at hk;split at hk
 .rename_i e1 n1 c1 c4 D e2 n2 c2 e3 n3 c3;obtain⟨l,m,Z,⟨rfl,rfl,rfl,rfl,rfl,rfl⟩,hb,hk⟩:=hk;refine aL (e1P) (f3M l m c4 D Z e1 e2 e3 h Q) ?_;delta z6b z6a If Ie z6c pU sZ sY xL Yu pV tI wW iI;have tn: ∀x:Nat,(x:Int).toNat=x:=AK
  obtain⟨b9,c8,hm,c0,⟨hh,ha⟩,hZ⟩:=hb;have ek:Int.toNat (if 30< (l.length:Int)then 30 else(l.length:Int))=min l.length 30:=by split<;>omega
  rw [ek];refine aA (by simp only [aQ,aY,bL,pM,AN,EI]) (aA ?_ ⟨l.take (min l.length 30),⟨?_,?_⟩,λx hx=>b9 x (DY hx),λac fc gc hp hg=>⟨KA,?_⟩⟩)
  .rw [BD];exact c7K ⟨by split<;>omega,by split<;>omega⟩
  .rw [AW];omega
  .rw [IM,AM,DB,FA]
  have hw:0<=D%2/\D%2<2:=JZ;obtain⟨g,hG,K⟩:=c8D hg (q:=(D%2).toNat) JZ;have X: ∀n∈g.ns,bE n.op/\bE n.im/\n.ks.length<=40:=hG.gl
  obtain⟨a6,a7⟩:=hG.ln;refine aP hw (d4W (K 0 KA) (aR (K 1 KA) (lP (K 2 KA) (aR (K 3 KA) (aR (K 4 KA) ⟨g.ns,⟨rfl,rfl⟩,⟨X,a6,a7⟩,⟨hh,?_⟩,λy hy c9=>⟨m,Z,⟨rfl,rfl,rfl,rfl⟩,⟨hm,hZ⟩,λC hC Y=>⟨m,⟨rfl,rfl⟩,⟨hm,c0⟩,λz hz=>⟨⟨⟨0,[(g.nm,g.np,g.ns,g.v,g.st),(g.nm,g.np,y,g.v,g.st),([],0,z,0,0)],C⟩,KD,KD,KD,KD,KD,KD,⟨AR _,rfl,λq hq=>?_,hC,Y⟩,KD⟩,?_⟩⟩⟩⟩)))))
  .unfold bE at ha⊢;have h2: -9223372036854775808<=Int.tdiv D 2/\Int.tdiv D 2<=9223372036854775807:=by
    rcases Int.le_total 0 D with q|q
    .rw [BQ q];omega
    .have e:Int.tdiv D 2= -(Int.tdiv (-D) 2):=by rw [JT,Int.neg_neg]
     rw [e,BQ JZ];omega
   rw [AA (Int.tdiv D 2) JZ];exact h2
  .have d1:=hz.1.2;have d0:=hy.2;simp only [CD,DW,or_false]at hq;rcases hq with rfl|rfl|rfl
   .exact⟨λn R=>⟨(X n R).2.1,by have:=(X n R).2.2;omega⟩,KE⟩
   .exact⟨λn R=>⟨(hy.1 n R).2.1,(hy.1 n R).2.2⟩,KE⟩
   .exact⟨λn R=>⟨(hz.2.1 n R).1.2.1,by have:=(hz.2.1 n R).2.1;omega⟩,KE⟩
  clear K X a7 a6 hG;rintro⟨i,gs,C⟩ _ ⟨hi,b0,a5,hC,Y⟩;dsimp only at hi b0 a5 hC Y⊢;refine cV (λc=>?_) (λc=>hk);have b2:i<gs.length:=JZ;obtain⟨G,V⟩:=a5 _ (AG b2);have cA:=λj (hj:j<5)=>d4S b2 j hj
  generalize hx:gs[i]=x at G V cA;obtain⟨c6,b3,u,v2,b4⟩:=x;dsimp only at G V cA;have T:Lv u:=⟨JZ,λn R=>(G n R).2⟩;have L: ∀n∈u,aZ n.im:=λn R=>(G n R).1
  have O:aY (IV.str c6)=true/\aY (IV.int .i64 b3)=true/\aY (IV.int .i64 v2)=true/\aY (IV.int .i64 b4)=true:=⟨rfl,rfl,rfl,rfl⟩;have a4:(∀p∈C,cF p.2)/\C.length<=1099511627776:=⟨λp hp=>(hC p hp).2,JZ⟩;have b6:(∀p∈C,bE p.1/\cF p.2)/\C.length<=1000000:=⟨hC,JZ⟩;refine aP ⟨JZ,JZ⟩ (d4W (by rw [tn];exact cA 0 KA) (aR (n:=b3) (by rw [tn];exact cA 1 KA) (lP (by rw [tn];exact cA 2 KA) (aR (n:=v2) (by rw [tn];exact cA 3 KA) (aR (n:=b4) (by rw [tn];exact cA 4 KA) ⟨u,⟨rfl,rfl⟩,O,⟨G,V⟩,λN b8 a9=>⟨u,⟨rfl,rfl⟩,O,T,L,λM b7 a8=>?_⟩⟩)))));obtain rfl:M=N:=by
   rcases HX M N with q|q|q
   .rw [b8 M q]at a8;cases a8
   .exact q
   .rw [b7 N q]at a9;cases a9
  have c7:(mW (aI u) (eT u (aI u) M).1).length<=100000:=by
   have h1:=So (aI u) (eT u (aI u) M).1;have h2:=H6 u;omega
  have b1: ∀p∈mW (aI u) (eT u (aI u) M).1,bE p.1/\cF p.2:=λp hp=>by
   unfold mW at hp;obtain⟨x,c5,a1⟩:=GD.1 hp
   cases e:(eT u (aI u) M).1 x.v with
   |none=>rw [e]at a1;cases a1
   |some r=>
    rw [e]at a1;obtain rfl:(x.v,r)=p:=AV a1;obtain⟨i2,j2,hX⟩:=a7N c5;have hL:=gJ hX.s;have h3:=hL.im;have h4:=hX.jj;have h5:=hL.odd;have ev:x.v=16*(u.getD i2 default).im+(j2:Int):=by rw [hX.e];rfl
    refine⟨?_,(St L M _ _ e).2⟩;unfold bE
    dsimp only;omega
  generalize hK:mW (aI u) (eT u (aI u) M).1=A at*
  have a3:(∀p∈A,cF p.2)/\A.length<=1099511627776:=⟨λp hp=>(b1 p hp).2,JZ⟩;have b5:(∀p∈A,bE p.1/\cF p.2)/\A.length<=1000000:=⟨b1,JZ⟩;have nq: ∀b:Bool,(!b==b)=true->False:=λb q=>by cases b<;>cases q
  have a2:(∀n∈u,aZ n.im/\n.ks.length<=41)/\u.length<=100000:=⟨G,JZ⟩;have a0: ∀C,u.length=(rG u C).length:=λC=>(rS u C).symm
  exact⟨A,⟨rfl,rfl,rfl,rfl⟩,JZ,u,C,⟨rfl,rfl,rfl,rfl⟩,O,T,L,a4,u,C,⟨rfl,rfl,rfl,rfl⟩,O,⟨G,V⟩,b6,aB (λq=>(nq _ q).elim) (λ_=>
   ⟨u,A,⟨rfl,rfl,rfl,rfl⟩,O,T,L,a3,u,A,⟨rfl,rfl,rfl,rfl⟩,O,⟨G,V⟩,b5,aB (λq=>(nq _ q).elim) (λ_=>
   ⟨u,C,⟨rfl,rfl,rfl,rfl⟩,T,L,a4,u,C,⟨rfl,rfl,rfl,rfl⟩,a2,a4,rG u (kSI C),⟨a0 _,rfl,a0 _,rfl⟩,by rw [rS];omega,
    u,A,⟨rfl,rfl,rfl,rfl⟩,T,L,a3,u,A,⟨rfl,rfl,rfl,rfl⟩,a2,a3,rG u (kSI A),⟨a0 _,rfl,a0 _,rfl⟩,by rw [rS];omega,
    ⟨i+1,gs,C⟩,KD,KD,KD,KD,by rw [AA _ JZ];rfl,KD,⟨KE,b0,a5,hC,Y⟩,KE⟩)⟩)⟩
 .exact hk.elim
end Go.Proofs.YtkonebkblgemkaaGreat
end
end
