/-
  Texts of this proof, one after the other.
  Conditions: none.
-/
import Derived.Test.YthimicfahhgpcaaGreatW10
set_option linter.unusedVariables false
set_option linter.unusedSimpArgs false
set_option maxRecDepth 100000
set_option maxHeartbeats 4000000
noncomputable section
variable{i j k m n b q:Nat}{x y z u w:Int}{h g:Go.Pv.Heap}{d l:List Go.Pv.IV}{A B C:List Go.M15.Nd}{K L:Y12}{p s t:Go.Pv.IV}{F:List Go.M10.E}{D:Go.Pv.Meta}{V W:List Go.Value}{U:Go.TypeId}{o:Bool}{X Y:Go.Value}{r e:Y11}{O:Go.Oper}{N:Y10}{H:Array Go.Value}
section
namespace Go.Proofs.YthimicfahhgpcaaGreat
open Go.Pv Go.M13 Go.M15 Go.M10 Go.M14
def LOk(l:Y15):Prop:=l.length<=100000/\∀n∈l,n.ks.length<=40
def ASG(l:Y15)(i id:Nat)(g:Heap)(k0:Y12):Prop:=i<=l.length/\g.get id= .cells (k0.map (IV.int .i64))/\id<g.next/\k0.length=l.length/\k0.take i=(aE l).take i/\∀q,i<=q->k0.getD q 0=0
def c6R(l:Y15):Inv':=eA (Nat×Nat×Heap×Y12) (fun x=>[(0,.v (.vslice none 0 (l).length 3 ((l).flatMap cN))),(3,.v (.hslice x.2.1 0 l.length 1)),(12,.v (.vslice none 0 (l).length 3 ((l).flatMap cN))),(13,.v (.int .i64 (l.length:Int))),(14,.v (.int .i64 (x.1:Int)))]) (fun _=>[]) (fun x=>x.2.2.1) (fun x=>ASG l x.1 x.2.1 x.2.2.1 x.2.2.2/\True) (fun x=>l.length-x.1)
def d5P(l:Y15):Inv':=eA (Nat×Nat×Heap×Y12×Nat×Bool) (fun x=>[(0,.v (.vslice none 0 (l).length 3 ((l).flatMap cN))),(3,.v (.hslice x.2.1 0 l.length 1)),(12,.v (.vslice none 0 (l).length 3 ((l).flatMap cN))),(13,.v (.int .i64 (l.length:Int))),(14,.v (.int .i64 (x.1:Int))),(4,.v (.int .i64 (x.1:Int))),(6,.v (.bool x.2.2.2.2.2)),(20,.v (.vslice none 0 ((l.getD x.1 default).ks).length 1 (((l.getD x.1 default).ks).map (IV.int .i64)))),(21,.v (.int .i64 (l.getD x.1 default).ks.length)),(22,.v (.int .i64 (x.2.2.2.2.1:Int)))]) (fun _=>[]) (fun x=>x.2.2.1)
 (fun x=>ASG l x.1 x.2.1 x.2.2.1 x.2.2.2.1/\x.1<l.length/\x.2.2.2.2.1<=(l.getD x.1 default).ks.length/\x.2.2.2.2.2=!(((l.getD x.1 default).ks.take x.2.2.2.2.1).all (dU (aE (l.take x.1))))) (fun x=>(l.length-x.1)*100+((l.getD x.1 default).ks.length-x.2.2.2.2.1))
def N9(xs:Y14)(h:Heap)(K:KT):Prop:=match xs with
 | [.vslice none e1 n1 3 c1]=> ∃l:Y15,(n1=l.length/\c1=l.flatMap cN)/\LOk l/\K (.vslice none 0 (aE l).length 1 ((aE l).map (IV.int .i64))) h
 |_=>False
def gM(l:Y15):=l.length
def lZ(l:Y15):=TV.v (.vslice none 0 (gM l) 3 (List.flatMap cN l))
def kV(g:Nat×Nat×Heap×Y12×Nat×Bool):=g.2.2
def kM(g:Nat×Nat×Heap×Y12×Nat×Bool):=((kV g).2).2
def mA(l:Y15)(g:Nat×Nat×Heap×Y12×Nat×Bool):=Nd.ks (List.getD l g.1 default)
def yM(l:Y15):=TV.v (.int .i64 ((gM l):Int))
def vI:=IV.int .i64
def sA(x:Nat×Nat×Heap×Y12):=x.2.2
def sB(g:Nat×Nat×Heap×Y12×Nat×Bool):=g.2.1
def Lo(g:Nat×Nat×Heap×Y12×Nat×Bool):=TV.v (.int .i64 (g.1:Int))
def Yg(x:Nat×Nat×Heap×Y12):=TV.v (.int .i64 (x.1:Int))
def Sy(l:Y15)(x:Nat×Nat×Heap×Y12)(j:Nat×Nat×Heap×Y12×Nat×Bool)(m:Heap):Prop:= ∃(g:Nat×Nat×Heap×Y12),some (lZ l)=some (lZ l)/\some (TV.v (.hslice (sB j) 0 (gM l) 1))=some (TV.v (.hslice g.2.1 0 (gM l) 1))/\some (lZ l)=some (lZ l)/\some (yM l)=some (yM l)/\tI (wW ((j.1:Int)+1))=tI (g.1:Int)/\m=g.2.2.1/\
 ((g.1<=l.length/\Heap.get g.2.2.1 g.2.1=IObj.cells (List.map vI g.2.2.2)/\g.2.1<g.2.2.1.next/\g.2.2.2.length=l.length/\List.take g.1 g.2.2.2=List.take g.1 (aE l)/\∀(q:Nat),g.1<=q->List.getD g.2.2.2 q 0=0)/\True)/\l.length-g.1<l.length-x.1
def U0(l:Y15)(j:Nat×Nat×Heap×Y12×Nat×Bool)(m:Bool):Prop:= ∃(g:Nat×Nat×Heap×Y12×Nat×Bool),some (lZ l)=some (lZ l)/\some (TV.v (.hslice (sB j) 0 (gM l) 1))=some (TV.v (.hslice g.2.1 0 (gM l) 1))/\some (lZ l)=some (lZ l)/\some (yM l)=some (yM l)/\some (Lo j)=tI (g.1:Int)/\some (Lo j)
 =tI (g.1:Int)/\some (TV.v (.bool (m)))=some (TV.v (.bool g.2.2.2.2.2))/\some (TV.v (.vslice none 0 ((mA l j).length) 1 (List.map vI (mA l j))))=some (TV.v (.vslice none 0 ((Nd.ks (List.getD l g.1 default)).length) 1 (List.map vI (Nd.ks (List.getD l g.1 default)))))
 /\tI (↑((mA l j).length):Int)=tI (↑((Nd.ks (List.getD l g.1 default)).length):Int)/\tI (wW ((↑((kM j).1):Int)+1))=tI (g.2.2.2.2.1:Int)/\Prod.fst (kV j)=g.2.2.1/\((g.1<=l.length/\Heap.get g.2.2.1 g.2.1=IObj.cells (List.map vI g.2.2.2.1)
 /\g.2.1<g.2.2.1.next/\g.2.2.2.1.length=l.length/\List.take g.1 g.2.2.2.1=List.take g.1 (aE l)/\∀(q:Nat),g.1<=q->List.getD g.2.2.2.1 q 0=0)/\g.1<l.length/\g.2.2.2.2.1<=List.length (Nd.ks (List.getD l g.1 default))/\g.2.2.2.2.2=!List.all (List.take g.2.2.2.2.1
 (Nd.ks (List.getD l g.1 default))) (dU (aE (List.take g.1 l))))/\(l.length-g.1)*100+((Nd.ks (List.getD l g.1 default)).length-g.2.2.2.2.1)< (l.length-j.1)*100+((mA l j).length- (kM j).1)
theorem b2A(l:Y15)(y:Nat)(h:Heap)(Q:KT):dF (aR Nr) env 135 cS (vC 4 (c6R l) (oE 1000008 (d5P l))) bK [.vslice none y (l).length 3 ((l).flatMap cN)] h Q=(
 aC (aP [IV.vslice none 0 (gM l) 3 (List.flatMap cN l)]) (aC (decide (0<=((gM l):Int)) && (decide (((gM l):Int)<=((gM l):Int)) && (decide (((gM l):Int)<=9223372036854775807) &&decide ((8:Int)*((gM l):Int)<=(140737488355328:Int))))) ((∃(x:Nat×Nat×Heap×Y12),some (lZ l)=some (lZ l)/\some (TV.v (.hslice 0 0 (((gM l):Int).toNat) 1))=some (TV.v (.hslice x.2.1 0 (gM l) 1))/\some (lZ l)=some (lZ l)/\some (yM l)=some (yM l)/\tI 0=some (Yg x)/\Heap.mk (PT.node PT.nil (some (IObj.cells (dY (((gM l):Int).toNat) [iI 0]))) PT.nil) ((0:Nat)+1)=(sA x).1/\((x.1<=l.length/\Heap.get ((sA x).1) x.2.1=IObj.cells (List.map vI ((sA x).2))/\x.2.1< ((sA x).1).next/\List.length ((sA x).2)=l.length/\List.take x.1 ((sA x).2)=List.take x.1 (aE l)/\∀(q:Nat),x.1<=q->List.getD ((sA x).2) q 0=0)/\True)/\True)/\∀(x:Nat×Nat×Heap×Y12)(b:FF),ASG l x.1 x.2.1 ((sA x).1) ((sA x).2)/\True->aI (decide ((x.1:Int)< ((gM l):Int))) (aC (decide (0<=((x.1):Int)) &&decide ((x.1:Int)< ((gM l):Int))) (aG .i64 (List.flatMap cN l) ((x.1:Int).toNat*3) fun G=>aG .i64 (List.flatMap cN l) ((x.1:Int).toNat*3+1) fun K=>aZ 1 (List.flatMap cN l) ((x.1:Int).toNat*3+1+1) fun(A:Y10)(z p:Nat)(r:Y14)=> ∃(M:Nat),(∃(g:Nat×Nat×Heap×Y12×Nat×Bool),some (lZ l)=some (lZ l)/\some (TV.v (.hslice x.2.1 0 (gM l) 1))=some (TV.v (.hslice (sB g) 0 (gM l) 1))/\some (lZ l)=some (lZ l)/\some (yM l)=some (yM l)/\some (Yg x)=some (Lo g)/\some (Yg x)=some (Lo g)/\some (TV.v (.bool false))=some (TV.v (.bool ((kM g).2)))/\some (TV.v (IV.vslice A z p 1 r))=some (TV.v (.vslice none 0 ((mA l g).length) 1 (List.map vI (mA l g))))/\tI (p:Int)=tI (↑((mA l g).length):Int)/\tI 0=tI (↑((kM g).1):Int)/\Prod.fst (sA x)=(kV g).1/\((g.1<=l.length/\Heap.get ((kV g).1) (sB g)=IObj.cells (List.map vI (((kV g).2).1))/\g.2.1< ((kV g).1).next/\List.length (((kV g).2).1)=l.length/\List.take g.1 (((kV g).2).1)=List.take g.1 (aE l)/\∀(q:Nat),g.1<=q->List.getD (((kV g).2).1) q 0=0)/\g.1<l.length/\Prod.fst (kM g)<=List.length (mA l g)/\Prod.snd (kM g)=!List.all (List.take ((kM g).1) (mA l g)) (dU (aE (List.take g.1 l))))/\(l.length-g.1)*100+((mA l g).length- (kM g).1)<=M)/\∀(g:Nat×Nat×Heap×Y12×Nat×Bool)(b:FF),ASG l g.1 (sB g) ((kV g).1) (((kV g).2).1)/\g.1<l.length/\Prod.fst (kM g)<=List.length (mA l g)/\Prod.snd (kM g)=!List.all (List.take ((kM g).1) (mA l g)) (dU (aE (List.take g.1 l)))->(l.length-g.1)*100+((mA l g).length- (kM g).1)<=M->aI (decide ((↑((kM g).1):Int)< (↑((mA l g).length):Int))) (aC (decide (0<=(↑((kM g).1):Int)) &&decide ((↑((kM g).1):Int)< (↑((mA l g).length):Int))) (aG .i64 (List.map vI (mA l g)) ((↑((kM g).1):Int).toNat*1) fun m=>aI ((kM g).2) (U0 l g true) (aI (decide (m<0)) (U0 l g true) (aI (decide (m>=(g.1:Int))) (U0 l g true) (aC (decide (0<=m) &&decide (m< ((gM l):Int))) (aJ ((kV g).1) (sB g) fun r7=>aG .i64 r7 ((0:Nat)+m.toNat*1) fun D=>U0 l g (D==0))))))) (aI (!Prod.snd (kM g)) (∃(j:Y15)(i:Nat)(k0:Y12),(l.length=j.length/\List.flatMap cN l=List.flatMap cN j/\(g.1:Int)=(i:Int)/\l.length=k0.length)/\(NGP j i k0/\Heap.get ((kV g).1) (sB g)=IObj.cells (List.map vI k0)/\g.2.1< ((kV g).1).next)/\∀(h2:Heap),h2.get (sB g)=((kV g).1).get (sB g)/\Heap.next ((kV g).1)<=Heap.next h2->aC (decide (0<=(g.1:Int)) &&decide ((g.1:Int)< ((gM l):Int))) (aJ h2 (sB g) fun r9=>aC (Nat.ble ((0:Nat)+(g.1:Int).toNat*1+1) r9.length) (Sy l x g (h2.set (sB g) (IObj.cells (List.take ((0:Nat)+(g.1:Int).toNat*1) r9++ [iI (cA (List.take i j) (aE (List.take i j)) (List.getD j i default))]++List.drop ((0:Nat)+(g.1:Int).toNat*1+1) r9)))))) (Sy l x g ((kV g).1))))) (aJ ((sA x).1) x.2.1 fun(Ng:Y14)=>aC (true&&Nat.ble ((0:Nat)+l.length*1) Ng.length) (aC (aP [IV.vslice none 0 (gM l) 1 (List.take (l.length*1) Ng)]) (Q (.vslice none 0 (gM l) 1 (List.take (l.length*1) Ng)) h)))))):=by kernel_rfl
theorem b0T: ∀xs h Q,N9 xs h Q->aL env 135 xs h Q:=by
 intro xs h Q hk;unfold N9 at hk;split at hk
 ·rename_i e1 n1 c1;obtain⟨l,⟨rfl,rfl⟩,hw,hk⟩:=hk;refine aN (Vx) (b2A l e1 h Q) ?_;delta Sy U0 lZ kM mA yM kV vI sA gM sB Lo Yg tI wW iI;have tn: ∀x:Nat,(x:Int).toNat=x:=AK
  obtain⟨a7,a4⟩:=(show LOk l from hw);refine aA (by simp only [aP,bG,bR,AL]) (aA (by simp;omega) ⟨⟨(0,0,_,List.replicate l.length 0),JJ,(by rw [tn]),JJ,JJ,JJ,JJ,⟨⟨BE _,?_,Nat.one_pos,JH,rfl,fun q _=>?_⟩,trivial⟩,trivial⟩,?_⟩)
  ·show IObj.cells (dY _ _)=_;rw [tn,mW]
  ·rw [List.getD_eq_getElem?_getD,HX];split<;>rfl
  have kn: ∀i,i<l.length->(l.getD i default).ks.length<=40:=fun i hi=>by
   rw [bH hi];exact a4 _ (AH hi)
  rintro⟨i,id,g,k0⟩ _ ⟨ha,_⟩;obtain⟨hi,hg,b3,b4,a5,b5⟩:=(show ASG l i id g k0 from ha);dsimp only;refine gO (fun c=>?_) (fun c=>?_)
  ·have A:i<l.length:=JF;have f1:=kn i A;rw [bH A]at f1;refine aA (by simp;omega) (pK A (by rw [tn]) ⟨(l.length-i)*100+l[i].ks.length,⟨(i,id,g,k0,0,false),JJ,JJ,JJ,JJ,JJ,JJ,JJ,(by dsimp only;rw [bH A]),(by dsimp only;rw [bH A]),JJ,JJ,⟨ha,A,BE _,rfl⟩,by dsimp only;rw [bH A];omega⟩,?_⟩);rintro⟨m,r,g2,k2,j,w⟩ _ ⟨a0,p,hj,D⟩ hM;dsimp only at a0 p hj D hM⊢;obtain⟨b0,X,G,L,O,R⟩:=(show ASG l m r g2 k2 from a0);have f2:=kn m p;have tk:k2.take m=aE (l.take m):=by
    rw [O];obtain⟨t,ht⟩:=lI (ED m l);rw [<-ht,CM (by rw [aY,AR];omega),AM (by rw [aY,AR];omega)]
   refine gO (fun c1=>?_) (fun c1=>?_)
   ·have K:j< (l.getD m default).ks.length:=JF;have Y:(((l.getD m default).ks.take (j+1)).all (dU (aE (l.take m))))=(((l.getD m default).ks.take j).all (dU (aE (l.take m))) &&dU (aE (l.take m)) (l.getD m default).ks[j]):=by
     rw [AZ K,List.all_append];simp
    have a1:dU (aE (l.take m)) (l.getD m default).ks[j]=(decide (0<=(l.getD m default).ks[j]) && (decide ((l.getD m default).ks[j]< (m:Int)) &&decide (k2.getD ((l.getD m default).ks[j]).toNat 0≠0))):=by
     unfold dU
     rw [aY,AR,show min m l.length=m by omega]
     by_cases b1:0<=(l.getD m default).ks[j]
     ·by_cases b2:(l.getD m default).ks[j]< (m:Int)
      ·rw [<-tk,J1 JF]
      ·simp only [decide_eq_false b2,BM]
     ·simp only [decide_eq_false b1,BM]
    have nx: ∀b:Bool,b=!(((l.getD m default).ks.take (j+1)).all (dU (aE (l.take m))))->ASG l m r g2 k2/\m<l.length/\j+1<=(l.getD m default).ks.length/\b=!(((l.getD m default).ks.take (j+1)).all (dU (aE (l.take m)))):=fun b hb=>⟨a0,p,K,hb⟩
    have Z:some (TV.v (IV.int IntKind.i64 (IntKind.i64.wrap ((j:Int)+1))))=some (TV.v (IV.int IntKind.i64 ((j+1:Nat):Int))):=by rw [AF _ JF];rfl
    refine aW ⟨JF,JF⟩ (cX K (by rw [AO,tn]) (aB (fun V=>?_) (fun V=>?_)))
    ·exact⟨(m,r,g2,k2,j+1,true),JJ,JJ,JJ,JJ,JJ,JJ,JJ,JJ,JJ,Z,JJ,nx true (by rw [Y,<-Bool.not_not (((l.getD m default).ks.take j).all _),<-D,V];rfl),JK⟩
    ·have a2:(((l.getD m default).ks.take j).all (dU (aE (l.take m))))=true:=by rw [<-Bool.not_not (((l.getD m default).ks.take j).all _),<-D,V];rfl
     refine gO (fun c2=>?_) (fun c2=>gO (fun c3=>?_) (fun c3=>?_))
     ·exact⟨(m,r,g2,k2,j+1,true),JJ,JJ,JJ,JJ,JJ,JJ,JJ,JJ,JJ,Z,JJ,nx true (by rw [Y,a2,a1,decide_eq_false (show¬0<=(l.getD m default).ks[j] by omega)];rfl),JK⟩
     ·exact⟨(m,r,g2,k2,j+1,true),JJ,JJ,JJ,JJ,JJ,JJ,JJ,JJ,JJ,Z,JJ,nx true (by rw [Y,a2,a1,decide_eq_false (show¬ (l.getD m default).ks[j]< (m:Int) by omega),BM,DB];rfl),JK⟩
     ·have q1:((l.getD m default).ks[j]).toNat<k2.length:=JF;refine aW ⟨JF,JF⟩ (aD X (cX q1 JF ⟨(m,r,g2,k2,j+1,k2[((l.getD m default).ks[j]).toNat]==0),JJ,JJ,JJ,JJ,JJ,JJ,JJ,JJ,JJ,Z,JJ,nx _ ?_,JK⟩));rw [Y,a2,a1,decide_eq_true (show 0<=(l.getD m default).ks[j] by omega),decide_eq_true (show(l.getD m default).ks[j]< (m:Int) by omega),bH q1,BC,BC,BC];generalize k2[((l.getD m default).ks[j]).toNat]=y
      by_cases z:y=0
      ·subst z;rfl
      ·rw [beq_eq_false_iff_ne.2 z,decide_eq_true (show y≠0 from z)];rfl
   ·have K:j=(l.getD m default).ks.length:=JF;rw [K,DH]at D;have hs:m< (aE l).length:=by rw [aY];exact p
    have a6:(aE l).getD m 0=cA (l.take m) (aE (l.take m)) (l.getD m default):=by rw [bH p];exact uL (AA p)
    refine aB (fun V=>?_) (fun V=>?_)
    ·rw [CC]at V;have a9:(l.getD m default).ks.all (dU (aE (l.take m)))=true:=by rw [<-Bool.not_not ((l.getD m default).ks.all _),<-D,V];rfl
     refine⟨l,m,k2,⟨rfl,rfl,rfl,L.symm⟩,⟨⟨p,a7,a4,L,tk,a9⟩,X,G⟩,fun h2 ⟨e2,n2⟩=>aW ⟨JF,JF⟩ (aD (e2.trans X) (aA (by rw [AS];simp;omega) ⟨(m+1,r,h2.set r (.cells ((k2.take m++ [(aE l).getD m 0]++k2.drop (m+1)).map (IV.int .i64))),k2.take m++ [(aE l).getD m 0]++k2.drop (m+1)),JJ,JJ,JJ,JJ,(by rw [AF _ JF];rfl),?_,⟨⟨p,aK,BS G n2,?_,?_,?_⟩,trivial⟩,JK⟩))⟩
     ·dsimp only;rw [tn,AX,AO,a6];simp
     ·simp;omega
     ·dsimp only;have h1:(k2.take m).length=m:=by rw [AR];omega
      rw [CM (by simp;omega),AM (by simp;omega),O,AZ hs,bH hs]
     ·intro q hq;dsimp only at hq⊢;rw [List.getD_eq_getElem?_getD,BA (by simp;omega)];have h1:(k2.take m++ [(aE l).getD m 0]).length=m+1:=by simp;omega
      rw [h1,EF,show m+1+(q- (m+1))=q by omega,<-List.getD_eq_getElem?_getD];exact R q JF
    ·rw [BO]at V;have a8:(l.getD m default).ks.all (dU (aE (l.take m)))=false:=by rw [<-Bool.not_not ((l.getD m default).ks.all _),<-D,V];rfl
     have hz:(aE l).getD m 0=0:=by
      rw [a6];unfold cA
      rw [if_neg (by rw [a8];decide)]
     refine⟨(m+1,r,g2,k2),JJ,JJ,JJ,JJ,(by rw [AF _ JF];rfl),JJ,⟨⟨p,X,G,L,?_,fun q hq=>R q JF⟩,trivial⟩,JK⟩;have h0:=R m (AG _);have a3:m<k2.length:=JF;rw [bH a3]at h0;rw [bH hs]at hz;dsimp only;rw [AZ a3,AZ hs,O,h0,hz]
  ·obtain rfl:i=l.length:=JF;have hs:(aE l).length=l.length:=aY l;rw [AM JF,AM JF]at a5;subst a5;refine aD hg (aA (by simp;omega) ?_);rw [AM (by simp;omega)];rw [hs]at hk;exact aA (by simp only [aP,bG,bC,AL]) hk
 ·exact hk.elim
def K0:=aV 135 N9 Nr
theorem Aj:aO env K0:=aF b0T (Vx)
end Go.Proofs.YthimicfahhgpcaaGreat
end
section
namespace Go.Proofs.YthimicfahhgpcaaGreat
open Go.Pv Go.M13
theorem b8C(c:Int):cW .i64 c 63=c%64:=a6K c
def d8L:Y11:=(List.range 256).map fun i=>UInt8.ofNat (gA i)
theorem c1Q: ∀i:Fin 256,d8L[(i:Nat)]?=some (UInt8.ofNat (gA i))/\(UInt8.ofNat (gA i)).toNat=gA i:=by decide+kernel
theorem a8G{y:Int}{k:Int}{n:Nat}(q:0<=y)(r:y<256)(A:0<=k/\k<=56)(e:(gA n:Int)=k+gA y.toNat){Q:KT}{h:Heap}(l:Q (.int .i64 (gA n)) h)(tab:Y11)(m:tab=d8L):
  aC (decide ((0:Int)<=IntKind.wrap IntKind.u8 y)) (nC tab ((IntKind.wrap IntKind.u8 y).toNat) fun c=>Q (IV.int IntKind.i64 (IntKind.wrap IntKind.i64 (k+IntKind.wrap IntKind.i64 c))) h):=by
 have p:IntKind.u8.wrap y=y:=by
  unfold IntKind.wrap
  simp [IntKind.bits,IntKind.signed];omega
 rw [p];refine aA (by simp [q]) ?_;obtain⟨g,j⟩:=c1Q ⟨y.toNat,JF⟩;unfold nC
 simp only at g j;rw [m];rw [g];show Q (IV.int IntKind.i64 (IntKind.wrap IntKind.i64 (k+IntKind.wrap IntKind.i64 ((UInt8.ofNat (gA y.toNat)).toNat:Int)))) h;rw [j];have z:gA y.toNat<=8:=Cd (show y.toNat<2^8 by omega);rw [AF (gA y.toNat:Int) JF,AF _ JF,<-e];exact l
theorem a0B{a b c d:Int}(h:c<1):G6 a b c d=(lG,mF):=by
 unfold G6
 rw [if_pos h]
def Qy(xs:Y14)(h:Heap)(K:KT):Prop:=match xs with
 | [.agg [.int .i64 a,.int .i64 b]]=>K (.bool (decide (a<=b))) h
 |_=>False
theorem d3E(a b:Int)(h:Heap)(Q:KT):dF (aR K0) env 196 cS bK bK [.agg [.int .i64 a,.int .i64 b]] h Q=(
 Q (.bool (decide (a<=b))) h):=by kernel_rfl
theorem d1O: ∀xs h Q,Qy xs h Q->aL env 196 xs h Q:=by
 intro xs h Q g;unfold Qy at g;split at g
 ·rename_i a b;refine aN (Aj) (d3E a b h Q) ?_;exact g
 ·exact g.elim
def Oy:=aV 196 Qy K0
theorem Xb:aO env Oy:=aF d1O (Aj)
def a6Y(xs:Y14)(h:Heap)(K:KT):Prop:=match xs with
 | [.agg [.int .i64 a,.int .i64 b],.agg [.int .i64 c,.int .i64 d]]=>K (.agg [.int .i64 (min a c),.int .i64 (max b d)]) h
 |_=>False
theorem d9A(a b c d:Int)(h:Heap)(Q:KT):dF (aR Oy) env 200 cS bK bK [.agg [.int .i64 a,.int .i64 b],.agg [.int .i64 c,.int .i64 d]] h Q=(
 Q (.agg [.int .i64 (if c<a then c else a),iI (if d>b then d else b)]) h):=by kernel_rfl
theorem d7H: ∀xs h Q,a6Y xs h Q->aL env 200 xs h Q:=by
 intro xs h Q g;unfold a6Y at g;split at g
 ·rename_i a b c d;refine aN (Xb) (d9A a b c d h Q) ?_;delta iI
  repeat' (first|refine aA ?_ ?_|refine aB (fun _=>?_) (fun _=>?_)|refine And.intro ?_ ?_)
  all_goals first|assumption|omega| (refine cD g ?_;simp only [IV.agg.injEq,IV.tuple.injEq,IV.int.injEq,IV.bool.injEq,BI,true_and,and_true];grind [])
 ·exact g.elim
def a4G:=aV 200 a6Y Oy
theorem a9B:aO env a4G:=aF d7H (Xb)
def A4(xs:Y14)(h:Heap)(K:KT):Prop:=match xs with
 | [.agg [.int .i64 a,.int .i64 b],.int .i64 n]=>K (.bool (contains a b n)) h
 |_=>False
theorem a1Z(a b n:Int)(h:Heap)(Q:KT):dF (aR a4G) env 215 cS bK bK [.agg [.int .i64 a,.int .i64 b],.int .i64 n] h Q=(
 aI (decide (n>=a)) (Q (.bool (decide (n<=b))) h) (Q (.bool false) h)):=by kernel_rfl
theorem a1P: ∀xs h Q,A4 xs h Q->aL env 215 xs h Q:=by
 intro xs h Q g;unfold A4 at g;split at g
 ·rename_i a b n;refine aN (a9B) (a1Z a b n h Q) ?_
  repeat' (first|refine aA ?_ ?_|refine aB (fun _=>?_) (fun _=>?_)|refine And.intro ?_ ?_)
  all_goals first|assumption|omega| (refine cD g ?_;simp only [IV.agg.injEq,IV.tuple.injEq,IV.int.injEq,IV.bool.injEq,BI,true_and,and_true];grind [contains])
 ·exact g.elim
def zO:=aV 215 A4 a4G
theorem Q5:aO env zO:=aF a1P (a9B)
def Px(xs:Y14)(h:Heap)(K:KT):Prop:=match xs with
 | [.agg [.int .i64 a,.int .i64 b],.agg [.int .i64 c,.int .i64 d]]=>K (.tuple [.agg [.int .i64 (a6L a b c d).1,.int .i64 (a6L a b c d).2],.bool (pP a b c d)]) h
 |_=>False
theorem d2D(a b c d:Int)(h:Heap)(Q:KT):dF (aR zO) env 216 cS bK bK [.agg [.int .i64 a,.int .i64 b],.agg [.int .i64 c,.int .i64 d]] h Q=(
 aI (!decide ((if c>a then c else a)<=if d<b then d else b)) (Q (.tuple [.agg [.int .i64 0,iI 0],IV.bool false]) h) (Q (.tuple [.agg [.int .i64 (if c>a then c else a),iI (if d<b then d else b)],IV.bool true]) h)):=by kernel_rfl
theorem d0P: ∀xs h Q,Px xs h Q->aL env 216 xs h Q:=by
 intro xs h Q g;unfold Px at g;split at g
 ·rename_i a b c d;refine aN (Q5) (d2D a b c d h Q) ?_;delta iI
  repeat' (first|refine aA ?_ ?_|refine aB (fun _=>?_) (fun _=>?_)|refine And.intro ?_ ?_)
  all_goals first|assumption|omega| (refine cD g ?_;simp only [IV.agg.injEq,IV.tuple.injEq,IV.int.injEq,IV.bool.injEq,BI,true_and,and_true];grind [a6L,pP])
 ·exact g.elim
def Nx:=aV 216 Px zO
theorem Wd:aO env Nx:=aF d0P (Q5)
def a6V(xs:Y14)(h:Heap)(K:KT):Prop:=match xs with
 | []=>K (.agg [.int .i64 (-9223372036854775808),.int .i64 9223372036854775807]) h
 |_=>False
theorem d8W(h:Heap)(Q:KT):dF (aR Nx) env 197 cS bK bK [] h Q=(
 Q (.agg [.int .i64 (-9223372036854775808),iI 9223372036854775807]) h):=by kernel_rfl
theorem d7E: ∀xs h Q,a6V xs h Q->aL env 197 xs h Q:=by
 intro xs h Q g;unfold a6V at g;split at g
 ·skip
  refine aN (Wd) (d8W h Q) ?_;delta iI;exact g
 ·exact g.elim
def a4C:=aV 197 a6V Nx
theorem a8X:aO env a4C:=aF d7E (Wd)
def Eo(xs:Y14)(h:Heap)(K:KT):Prop:=match xs with
 | [.int .i64 a]=>K (.agg [.int .i64 a,.int .i64 a]) h
 |_=>False
theorem c2I(a:Int)(h:Heap)(Q:KT):dF (aR a4C) env 254 cS bK bK [.int .i64 a] h Q=(
 Q (.agg [.int .i64 a,iI a]) h):=by kernel_rfl
theorem c1D: ∀xs h Q,Eo xs h Q->aL env 254 xs h Q:=by
 intro xs h Q g;unfold Eo at g;split at g
 ·rename_i a;refine aN (a8X) (c2I a h Q) ?_;delta iI;exact g
 ·exact g.elim
def Cv:=aV 254 Eo a4C
theorem Jo:aO env Cv:=aF c1D (a8X)
def c9H(xs:Y14)(h:Heap)(K:KT):Prop:=match xs with
 | [.int .i64 o,.int .i64 a]=>K (.int .i64 (F4 o a)) h
 |_=>False
theorem e4W(o a:Int)(h:Heap)(Q:KT):dF (aR Cv) env 138 cS bK bK [.int .i64 o,.int .i64 a] h Q=(
 aI (o==20) (Q (.int .i64 (wW ((0:Int)-a))) h) (aI (o==21) (Q (.int .i64 (D6 .i64 (-1:Int) a)) h) (Q (.int .i64 0) h))):=by kernel_rfl
theorem e3V: ∀xs h Q,c9H xs h Q->aL env 138 xs h Q:=by
 intro xs h Q g;unfold c9H at g;split at g
 ·rename_i o a;refine aN (Jo) (e4W o a h Q) ?_;delta wW
  repeat' (first|refine aA ?_ ?_|refine aB (fun _=>?_) (fun _=>?_)|refine And.intro ?_ ?_)
  all_goals first|exact g| (simp only [decide_eq_true_eq];exact jW _)| (simp_all;done)| (refine cD g ?_;congr 1; (try simp only [beq_iff_eq,beq_eq_false_iff_ne,ne_eq]at*);unfold F4; (repeat (first|rw [if_pos (by assumption)]|rw [if_neg (by assumption)]));first|done|rfl)
 ·exact g.elim
def c7Q:=aV 138 c9H Cv
theorem c5R:aO env c7Q:=aF e3V (Jo)
def a7L(xs:Y14)(h:Heap)(K:KT):Prop:=match xs with
 | [.int .i64 a,.int .i64 b]=>K (.int .i64 (nO a b)) h
 |_=>False
theorem d9L(a b:Int)(h:Heap)(Q:KT):dF (aR c7Q) env 204 cS bK bK [.int .i64 a,.int .i64 b] h Q=(
 aI (b==0) (Q (.int .i64 0) h) (aI (b==(-1:Int)) (Q (.int .i64 (wW ((0:Int)-a))) h) (aC (!b==0) (Q (.int .i64 (wW (Int.tdiv a b))) h)))):=by kernel_rfl
theorem d7U: ∀xs h Q,a7L xs h Q->aL env 204 xs h Q:=by
 intro xs h Q g;unfold a7L at g;split at g
 ·rename_i a b;refine aN (c5R) (d9L a b h Q) ?_;delta wW
  repeat' (first|refine aA ?_ ?_|refine aB (fun _=>?_) (fun _=>?_)|refine And.intro ?_ ?_)
  all_goals first|exact g| (simp only [decide_eq_true_eq];exact jW _)| (simp_all;done)| (refine cD g ?_;congr 1; (try simp only [beq_iff_eq,beq_eq_false_iff_ne,ne_eq]at*);unfold nO; (repeat (first|rw [if_pos (by assumption)]|rw [if_neg (by assumption)]));first|done|rfl)
 ·exact g.elim
def a4Y:=aV 204 a7L c7Q
theorem a9N:aO env a4Y:=aF d7U (c5R)
def Qt(xs:Y14)(h:Heap)(K:KT):Prop:=match xs with
 | [.bool b]=>K (.int .i64 (fL b)) h
 |_=>False
theorem d3B(b:Bool)(h:Heap)(Q:KT):dF (aR a4Y) env 265 cS bK bK [.bool b] h Q=(
 aI b (Q (.int .i64 1) h) (Q (.int .i64 0) h)):=by kernel_rfl
theorem d1J: ∀xs h Q,Qt xs h Q->aL env 265 xs h Q:=by
 intro xs h Q g;unfold Qt at g;split at g
 ·rename_i b;refine aN (a9N) (d3B b h Q) ?_
  repeat' (first|refine aA ?_ ?_|refine aB (fun _=>?_) (fun _=>?_)|refine And.intro ?_ ?_)
  all_goals (refine cD g ?_;simp_all [fL])
 ·exact g.elim
def Ot:=aV 265 Qt a4Y
theorem Ww:aO env Ot:=aF d1J (a9N)
def Qo(xs:Y14)(h:Heap)(K:KT):Prop:=match xs with
 | [.int .i64 o,.int .i64 a,.int .i64 b]=>K (.int .i64 (vF o a b)) h
 |_=>False
theorem d2V(o a b:Int)(h:Heap)(Q:KT):dF (aR Ot) env 205 cS bK bK [.int .i64 o,.int .i64 a,.int .i64 b] h Q=(
 aI (o==12) (aC (decide (0<=IntKind.wrap .u64 (cW .i64 b 63))) (Q (.int .i64 (wW (a*(2:Int) ^min ((IntKind.wrap .u64 (cW .i64 b 63)).toNat) 64))) h)) (aI (o==13) (aC (decide (0<=IntKind.wrap .u64 (cW .i64 b 63))) (Q (.int .i64 (wW (Int.fdiv (IntKind.wrap .u64 a) ((2:Int) ^min ((IntKind.wrap .u64 (cW .i64 b 63)).toNat) 64)))) h)) (aI (o==14) (aC (decide (0<=IntKind.wrap .u64 (cW .i64 b 63))) (Q (.int .i64 (Int.fdiv a ((2:Int) ^min ((IntKind.wrap .u64 (cW .i64 b 63)).toNat) 64))) h)) (aI (o==15) (Q (.int .i64 (fL (a==b))) h) (aI (o==16) (Q (.int .i64 (fL (a !=b))) h) (aI (o==17) (Q (.int .i64 (fL (decide (a<b)))) h) (aI (o==18) (Q (.int .i64 (fL (decide (a<=b)))) h) (aI (o==19) (Q (.int .i64 (fL (decide (IntKind.wrap .u64 a<IntKind.wrap .u64 b)))) h) (Q (.int .i64 0) h))))))))):=by kernel_rfl
theorem d1F: ∀xs h Q,Qo xs h Q->aL env 205 xs h Q:=by
 intro xs h Q g;unfold Qo at g;split at g
 ·rename_i o a b;refine aN (Ww) (d2V o a b h Q) ?_;delta wW
  repeat' (first|refine aA ?_ ?_|refine aB (fun _=>?_) (fun _=>?_)|refine And.intro ?_ ?_)
  all_goals first|exact g| (simp only [decide_eq_true_eq];exact jW _)| (simp_all;done)| (refine cD g ?_;congr 1; (try simp only [beq_iff_eq,beq_eq_false_iff_ne,ne_eq]at*);unfold vF; (repeat (first|rw [if_pos (by assumption)]|rw [if_neg (by assumption)]));first|done|rfl)
 ·exact g.elim
def Ok:=aV 205 Qo Ot
theorem Wq:aO env Ok:=aF d1F (Ww)
def a7W(xs:Y14)(h:Heap)(K:KT):Prop:=match xs with
 | [.int .i64 o,.int .i64 a,.int .i64 b]=>K (.int .i64 (oG o a b)) h
 |_=>False
theorem d9W(o a b:Int)(h:Heap)(Q:KT):dF (aR Ok) env 139 cS bK bK [.int .i64 o,.int .i64 a,.int .i64 b] h Q=(
 aI (o==4) (Q (.int .i64 (wW (a+b))) h) (aI (o==5) (Q (.int .i64 (wW (a-b))) h) (aI (o==6) (Q (.int .i64 (wW (a*b))) h) (aI (o==7) (Q (.int .i64 (nO a b)) h) (aI (o==8) (aI (b==0) (Q (.int .i64 0) h) (Q (.int .i64 (wW (a-wW (nO a b*b)))) h)) (aI (o==9) (Q (.int .i64 (cW .i64 a b)) h) (aI (o==10) (Q (.int .i64 (c6W .i64 a b)) h) (aI (o==11) (Q (.int .i64 (D6 .i64 a b)) h) (Q (.int .i64 (vF o a b)) h))))))))):=by kernel_rfl
theorem d8D: ∀xs h Q,a7W xs h Q->aL env 139 xs h Q:=by
 intro xs h Q g;unfold a7W at g;split at g
 ·rename_i o a b;refine aN (Wq) (d9W o a b h Q) ?_;delta wW
  repeat' (first|refine aA ?_ ?_|refine aB (fun _=>?_) (fun _=>?_)|refine And.intro ?_ ?_)
  all_goals first|exact g| (simp only [decide_eq_true_eq];exact jW _)| (simp_all;done)| (refine cD g ?_;congr 1; (try simp only [beq_iff_eq,beq_eq_false_iff_ne,ne_eq]at*);unfold oG; (repeat (first|rw [if_pos (by assumption)]|rw [if_neg (by assumption)]));first|done|rfl)
 ·exact g.elim
def a5I:=aV 139 a7W Ok
theorem a9Z:aO env a5I:=aF d8D (Wq)
def A3(xs:Y14)(h:Heap)(K:KT):Prop:=match xs with
 | [.bool b]=>K (.int .i64 (fL b)) h
 |_=>False
theorem a1Y(b:Bool)(h:Heap)(Q:KT):dF (aR a5I) env 57 cS bK bK [.bool b] h Q=(
 aI b (Q (.int .i64 1) h) (Q (.int .i64 0) h)):=by kernel_rfl
theorem a1O: ∀xs h Q,A3 xs h Q->aL env 57 xs h Q:=by
 intro xs h Q g;unfold A3 at g;split at g
 ·rename_i b;refine aN (a9Z) (a1Y b h Q) ?_
  repeat' (first|refine aA ?_ ?_|refine aB (fun _=>?_) (fun _=>?_)|refine And.intro ?_ ?_)
  all_goals (refine cD g ?_;simp_all [fL])
 ·exact g.elim
def zN:=aV 57 A3 a5I
theorem Q4:aO env zN:=aF a1O (a9Z)
def a7M(xs:Y14)(h:Heap)(K:KT):Prop:=match xs with
 | [.int .i64 a,.int .i64 b]=>K (.int .i64 (nO a b)) h
 |_=>False
theorem d9M(a b:Int)(h:Heap)(Q:KT):dF (aR zN) env 56 cS bK bK [.int .i64 a,.int .i64 b] h Q=(
 aI (b==0) (Q (.int .i64 0) h) (aI (b==(-1:Int)) (Q (.int .i64 (wW ((0:Int)-a))) h) (aC (!b==0) (Q (.int .i64 (wW (Int.tdiv a b))) h)))):=by kernel_rfl
theorem d7V: ∀xs h Q,a7M xs h Q->aL env 56 xs h Q:=by
 intro xs h Q g;unfold a7M at g;split at g
 ·rename_i a b;refine aN (Q4) (d9M a b h Q) ?_;delta wW
  repeat' (first|refine aA ?_ ?_|refine aB (fun _=>?_) (fun _=>?_)|refine And.intro ?_ ?_)
  all_goals first|exact g| (simp only [decide_eq_true_eq];exact jW _)| (simp_all;done)| (refine cD g ?_;congr 1; (try simp only [beq_iff_eq,beq_eq_false_iff_ne,ne_eq]at*);unfold nO; (repeat (first|rw [if_pos (by assumption)]|rw [if_neg (by assumption)]));first|done|rfl)
 ·exact g.elim
def a4Z:=aV 56 a7M zN
theorem a9O:aO env a4Z:=aF d7V (Q4)
def Qm(xs:Y14)(h:Heap)(K:KT):Prop:=match xs with
 | [.int .i64 o,.int .i64 a,.int .i64 b]=>K (.int .i64 (oG o a b)) h
 |_=>False
def c3K(b:Int):=decide (0<=IntKind.wrap .u64 (cW .i64 b 63))
def c3L(b:Int):=(IntKind.wrap .u64 (cW .i64 b 63)).toNat
theorem d2T(o a b:Int)(h:Heap)(Q:KT):dF (aR a4Z) env 30 cS bK bK [.int .i64 o,.int .i64 a,.int .i64 b] h Q=(
 aI (o==4) (Q (.int .i64 (wW (a+b))) h) (aI (o==5) (Q (.int .i64 (wW (a-b))) h) (aI (o==6) (Q (.int .i64 (wW (a*b))) h) (aI (o==7) (Q (.int .i64 (nO a b)) h) (aI (o==8) (aI (b==0) (Q (.int .i64 0) h) (Q (.int .i64 (wW (a-wW (nO a b*b)))) h)) (aI (o==9) (Q (.int .i64 (cW .i64 a b)) h) (aI (o==10) (Q (.int .i64 (c6W .i64 a b)) h) (aI (o==11) (Q (.int .i64 (D6 .i64 a b)) h) (aI (o==12) (aC (c3K b) (Q (.int .i64 (wW (a*(2:Int) ^min (c3L b) 64))) h)) (aI (o==13) (aC (c3K b) (Q (.int .i64 (wW (Int.fdiv (IntKind.wrap .u64 a) ((2:Int) ^min (c3L b) 64)))) h)) (aI (o==14) (aC (c3K b) (Q (.int .i64 (Int.fdiv a ((2:Int) ^min (c3L b) 64))) h)) (aI (o==15) (Q (.int .i64 (fL (a==b))) h) (aI (o==16) (Q (.int .i64 (fL (a !=b))) h) (aI (o==17) (Q (.int .i64 (fL (decide (a<b)))) h) (aI (o==18) (Q (.int .i64 (fL (decide (a<=b)))) h) (aI (o==19) (Q (.int .i64 (fL (decide (IntKind.wrap .u64 a<IntKind.wrap .u64 b)))) h) (Q (.int .i64 0) h))))))))))))))))):=by kernel_rfl
theorem d1D: ∀xs h Q,Qm xs h Q->aL env 30 xs h Q:=by
 intro xs h Q g;unfold Qm at g;split at g
 ·rename_i o a b;refine aN (a9O) (d2T o a b h Q) ?_;delta c3K c3L wW
  repeat' (first|refine aA ?_ ?_|refine aB (fun _=>?_) (fun _=>?_)|refine And.intro ?_ ?_)
  all_goals first|exact g| (simp only [decide_eq_true_eq];exact jW _)| (simp_all;done)| (refine cD g ?_;congr 1; (try simp only [beq_iff_eq,beq_eq_false_iff_ne,ne_eq]at*);unfold oG vF; (repeat (first|rw [if_pos (by assumption)]|rw [if_neg (by assumption)]));first|done|rfl)
 ·exact g.elim
def Oi:=aV 30 Qm a4Z
theorem Wo:aO env Oi:=aF d1D (a9O)
def vY(xs:Y14)(h:Heap)(K:KT):Prop:=match xs with
 | [.agg [.int .i64 a,.int .i64 b]]=>K (.bool (a==b)) h
 |_=>False
theorem Sq(a b:Int)(h:Heap)(Q:KT):dF (aR Oi) env 253 cS bK bK [.agg [.int .i64 a,.int .i64 b]] h Q=(
 Q (.bool (a==b)) h):=by kernel_rfl
theorem Sf: ∀xs h Q,vY xs h Q->aL env 253 xs h Q:=by
 intro xs h Q g;unfold vY at g;split at g
 ·rename_i a b;refine aN (Wo) (Sq a b h Q) ?_;exact g
 ·exact g.elim
def vT:=aV 253 vY Oi
theorem E6:aO env vT:=aF Sf (Wo)
def O1(xs:Y14)(h:Heap)(K:KT):Prop:=match xs with
 | [.bool b,.bool c]=>K (.agg [.int .i64 (W1 b c).1,.int .i64 (W1 b c).2]) h
 |_=>False
theorem b2C(b c:Bool)(h:Heap)(Q:KT):dF (aR vT) env 301 cS bK bK [.bool b,.bool c] h Q=(
 aI b (Q (.agg [.int .i64 1,iI 1]) h) (aI c (Q (.agg [.int .i64 0,iI 0]) h) (Q (.agg [.int .i64 0,iI 1]) h))):=by kernel_rfl
theorem b0W: ∀xs h Q,O1 xs h Q->aL env 301 xs h Q:=by
 intro xs h Q g;unfold O1 at g;split at g
 ·rename_i b c;refine aN (E6) (b2C b c h Q) ?_;delta iI
  repeat' (first|refine aA ?_ ?_|refine aB (fun _=>?_) (fun _=>?_)|refine And.intro ?_ ?_)
  all_goals first|exact g| (refine cD g ?_;simp only [IV.agg.injEq,IV.tuple.injEq,IV.int.injEq,IV.bool.injEq,BI,true_and,and_true];grind [W1])
 ·exact g.elim
def K1:=aV 301 O1 vT
theorem Ak:aO env K1:=aF b0W (E6)
def c9D(xs:Y14)(h:Heap)(K:KT):Prop:=match xs with
 | [.int .i64 a,.int .i64 b]=>(inR a/\inR b)/\K (.tuple [.int .i64 (IntKind.i64.wrap (a+b)),.bool (jL (a+b))]) h
 |_=>False
theorem e4U(a b:Int)(h:Heap)(Q:KT):dF (aR K1) env 256 cS bK bK [.int .i64 a,.int .i64 b] h Q=(
 Q (.tuple [.int .i64 (wW (a+b)),IV.bool (decide (wW (a+b)<a)==decide (b<0))]) h):=by kernel_rfl
theorem e3T: ∀xs h Q,c9D xs h Q->aL env 256 xs h Q:=by
 intro xs h Q g;unfold c9D at g;split at g
 ·rename_i a b;refine aN (Ak) (e4U a b h Q) ?_;delta wW;obtain⟨⟨h1,h2⟩,g⟩:=g;refine cD g ?_;rw [d1U h1 h2]
 ·exact g.elim
def c7O:=aV 256 c9D K1
theorem c5P:aO env c7O:=aF e3T (Ak)
def a6T(xs:Y14)(h:Heap)(K:KT):Prop:=match xs with
 | [.int .i64 a,.int .i64 b]=>(inR a/\inR b)/\K (.tuple [.int .i64 (IntKind.i64.wrap (a-b)),.bool (jL (a-b))]) h
 |_=>False
theorem d8U(a b:Int)(h:Heap)(Q:KT):dF (aR c7O) env 257 cS bK bK [.int .i64 a,.int .i64 b] h Q=(
 Q (.tuple [.int .i64 (wW (a-b)),IV.bool (decide (wW (a-b)>a)==decide (b<0))]) h):=by kernel_rfl
theorem d7C: ∀xs h Q,a6T xs h Q->aL env 257 xs h Q:=by
 intro xs h Q g;unfold a6T at g;split at g
 ·rename_i a b;refine aN (c5P) (d8U a b h Q) ?_;delta wW;obtain⟨⟨h1,h2⟩,g⟩:=g;refine cD g ?_;rw [b8I h1 h2]
 ·exact g.elim
def a4B:=aV 257 a6T c7O
theorem a8W:aO env a4B:=aF d7C (c5P)
def xN(xs:Y14)(h:Heap)(K:KT):Prop:=match xs with
 | [.int .i64 a,.int .i64 b,.int .i64 c,.int .i64 d,.func (.func 256) [] []]=>((inR a/\inR b)/\(inR c/\inR d))/\K (.agg [.int .i64 (V8 (a+b) (c+d)).1,.int .i64 (V8 (a+b) (c+d)).2]) h
 |_=>False
theorem b2E(a b c d:Int)(h:Heap)(Q:KT):dF (aR a4B) env 255 cS bK bK [.int .i64 a,.int .i64 b,.int .i64 c,.int .i64 d,.func (.func 256) [] []] h Q=(
 (inR a/\inR b)/\(inR c/\inR d)/\aI (!jL (a+b)) (Q (.agg [.int .i64 (-9223372036854775808),iI 9223372036854775807]) h) (aI (!jL (c+d)) (Q (.agg [.int .i64 (-9223372036854775808),iI 9223372036854775807]) h) (Q (.agg [.int .i64 (wW (a+b)),iI (wW (c+d))]) h))):=by kernel_rfl
theorem Kk: ∀xs h Q,xN xs h Q->aL env 255 xs h Q:=by
 intro xs h Q g;unfold xN at g;split at g
 ·rename_i a b c d;refine aN (a8W) (b2E a b c d h Q) ?_;delta wW iI;obtain⟨⟨⟨j,l⟩,m,hd⟩,g⟩:=g;refine⟨⟨j,l⟩,⟨m,hd⟩,aB (fun h1=>cD g ?_) (fun h1=>aB (fun h2=>cD g ?_) (fun h2=>cD g ?_))⟩
  ·unfold V8;simp_all
  ·unfold V8;simp_all
  ·simp only [BO]at h1 h2;rw [iE h1,iE h2];unfold V8;rw [h1,h2];rfl
 ·exact g.elim
def K3:=aV 255 xN a4B
theorem Am:aO env K3:=aF Kk (a8W)
def xM(xs:Y14)(h:Heap)(K:KT):Prop:=match xs with
 | [.int .i64 a,.int .i64 b,.int .i64 c,.int .i64 d,.func (.func 257) [] []]=>((inR a/\inR b)/\(inR c/\inR d))/\K (.agg [.int .i64 (V8 (a-b) (c-d)).1,.int .i64 (V8 (a-b) (c-d)).2]) h
 |_=>False
theorem b2D(a b c d:Int)(h:Heap)(Q:KT):dF (aR K3) env 255 cS bK bK [.int .i64 a,.int .i64 b,.int .i64 c,.int .i64 d,.func (.func 257) [] []] h Q=(
 (inR a/\inR b)/\(inR c/\inR d)/\aI (!jL (a-b)) (Q (.agg [.int .i64 (-9223372036854775808),iI 9223372036854775807]) h) (aI (!jL (c-d)) (Q (.agg [.int .i64 (-9223372036854775808),iI 9223372036854775807]) h) (Q (.agg [.int .i64 (wW (a-b)),iI (wW (c-d))]) h))):=by kernel_rfl
theorem Kj: ∀xs h Q,xM xs h Q->aL env 255 xs h Q:=by
 intro xs h Q g;unfold xM at g;split at g
 ·rename_i a b c d;refine aN (Am) (b2D a b c d h Q) ?_;delta wW iI;obtain⟨⟨⟨j,l⟩,m,hd⟩,g⟩:=g;refine⟨⟨j,l⟩,⟨m,hd⟩,aB (fun h1=>cD g ?_) (fun h1=>aB (fun h2=>cD g ?_) (fun h2=>cD g ?_))⟩
  ·unfold V8;simp_all
  ·unfold V8;simp_all
  ·simp only [BO]at h1 h2;rw [iE h1,iE h2];unfold V8;rw [h1,h2];rfl
 ·exact g.elim
def K2:=aV 255 xM K3
theorem Al:aO env K2:=aF Kj (Am)
def c9A(xs:Y14)(h:Heap)(K:KT):Prop:=match xs with
 | [.agg [.int .i64 a,.int .i64 b],.agg [.int .i64 c,.int .i64 d]]=>(((inR a/\inR b)/\(inR c/\inR d))/\c<=d)/\K (.agg [.int .i64 (G6 a b c d).1,.int .i64 (G6 a b c d).2]) h
 |_=>False
theorem e4S(a b c d:Int)(h:Heap)(Q:KT):dF (aR K2) env 261 cS bK bK [.agg [.int .i64 a,.int .i64 b],.agg [.int .i64 c,.int .i64 d]] h Q=(
 aI (decide (c<1)) (Q (.agg [.int .i64 (-9223372036854775808),iI 9223372036854775807]) h) (aI (decide (a<0)) (aI (decide (b>0)) (Q (IV.agg [iI (if wW ((1:Int)-d)>a then wW ((1:Int)-d)else a),iI (if wW (d-1)<b then wW (d-1)else b)]) h) (Q (.agg [.int .i64 (if wW ((1:Int)-d)>a then wW ((1:Int)-d)else a),iI 0]) h)) (aI (decide (b>0)) (Q (.agg [.int .i64 0,iI (if wW (d-1)<b then wW (d-1)else b)]) h) (Q (.agg [.int .i64 0,iI 0]) h)))):=by kernel_rfl
theorem e3R: ∀xs h Q,c9A xs h Q->aL env 261 xs h Q:=by
 intro xs h Q g;unfold c9A at g;split at g
 ·rename_i a b c d;refine aN (Al) (e4S a b c d h Q) ?_;delta wW iI;obtain⟨⟨⟨⟨j,l⟩,m,hd⟩,p⟩,g⟩:=g;unfold inR at j l m hd;refine aB (fun h1=>cD g ?_) (fun h1=>?_)
  ·simp only [decide_eq_true_eq]at h1;unfold G6;rw [if_pos h1]
  simp only [decide_eq_false_iff_not]at h1;rw [AF (1-d) JF,AF (d-1) JF]
  repeat' (first|refine aA ?_ ?_|refine aB (fun _=>?_) (fun _=>?_)|refine And.intro ?_ ?_)
  all_goals first|exact g| (refine cD g ?_;simp only [IV.agg.injEq,IV.tuple.injEq,IV.int.injEq,IV.bool.injEq,BI,true_and,and_true];grind [G6])
 ·exact g.elim
def c7M:=aV 261 c9A K2
theorem c5N:aO env c7M:=aF e3R (Al)
def c8T(xs:Y14)(h:Heap)(K:KT):Prop:=match xs with
 | [.int .i64 o,.agg [.int .i64 a,.int .i64 b],.agg [.int .i64 c,.int .i64 d]]=>(a<=b/\c<=d)/\K (.agg [.int .i64 (Dp o a b c d).1,.int .i64 (Dp o a b c d).2]) h
 |_=>False
theorem e4M(o a b c d:Int)(h:Heap)(Q:KT):dF (aR c7M) env 264 cS bK bK [.int .i64 o,.agg [.int .i64 a,.int .i64 b],.agg [.int .i64 c,.int .i64 d]] h Q=(
 aI (o==15) (Q (.agg [.int .i64 ((W1 false !pP a b c d).1),iI ((W1 false !pP a b c d).2)]) h) (aI (o==16) (Q (.agg [.int .i64 ((W1 (!pP a b c d) false).1),iI ((W1 (!pP a b c d) false).2)]) h) (aI (o==18) (Q (.agg [.int .i64 ((W1 (decide (b<=c)) (decide (a>d))).1),iI ((W1 (decide (b<=c)) (decide (a>d))).2)]) h) (aI (o==19) (aI (decide ((if c<a then c else a)<0)) (aI (decide ((if d>b then d else b)>=0)) (Q (.agg [.int .i64 0,iI 1]) h) (Q (.agg [.int .i64 ((W1 (decide (b<c)) (decide (a>=d))).1),iI ((W1 (decide (b<c)) (decide (a>=d))).2)]) h)) (Q (.agg [.int .i64 ((W1 (decide (b<c)) (decide (a>=d))).1),iI ((W1 (decide (b<c)) (decide (a>=d))).2)]) h)) (Q (.agg [.int .i64 ((W1 (decide (b<c)) (decide (a>=d))).1),iI ((W1 (decide (b<c)) (decide (a>=d))).2)]) h))))):=by kernel_rfl
theorem e3K: ∀xs h Q,c8T xs h Q->aL env 264 xs h Q:=by
 intro xs h Q g;unfold c8T at g;split at g
 ·rename_i o a b c d;refine aN (c5N) (e4M o a b c d h Q) ?_;delta iI;obtain⟨⟨h1,h2⟩,g⟩:=g
  repeat' (first|refine aA ?_ ?_|refine aB (fun _=>?_) (fun _=>?_)|refine And.intro ?_ ?_)
  all_goals first|exact g| (refine cD g ?_;simp only [IV.agg.injEq,IV.tuple.injEq,IV.int.injEq,IV.bool.injEq,BI,true_and,and_true];grind [Dp])
 ·exact g.elim
def c7F:=aV 264 c8T c7M
theorem c5G:aO env c7F:=aF e3K (c5N)
def En(xs:Y14)(h:Heap)(K:KT):Prop:=match xs with
 | [.agg [.int .i64 a,.int .i64 b],.agg [.int .i64 c,.int .i64 d],.agg [.int .i64 e,.int .i64 f]]=>K (.agg [.int .i64 (mO a b c d e f).1,.int .i64 (mO a b c d e f).2]) h
 |_=>False
theorem c2H(a b c d e f:Int)(h:Heap)(Q:KT):dF (aR c7F) env 201 cS bK bK [.agg [.int .i64 a,.int .i64 b],.agg [.int .i64 c,.int .i64 d],.agg [.int .i64 e,.int .i64 f]] h Q=(
 aI (!decide (a<=b)) (Q (.agg [.int .i64 (-9223372036854775808),iI 9223372036854775807]) h) (aI (!decide (c<=d)) (Q (.agg [.int .i64 (-9223372036854775808),iI 9223372036854775807]) h) (aI (!decide (e<=f)) (Q (.agg [.int .i64 (-9223372036854775808),iI 9223372036854775807]) h) (aI (a==0) (aI (b==0) (Q (.agg [.int .i64 e,iI f]) h) (aI (!contains a b 0) (Q (.agg [.int .i64 c,iI d]) h) (Q (.agg [.int .i64 (min c e),iI (max d f)]) h))) (aI (!contains a b 0) (Q (.agg [.int .i64 c,iI d]) h) (Q (.agg [.int .i64 (min c e),iI (max d f)]) h)))))):=by kernel_rfl
theorem c1B: ∀xs h Q,En xs h Q->aL env 201 xs h Q:=by
 intro xs h Q g;unfold En at g;split at g
 ·rename_i a b c d e f;refine aN (c5G) (c2H a b c d e f h Q) ?_;delta iI
  repeat' (first|refine aA ?_ ?_|refine aB (fun _=>?_) (fun _=>?_)|refine And.intro ?_ ?_)
  all_goals first|exact g| (refine cD g ?_;simp only [IV.agg.injEq,IV.tuple.injEq,IV.int.injEq,IV.bool.injEq,BI,true_and,and_true];grind [mO])
 ·exact g.elim
def Cu:=aV 201 En c7F
theorem Jn:aO env Cu:=aF c1B (c5G)
def Qp(xs:Y14)(h:Heap)(K:KT):Prop:=match xs with
 | [.int .i64 o,.agg [.int .i64 a,.int .i64 b],.agg [.int .i64 c,.int .i64 d]]=>K (.agg [.int .i64 (vX o a b c d).1,.int .i64 (vX o a b c d).2]) h
 |_=>False
def tS(c:Int):=(IntKind.wrap .u64 (cW .i64 c 63)).toNat
def zC(c:Int):=decide (0<=IntKind.wrap .u64 (cW .i64 c 63))
def Cb:=IV.agg [.int .i64 (-9223372036854775808),iI 9223372036854775807]
def Mj(a b c d:Int)(h:Heap)(Q:KT):=aI (c==d) (aI (decide (a>=0)) (aC (zC c) (aC (zC c) (Q (.agg [.int .i64 (Int.fdiv a ((2:Int) ^min (tS c) 64)),iI (Int.fdiv b ((2:Int) ^min (tS c) 64))]) h))) (aI (c==d) (aC (decide (0<=IntKind.wrap .u64 ((64:Int)-IntKind.wrap .u64 (cW .i64 c
 63)))) (Q (.agg [.int .i64 0,iI (wW (wW ((1:Int)*(2:Int) ^min ((IntKind.wrap .u64 ((64:Int)-IntKind.wrap .u64 (cW .i64 c 63))).toNat) 64)-1))]) h)) (aI (decide (a>=0)) (Q (.agg [.int .i64 0,iI b]) h) (Q Cb h)))) (aI (c==d) (aC (decide (0<=IntKind.wrap .u64 ((64
 :Int)-IntKind.wrap .u64 (cW .i64 c 63)))) (Q (.agg [.int .i64 0,iI (wW (wW ((1:Int)*(2:Int) ^min ((IntKind.wrap .u64 ((64:Int)-IntKind.wrap .u64 (cW .i64 c 63))).toNat) 64)-1))]) h)) (aI (decide (a>=0)) (Q (.agg [.int .i64 0,iI b]) h) (Q Cb h)))
def b4R(o a b c d:Int)(h:Heap)(Q:KT):=aI (o==12) (Q Cb h) (aI (o==14) (aI (c==d) (aC (zC c) (aC (zC c) (Q (.agg [.int .i64 (Int.fdiv a ((2:Int) ^min (tS c) 64)),iI (Int.fdiv b ((2:Int) ^min (tS c) 64))]) h))) (aI (o==14) (Q (.agg [.int .i64 (if 0<a then(0:Int)else a),iI (if(-1
 :Int)>b then(-1:Int)else b)]) h) (aI (c==d) (aI (IntKind.wrap .u64 (cW .i64 c 63)==0) (Q (.agg [.int .i64 a,iI b]) h) (Mj a b c d h Q)) (Mj a b c d h Q)))) (aI (o==14) (Q (.agg [.int .i64 (if 0<a then(0:Int)else a),iI (if(-1:Int)>b then(-1:Int)else b)]) h) (aI
 (c==d) (aI (IntKind.wrap .u64 (cW .i64 c 63)==0) (Q (.agg [.int .i64 a,iI b]) h) (Mj a b c d h Q)) (Mj a b c d h Q))))
theorem d2W(o a b c d:Int)(h:Heap)(Q:KT):dF (aR Cu) env 263 cS bK bK [.int .i64 o,.agg [.int .i64 a,.int .i64 b],.agg [.int .i64 c,.int .i64 d]] h Q=(
 aI (o==12) (aI (c==d) (aC (zC c) (aC (zC c) (aC (zC c) (aI (Int.fdiv (wW (a*(2:Int) ^min (tS c) 64)) ((2:Int) ^min (tS c) 64) !=a) (Q Cb h) (aC (zC c) (aI (Int.fdiv (wW (b*2^min (tS c) 64)) ((2:Int) ^min (tS c) 64) !=b) (Q Cb h) (Q (.agg [.int .i64 (wW (a*(2:Int) ^min (tS c) 64)),iI (wW (b*(2:Int) ^min (tS c) 64))]) h))))))) (b4R o a b c d h Q)) (b4R o a b c d h Q)):=by kernel_rfl
theorem d1G: ∀xs h Q,Qp xs h Q->aL env 263 xs h Q:=by
 intro xs h Q g;unfold Qp at g;split at g
 ·rename_i o a b c d;refine aN (Jn) (d2W o a b c d h Q) ?_;delta Mj b4R tS zC Cb wW iI;have l:(0:Int)<=c%64/\c%64<64:=JF;have m:IntKind.u64.wrap (64-c%64)=64-c%64:=HB _ JF;have j:min (64-c%64).toNat 64=(64-c%64).toNat:=JF;have q:IntKind.u64.wrap (c%64)=c%64:=HB _ JF;have p:IntKind.i64.wrap (64-c%64)=64-c%64:=AF _ JF;simp only [b8C,q,p,m,e2J,j]
  repeat' (first|refine aA ?_ ?_|refine aB (fun _=>?_) (fun _=>?_)|refine And.intro ?_ ?_)
  all_goals first|exact g|omega| (simp only [decide_eq_true_eq];omega)| (refine cD g ?_;simp only [IV.agg.injEq,IV.tuple.injEq,IV.int.injEq,IV.bool.injEq,BI,true_and,and_true];simp only [beq_iff_eq,beq_eq_false_iff_ne,bne_iff_ne,ne_eq,decide_eq_true_eq,decide_eq_false_iff_not,bne_eq_false_iff_eq]at*;grind [vX,Sh,S1])
 ·exact g.elim
def Ol:=aV 263 Qp Cu
theorem Ws:aO env Ol:=aF d1G (Jn)
def a7O(xs:Y14)(h:Heap)(K:KT):Prop:=match xs with
 | [.int .i64 o,.int .i64 a]=>K (.int .i64 (F4 o a)) h
 |_=>False
theorem d9P(o a:Int)(h:Heap)(Q:KT):dF (aR Ol) env 31 cS bK bK [.int .i64 o,.int .i64 a] h Q=(
 aI (o==20) (Q (.int .i64 (wW ((0:Int)-a))) h) (aI (o==21) (Q (.int .i64 (D6 .i64 (-1:Int) a)) h) (Q (.int .i64 0) h))):=by kernel_rfl
theorem d7Y: ∀xs h Q,a7O xs h Q->aL env 31 xs h Q:=by
 intro xs h Q g;unfold a7O at g;split at g
 ·rename_i o a;refine aN (Ws) (d9P o a h Q) ?_;delta wW
  repeat' (first|refine aA ?_ ?_|refine aB (fun _=>?_) (fun _=>?_)|refine And.intro ?_ ?_)
  all_goals first|exact g| (refine cD g ?_;congr 1; (try simp only [beq_iff_eq,beq_eq_false_iff_ne,ne_eq]at*);unfold F4; (repeat (first|rw [if_pos (by assumption)]|rw [if_neg (by assumption)]));first|done|rfl)
 ·exact g.elim
def a5A:=aV 31 a7O Ol
theorem a9P:aO env a5A:=aF d7Y (Ws)
def kUn(xs:Y14)(h:Heap)(K:KT):Prop:=match xs with
 | [.int .i64 o,.agg [.int .i64 a,.int .i64 b]]=>K (.agg [.int .i64 (V9 o a b).1,.int .i64 (V9 o a b).2]) h
 |_=>False
def b3P(o a b:Int)(h:Heap)(Q:KT):=aI (!decide (a<=b)) (Q (.agg [.int .i64 (-9223372036854775808),iI 9223372036854775807]) h) (aI (a==b) (Q (.agg [.int .i64 (F4 o a),iI (F4 o a)]) h) (aI (o==21) (Q (.agg [.int .i64 (D6 .i64 (-1:Int) b),iI (D6 .i64 (-1:Int) a)]) h) (aI (a==(-9223372036854775808:Int)) (Q (.agg
 [.int .i64 (-9223372036854775808),iI 9223372036854775807]) h) (Q (.agg [.int .i64 (wW ((0:Int)-b)),iI (wW ((0:Int)-a))]) h))))
theorem vUn(o a b:Int)(h:Heap)(Q:KT):dF (aR a5A) env 202 cS bK bK [.int .i64 o,.agg [.int .i64 a,.int .i64 b]] h Q=(
 aI (o !=20) (aI (o !=21) (Q (.agg [.int .i64 (-9223372036854775808),iI 9223372036854775807]) h) (b3P o a b h Q)) (b3P o a b h Q)):=by kernel_rfl
theorem sUn: ∀xs h Q,kUn xs h Q->aL env 202 xs h Q:=by
 intro xs h Q g;unfold kUn at g;split at g
 ·rename_i o a b;refine aN (a9P) (vUn o a b h Q) ?_;delta b3P wW iI;have j: ∀x,D6 .i64 (-1:Int) x=Ic x:=fun _=>rfl
  simp only [j]
  repeat' (first|refine aA ?_ ?_|refine aB (fun _=>?_) (fun _=>?_)|refine And.intro ?_ ?_)
  all_goals first|exact g| (refine cD g ?_;try simp only [IV.agg.injEq,IV.tuple.injEq,IV.int.injEq,IV.bool.injEq,BI,true_and,and_true]; (try simp only [beq_iff_eq,beq_eq_false_iff_ne,bne_iff_ne,ne_eq,decide_eq_true_eq,decide_eq_false_iff_not,bne_eq_false_iff_eq]at*);grind [V9])
 ·exact g.elim
def cUn:=aV 202 kUn a5A
theorem d6R:aO env cUn:=aF sUn (a9P)
def Py(xs:Y14)(h:Heap)(K:KT):Prop:=match xs with
 | [.int .u64 x]=>(0<=x/\x<=18446744073709551615)/\K (.int .i64 (gA x.toNat:Int)) h
 |_=>False
def zD:Y11:=[0,1,2,2,3,3,3,3,4,4,4,4,4,4,4,4,5,5,5,5,5,5,5,5,5,5,5,5,5,5,5,5,6,6,6,6,6,6,6,6,6,6,6,6,6,6,6,6,6,6,6,6,6,6,6,6,6,6,6,6,6,6,6,6,7,7,7,7,7,7,7,7,7,7,7,7,7,7,7,7,7,7,7,7,7,7,7,7,7,7,7,7,7,7,7,7,7,7,7,7,
 7,7,7,7,7,7,7,7,7,7,7,7,7,7,7,7,7,7,7,7,7,7,7,7,7,7,7,7,8,8,8,8,8,8,8,8,8,8,8,8,8,8,8,8,8,8,8,8,8,8,8,8,8,8,8,8,8,8,8,8,8,8,8,8,8,8,8,8,8,8,8,8,8,8,8,8,8,8,8,8,8,8,8,8,8,8,8,8,8,8,8,8,8,8,8,8,8,8,8,8,8,
 8,8,8,8,8,8,8,8,8,8,8,8,8,8,8,8,8,8,8,8,8,8,8,8,8,8,8,8,8,8,8,8,8,8,8,8,8,8,8,8,8,8,8,8,8,8,8,8,8,8,8,8,8,8,8]
def V2(x:Int):=Int.fdiv x 4294967296
def Mr(x:Int):=Int.fdiv (V2 x) 65536
theorem d2E(x:Int)(h:Heap)(Q:KT):dF (aR cUn) env 300 cS bK bK [.int .u64 x] h Q=(
 aI (decide (x>=4294967296)) (aI (decide (Int.fdiv x 4294967296>=65536)) (aI (decide (Int.fdiv (V2 x) 65536>=256)) (aC (decide (0<=IntKind.wrap .u8 (Int.fdiv (Mr x) 256))) (nC zD ((IntKind.wrap .u8 (Int.fdiv (Mr x) 256)).toNat) fun g=>Q (.int .i64 (wW ((56:Int)+wW g))) h)) (aC (decide (0<=IntKind.wrap .u8 (Mr x))) (nC zD ((IntKind.wrap .u8 (Mr x)).toNat) fun c1=>Q (.int .i64 (wW ((48:Int)+wW c1))) h))) (aI (decide (Int.fdiv x 4294967296>=256)) (aC (decide (0<=IntKind.wrap .u8 (Int.fdiv (V2 x) 256))) (nC zD ((IntKind.wrap .u8 (Int.fdiv (V2 x) 256)).toNat) fun c2=>Q (.int .i64 (wW ((40:Int)+wW c2))) h)) (aC (decide (0<=IntKind.wrap .u8 (V2 x))) (nC zD ((IntKind.wrap .u8 (V2 x)).toNat) fun j=>Q (.int .i64 (wW ((32:Int)+wW j))) h)))) (aI (decide (x>=65536)) (aI (decide (Int.fdiv x 65536>=256)) (aC (decide (0<=IntKind.wrap .u8 (Int.fdiv (Int.fdiv x 65536) 256))) (nC zD ((IntKind.wrap .u8 (Int.fdiv (Int.fdiv x 65536) 256)).toNat) fun l=>Q (.int .i64 (wW ((24:Int)+wW l))) h)) (aC (decide (0<=IntKind.wrap .u8 (Int.fdiv x 65536))) (nC zD ((IntKind.wrap .u8 (Int.fdiv x 65536)).toNat) fun m=>Q (.int .i64 (wW ((16:Int)+wW m))) h))) (aI (decide (x>=256)) (aC (decide (0<=IntKind.wrap .u8 (Int.fdiv x 256))) (nC zD ((IntKind.wrap .u8 (Int.fdiv x 256)).toNat) fun p=>Q (.int .i64 (wW ((8:Int)+wW p))) h)) (aC (decide (0<=IntKind.wrap .u8 x)) (nC zD ((IntKind.wrap .u8 x).toNat) fun q=>Q (.int .i64 (wW ((0:Int)+wW q))) h))))):=by kernel_rfl
theorem d0Q: ∀xs h Q,Py xs h Q->aL env 300 xs h Q:=by
 intro xs h Q j;unfold Py at j;split at j
 ·rename_i x;refine aN (d6R) (d2E x h Q) ?_;delta zD V2 Mr wW;obtain⟨⟨h1,h2⟩,j⟩:=j;have f: ∀z p:Int,0<=p->z.fdiv p=z/p:=fun z p G=>CA _ G
  have r:=fun z=>f z 4294967296 JF
  have y:=fun z=>f z 65536 JF
  have A:=fun z=>f z 256 JF
  have l:=fun(z:Int)(D:(4294967296:Int)<=z)=>J8 (x:=z) 32 4294967296 JG JF
  have m:=fun(z:Int)(D:(65536:Int)<=z)=>J8 (x:=z) 16 65536 JG JF
  have q:=fun(z:Int)(D:(256:Int)<=z)=>J8 (x:=z) 8 256 JG JF
  simp only [Int.cast_ofNat_Int]at l m q;refine aB (fun c1=>aB (fun c2=>aB (fun g=>?_) (fun g=>?_)) (fun c2=>aB (fun g=>?_) (fun g=>?_))) (fun c1=>aB (fun c2=>aB (fun g=>?_) (fun g=>?_)) (fun c2=>aB (fun g=>?_) (fun g=>?_)))
  all_goals simp only [decide_eq_true_eq,decide_eq_false_iff_not,r,y,A]at c1 c2 g
  all_goals refine a8G (n:=x.toNat) (by(try simp only [r,y,A]);omega) (by(try simp only [r,y,A]);omega) JF ?_ j _ (by kernel_rfl)
  all_goals try simp only [r,y,A]
  ·rw [l _ c1,m _ c2,q _ g];omega
  ·rw [l _ c1,m _ c2];omega
  ·rw [l _ c1,q _ g];omega
  ·rw [l _ c1];omega
  ·rw [m _ c2,q _ g];omega
  ·rw [m _ c2];omega
  ·rw [q _ g];omega
  ·omega
 ·exact j.elim
def Ny:=aV 300 Py cUn
theorem We:aO env Ny:=aF d0Q (d6R)
def Qb(xs:Y14)(h:Heap)(K:KT):Prop:=match xs with
 | [.int .u64 x,.int .u64 y]=>((0<=x/\x<=18446744073709551615)/\(0<=y/\y<=18446744073709551615))/\K (.tuple [.int .u64 (E4 x y),.int .u64 (IntKind.u64.wrap (x*y))]) h
 |_=>False
theorem d2H(x y:Int)(h:Heap)(Q:KT):dF (aR Ny) env 299 cS bK bK [.int .u64 x,.int .u64 y] h Q=(
 Q (IV.tuple [IV.int .u64 (IntKind.wrap .u64 (IntKind.wrap .u64 (IntKind.wrap .u64 (Int.fdiv x 4294967296*Int.fdiv y 4294967296)+Int.fdiv (IntKind.wrap .u64 (IntKind.wrap .u64 (Int.fdiv x 4294967296*cW .u64 y 4294967295)+Int.fdiv (IntKind.wrap .u64 (cW .u64 x 4294967295*cW .u64 y 4294967295)) 4294967296)) 4294967296)+Int.fdiv (IntKind.wrap .u64 (cW .u64 (IntKind.wrap .u64 (IntKind.wrap .u64 (Int.fdiv x 4294967296*cW .u64 y 4294967295)+Int.fdiv (IntKind.wrap .u64 (cW .u64 x 4294967295*cW .u64 y 4294967295)) 4294967296)) 4294967295+IntKind.wrap .u64 (cW .u64 x 4294967295*Int.fdiv y 4294967296))) 4294967296)),IV.int .u64 (IntKind.wrap .u64 (x*y))]) h):=by kernel_rfl
theorem d0T: ∀xs h Q,Qb xs h Q->aL env 299 xs h Q:=by
 intro xs h Q g;unfold Qb at g;split at g
 ·rename_i x y;refine aN (We) (d2H x y h Q) ?_;obtain⟨⟨⟨h1,h2⟩,h3,h4⟩,g⟩:=g;rw [Iz h1 h2 h3 h4];exact g
 ·exact g.elim
def Oa:=aV 299 Qb Ny
theorem Wg:aO env Oa:=aF d0T (We)
def O9(xs:Y14)(h:Heap)(K:KT):Prop:=match xs with
 | [.int .i64 a,.int .i64 b]=>(inR a/\inR b)/\K (.tuple [.int .i64 (IntKind.i64.wrap (a*b)),.bool (jL (a*b))]) h
 |_=>False
def zB(a b:Int):=wW (IntKind.wrap .u64 (IntKind.wrap .u64 a*IntKind.wrap .u64 b))
def Mh(a b:Int):=E4 (IntKind.wrap .u64 a) (IntKind.wrap .u64 b)
theorem b2J(a b:Int)(h:Heap)(Q:KT):dF (aR Oa) env 259 cS bK bK [.int .i64 a,.int .i64 b] h Q=(
 ((0<=IntKind.wrap .u64 a/\IntKind.wrap .u64 a<=18446744073709551615)/\0<=IntKind.wrap .u64 b/\IntKind.wrap .u64 b<=18446744073709551615)/\aI (decide (a<0)) (aI (decide (b<0)) (Q (.tuple [.int .i64 (zB a b),IV.bool (wW (wW (wW (Mh a b)-b)-a)==Int.fdiv (zB a b) 9223372036854775808)]) h) (Q (.tuple [.int .i64 (zB a b),IV.bool (wW (wW (Mh a b)-b)==Int.fdiv (zB a b) 9223372036854775808)]) h)) (aI (decide (b<0)) (Q (.tuple [.int .i64 (zB a b),IV.bool (wW (wW (Mh a b)-a)==Int.fdiv (zB a b) 9223372036854775808)]) h) (Q (.tuple [.int .i64 (zB a b),IV.bool (wW (Mh a b)==Int.fdiv (zB a b) 9223372036854775808)]) h))):=by kernel_rfl
theorem b1C: ∀xs h Q,O9 xs h Q->aL env 259 xs h Q:=by
 intro xs h Q g;unfold O9 at g;split at g
 ·rename_i a b;refine aN (Wg) (b2J a b h Q) ?_;delta zB Mh wW;obtain⟨⟨j,l⟩,g⟩:=g;have m: ∀z,0<=IntKind.u64.wrap z/\IntKind.u64.wrap z<=18446744073709551615:=fun z=>by rw [uQ];omega
  refine⟨⟨m a,m b⟩,?_⟩;simp only [a8K,a2H];refine aB (fun c1=>aB (fun c2=>cD g ?_) (fun c2=>cD g ?_)) (fun c1=>aB (fun c2=>cD g ?_) (fun c2=>cD g ?_))
  all_goals simp only [decide_eq_true_eq,decide_eq_false_iff_not]at c1 c2
  ·rw [yI j l (by rw [if_pos c1,if_pos c2])]
  ·rw [yI j l (by rw [if_pos c1,if_neg c2];omega)]
  ·rw [yI j l (by rw [if_neg c1,if_pos c2];omega)]
  ·rw [yI j l (by rw [if_neg c1,if_neg c2];omega)]
 ·exact g.elim
def K8:=aV 259 O9 Oa
theorem Ar:aO env K8:=aF b1C (Wg)
def Ql(xs:Y14)(h:Heap)(K:KT):Prop:=match xs with
 | [.int .i64 a,.int .i64 b]=>(inR a/\1<=b)/\K (.tuple [.int .i64 (a.tdiv b),.bool true]) h
 |_=>False
theorem d2S(a b:Int)(h:Heap)(Q:KT):dF (aR K8) env 260 cS bK bK [.int .i64 a,.int .i64 b] h Q=(
 aC (!b==0) (Q (.tuple [.int .i64 (wW (Int.tdiv a b)),IV.bool true]) h)):=by kernel_rfl
theorem d1C: ∀xs h Q,Ql xs h Q->aL env 260 xs h Q:=by
 intro xs h Q g;unfold Ql at g;split at g
 ·rename_i a b;refine aN (Ar) (d2S a b h Q) ?_;delta wW;obtain⟨⟨j,l⟩,g⟩:=g;refine aA (by simp;omega) ?_;rw [Ft j JF JF];exact g
 ·exact g.elim
def Oh:=aV 260 Ql K8
theorem Wn:aO env Oh:=aF d1C (Ar)
def uF(xs:Y14)(h:Heap)(K:KT):Prop:=match xs with
 | [.agg [.int .i64 a,.int .i64 b],.agg [.int .i64 c,.int .i64 d],.func (.func 259) [] []]=>((inR a/\inR b)/\(inR c/\inR d))/\K (.agg [.int .i64 (W6 a b c d).1,.int .i64 (W6 a b c d).2]) h
 |_=>False
theorem a2B(a b c d:Int)(h:Heap)(Q:KT):dF (aR Oh) env 258 (fun k=>match Nat.beq k 4 with|true=>3|false=>match Nat.beq k 7 with|true=>3|false=>0) bK bK [.agg [.int .i64 a,.int .i64 b],.agg [.int .i64 c,.int .i64 d],.func (.func 259) [] []] h Q=(
 (inR a/\inR c)/\aI (!jL (a*c)) (Q (.agg [.int .i64 (-9223372036854775808),iI 9223372036854775807]) h) ((inR a/\inR d)/\aI (!jL (a*d)) (Q (.agg [.int .i64 (-9223372036854775808),iI 9223372036854775807]) h) ((inR b/\inR c)/\aI (!jL (b*c)) (Q (.agg [.int .i64 (-9223372036854775808),iI 9223372036854775807]) h) ((inR b/\inR d)/\aI (!jL (b*d)) (Q (.agg [.int .i64 (-9223372036854775808),iI 9223372036854775807]) h) (Q (IV.agg [iI (min (min (min (wW (a*c)) (wW (a*d))) (wW (b*c))) (wW (b*d))),iI (max (max (max (wW (a*c)) (wW (a*d))) (wW (b*c))) (wW (b*d)))]) h))))):=by kernel_rfl
theorem Bf: ∀xs h Q,uF xs h Q->aL env 258 xs h Q:=by
 intro xs h Q g;unfold uF at g;split at g
 ·rename_i a b c d;refine aN (Wn) (a2B a b c d h Q) ?_;delta wW iI;obtain⟨⟨⟨m,p⟩,q,hd⟩,g⟩:=g;refine⟨⟨m,q⟩,aB (fun c1=>cD g ?_) (fun c1=>⟨⟨m,hd⟩,aB (fun c2=>cD g ?_) (fun c2=>⟨⟨p,q⟩,aB (fun j=>cD g ?_) (fun j=>⟨⟨p,hd⟩,aB (fun l=>cD g ?_) (fun l=>cD g ?_)⟩)⟩)⟩)⟩
  all_goals simp only [CC,BO]at*
  all_goals unfold W6
  ·simp [c1]
  ·simp [c2]
  ·simp [j]
  ·simp [l]
  ·rw [iE c1,iE c2,iE j,iE l];simp only [c1,c2,j,l,IN,if_true,Ix,Iw,Int.min_assoc,Int.max_assoc]
 ·exact g.elim
def zQ:=aV 258 uF Oh
theorem Q7:aO env zQ:=aF Bf (Wn)
def uE(xs:Y14)(h:Heap)(K:KT):Prop:=match xs with
 | [.agg [.int .i64 a,.int .i64 b],.agg [.int .i64 c,.int .i64 d],.func (.func 260) [] []]=>((((inR a/\inR b)/\(inR c/\inR d)))/\1<=c/\c<=d)/\K (.agg [.int .i64 (W5 a b c d).1,.int .i64 (W5 a b c d).2]) h
 |_=>False
theorem a2A(a b c d:Int)(h:Heap)(Q:KT):dF (aR zQ) env 258 (fun k=>match Nat.beq k 4 with|true=>3|false=>match Nat.beq k 7 with|true=>3|false=>0) bK bK [.agg [.int .i64 a,.int .i64 b],.agg [.int .i64 c,.int .i64 d],.func (.func 260) [] []] h Q=(
 (inR a/\1<=c)/\(inR a/\1<=d)/\(inR b/\1<=c)/\(inR b/\1<=d)/\Q (.agg [.int .i64 (min (min (min (Int.tdiv a c) (Int.tdiv a d)) (Int.tdiv b c)) (Int.tdiv b d)),iI (max (max (max (Int.tdiv a c) (Int.tdiv a d)) (Int.tdiv b c)) (Int.tdiv b d))]) h):=by kernel_rfl
theorem Be: ∀xs h Q,uE xs h Q->aL env 258 xs h Q:=by
 intro xs h Q g;unfold uE at g;split at g
 ·rename_i a b c d;refine aN (Q7) (a2A a b c d h Q) ?_;delta iI;obtain⟨⟨⟨⟨j,l⟩,m,hd⟩,h1,h2⟩,g⟩:=g;refine⟨⟨j,h1⟩,⟨j,JF⟩,⟨l,h1⟩,⟨l,JF⟩,cD g ?_⟩;unfold W5
  rw [if_neg JF];simp only [Ix,Iw,Int.min_assoc,Int.max_assoc]
 ·exact g.elim
def zP:=aV 258 uE zQ
theorem Q6:aO env zP:=aF Be (Q7)
def O0(xs:Y14)(h:Heap)(K:KT):Prop:=match xs with
 | [.int .i64 o,.agg [.int .i64 a,.int .i64 b],.agg [.int .i64 c,.int .i64 d]]=>((o=9\/o=10\/o=11)/\((inR a/\inR b)/\(inR c/\inR d))/\a<=b/\c<=d)/\K (.agg [.int .i64 (mG o a b c d).1,.int .i64 (mG o a b c d).2]) h
 |_=>False
def Mi(o a b c d:Int)(h:Heap)(Q:KT):=aI (o==9) (Q (.agg [.int .i64 (-9223372036854775808),iI 9223372036854775807]) h) (aI (decide (a<0)) (Q (.agg [.int .i64 (-9223372036854775808),iI 9223372036854775807]) h) (aI (decide (c<0)) (Q (.agg [.int .i64 (-9223372036854775808),iI 9223372036854775807]) h) ((0<=IntKind.wrap .u64 (if
 d>b then d else b)/\IntKind.wrap .u64 (if d>b then d else b)<=18446744073709551615)/\aI (o==10) (Q (.agg [.int .i64 (if c>a then c else a),iI (wW (wW ((1:Int)*(2:Int) ^min ((IntKind.wrap .u64 (↑(gA ((IntKind.wrap .u64 (if d>b then d else b)).toNat)):Int)).toNat) (64
 :Nat))-1))]) h) (Q (.agg [.int .i64 0,iI (wW (wW ((1:Int)*(2:Int) ^min ((IntKind.wrap .u64 (↑(gA ((IntKind.wrap .u64 (if d>b then d else b)).toNat)):Int)).toNat) 64)-1))]) h))))
def Yt(o a b c d:Int)(h:Heap)(Q:KT):=aI (o==9) (aI (decide (a>=0)) (Q (.agg [.int .i64 0,iI b]) h) (aI (o==9) (aI (decide (c>=0)) (Q (.agg [.int .i64 0,iI d]) h) (Mi o a b c d h Q)) (Mi o a b c d h Q))) (aI (o==9) (aI (decide (c>=0)) (Q (.agg [.int .i64 0,iI d]) h) (Mi o a b c d h Q)) (Mi o a b c d h Q))
theorem b2B(o a b c d:Int)(h:Heap)(Q:KT):dF (aR zP) env 262 cS bK bK [.int .i64 o,.agg [.int .i64 a,.int .i64 b],.agg [.int .i64 c,.int .i64 d]] h Q=(
 aI (o==9) (aI (decide (a>=0)) (aI (decide (c>=0)) (Q (.agg [.int .i64 0,iI (if d<b then d else b)]) h) (Yt o a b c d h Q)) (Yt o a b c d h Q)) (Yt o a b c d h Q)):=by kernel_rfl
theorem b0V: ∀xs h Q,O0 xs h Q->aL env 262 xs h Q:=by
 intro xs h Q g;unfold O0 at g;split at g
 ·rename_i o a b c d;refine aN (Q6) (b2B o a b c d h Q) ?_;delta Mi Yt wW iI;obtain⟨⟨G,⟨⟨l,q⟩,r,hd⟩,p,z⟩,g⟩:=g;have A: ∀x y:Int,(if y<x then y else x)=min x y:=fun x y=>JF
  have D: ∀x y:Int,(if y>x then y else x)=max x y:=fun x y=>JF
  simp only [A,D];unfold inR at l q r hd
  by_cases hs:0<=a/\0<=c
  ·have j:IntKind.u64.wrap (max b d)=max b d:=HB _ JF;simp only [j,Xd (m:=max b d) JF JF]
   repeat' (first|refine aA ?_ ?_|refine aB (fun _=>?_) (fun _=>?_)|refine And.intro ?_ ?_)
   all_goals first|exact g|omega| (refine cD g ?_;simp only [IV.agg.injEq,IV.tuple.injEq,IV.int.injEq,IV.bool.injEq,BI,true_and,and_true];grind [mG])
  ·repeat' (first|refine aA ?_ ?_|refine aB (fun _=>?_) (fun _=>?_)|refine And.intro ?_ ?_)
   all_goals first|exact g| (exfalso;grind)| (refine cD g ?_;simp only [IV.agg.injEq,IV.tuple.injEq,IV.int.injEq,IV.bool.injEq,BI,true_and,and_true];grind [mG])
 ·exact g.elim
def Hg:=aV 262 O0 zP
theorem a0X:aO env Hg:=aF b0V (Q6)
def c8K(xs:Y14)(h:Heap)(K:KT):Prop:=match xs with
 | [a,b,c,d,.func (.func f) p q]=>match Nat.beq f 256 with|true=>xN [a,b,c,d,.func (.func f) p q] h K|false=>xM [a,b,c,d,.func (.func f) p q] h K
 |_=>False
theorem e3B: ∀xs h Q,c8K xs h Q->aL env 255 xs h Q:=by
 intro xs h Q g;unfold c8K at g;split at g
 ·split at g
  ·exact Kk _ _ _ g
  ·exact Kj _ _ _ g
 ·exact g.elim
def d5S:=aV 255 c8K Hg
theorem d6P:aO env d5S:=aF e3B (a0X)
def c8U(xs:Y14)(h:Heap)(K:KT):Prop:=match xs with
 | [a,b,.func (.func f) p q]=>match Nat.beq f 259 with|true=>uF [a,b,.func (.func f) p q] h K|false=>uE [a,b,.func (.func f) p q] h K
 |_=>False
theorem e3L: ∀xs h Q,c8U xs h Q->aL env 258 xs h Q:=by
 intro xs h Q g;unfold c8U at g;split at g
 ·split at g
  ·exact Bf _ _ _ g
  ·exact Be _ _ _ g
 ·exact g.elim
def c7G:=aV 258 c8U d5S
theorem c5H:aO env c7G:=aF e3L (d6P)
def c8J(xs:Y14)(h:Heap)(K:KT):Prop:=match xs with
 | [.int .i64 o,.agg [.int .i64 a,.int .i64 b],.agg [.int .i64 c,.int .i64 d]]=>((inR a/\inR b)/\(inR c/\inR d))/\K (.agg [.int .i64 (pH o a b c d).1,.int .i64 (pH o a b c d).2]) h
 |_=>False
def Bv:=IV.agg [.int .i64 (-9223372036854775808),iI 9223372036854775807]
def b3Q(o a b c d:Int)(h:Heap)(Q:KT):=aI (o==4) (((inR a/\inR c)/\inR b/\inR d)/\Q (.agg [.int .i64 ((M13.V8 (a+c) (b+d)).1),iI ((M13.V8 (a+c) (b+d)).2)]) h) (aI (o==5) (((inR a/\inR d)/\inR b/\inR c)/\Q (.agg [.int .i64 ((M13.V8 (a-d) (b-c)).1),iI ((M13.V8 (a-d) (b-c)).2)])
 h) (aI (o==6) (((inR a/\inR b)/\inR c/\inR d)/\Q (.agg [.int .i64 ((W6 a b c d).1),iI ((W6 a b c d).2)]) h) (aI (o==7) (aI (decide (c<1)) (Q Bv h) ((((inR a/\inR b)/\inR c/\inR d)/\1<=c/\c<=d)/\Q (.agg [.int .i64 ((W5 a b c d).1),iI ((W5
 a b c d).2)]) h)) (aI (o==8) ((((inR a/\inR b)/\inR c/\inR d)/\c<=d)/\Q (.agg [.int .i64 ((G6 a b c d).1),iI ((G6 a b c d).2)]) h) (aI (o==9) (((o=9\/o=10\/o=11)/\((inR a/\inR b)/\inR c/\inR d)/\a<=b/\c<=d)/\Q (.agg [.int .i64 ((mG o a b c d).1),
 iI ((mG o a b c d).2)]) h) (aI (o==10) (((o=9\/o=10\/o=11)/\((inR a/\inR b)/\inR c/\inR d)/\a<=b/\c<=d)/\Q (.agg [.int .i64 ((mG o a b c d).1),iI ((mG o a b c d).2)]) h) (aI (o==11) (((o=9\/o=10\/o=11)/\((inR a/\inR b)/\inR c/\inR d)/\
 a<=b/\c<=d)/\Q (.agg [.int .i64 ((mG o a b c d).1),iI ((mG o a b c d).2)]) h) (aI (o==12) (Q (.agg [.int .i64 ((vX o a b c d).1),iI ((vX o a b c d).2)]) h) (aI (o==13) (Q (.agg [.int .i64 ((vX o a b c d).1),iI ((vX o a b c d).2)]) h)
 (aI (o==14) (Q (.agg [.int .i64 ((vX o a b c d).1),iI ((vX o a b c d).2)]) h) ((a<=b/\c<=d)/\Q (.agg [.int .i64 ((Dp o a b c d).1),iI ((Dp o a b c d).2)]) h)))))))))))
theorem e4D(o a b c d:Int)(h:Heap)(Q:KT):dF (aR c7G) env 203 cS bK bK [.int .i64 o,.agg [.int .i64 a,.int .i64 b],.agg [.int .i64 c,.int .i64 d]] h Q=(
 aI (decide (o<4)) (Q Bv h) (aI (decide (o>19)) (Q Bv h) (aI (!decide (a<=b)) (Q Bv h) (aI (!decide (c<=d)) (Q Bv h) (aI (a==b) (aI (c==d) (Q (.agg [.int .i64 (oG o a c),iI (oG o a c)]) h) (b3Q o a b c d h Q)) (b3Q o a b c d h Q)))))):=by kernel_rfl
theorem e3A: ∀xs h Q,c8J xs h Q->aL env 203 xs h Q:=by
 intro xs h Q g;unfold c8J at g;split at g
 ·rename_i o a b c d;refine aN (c5H) (e4D o a b c d h Q) ?_;delta b3Q Bv iI;obtain⟨⟨⟨j,l⟩,m,hd⟩,g⟩:=g
  repeat' (first|refine aA ?_ ?_|refine aB (fun _=>?_) (fun _=>?_)|refine And.intro ?_ ?_)
  all_goals simp only [decide_eq_true_eq,decide_eq_false_iff_not,beq_iff_eq,beq_eq_false_iff_ne,ne_eq,CC,BO]at*
  all_goals first|assumption| (unfold inR at*;omega)| (refine⟨?_,?_⟩<;>assumption)| (refine cD g ?_;simp only [IV.agg.injEq,IV.tuple.injEq,IV.int.injEq,IV.bool.injEq,BI,true_and,and_true];grind [pH,W5,W6,iE,a0B])
 ·exact g.elim
def c6Y:=aV 203 c8J c7G
theorem c4Z:aO env c6Y:=aF e3A (c5H)
end Go.Proofs.YthimicfahhgpcaaGreat
end
end
