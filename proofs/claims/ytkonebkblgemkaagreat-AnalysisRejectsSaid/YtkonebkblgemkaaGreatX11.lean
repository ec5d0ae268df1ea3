/-
  Texts of this proof, one after the other.
  Conditions: none.
-/
import Derived.Test.YtkonebkblgemkaaGreatX10
set_option linter.unusedVariables false
set_option linter.unusedSimpArgs false
set_option maxRecDepth 100000
set_option maxHeartbeats 4000000
noncomputable section
section
namespace Go.Proofs.YtkonebkblgemkaaGreat
open Go.Pv Go.M13 Go.M15 Go.M10 Go.M14
def LOk(l:List Nd):Prop:=l.length<=100000/\∀n∈l,n.ks.length<=40
def ASG(l:List Nd)(i id:Nat)(g:Heap)(j:List Int):Prop:=i<=l.length/\g.get id= .cells (j.map (IV.int .i64))/\id<g.next/\j.length=l.length/\j.take i=(aG l).take i/\∀q,i<=q->j.getD q 0=0
def f6Z(l:List Nd):Inv':=hJ (Nat×Nat×Heap×List Int) (fun x=>[(0,.v (.vslice none 0 (l).length 3 ((l).flatMap cN))),(3,.v (.hslice x.2.1 0 l.length 1)),(12,.v (.vslice none 0 (l).length 3 ((l).flatMap cN))),(13,.v (.int .i64 (l.length:Int))),(14,.v (.int .i64 (x.1:Int)))]) (fun _=>[]) (fun x=>x.2.2.1) (fun x=>ASG l x.1 x.2.1 x.2.2.1 x.2.2.2/\True) (fun x=>l.length-x.1)
def g3A(l:List Nd):Inv':=hJ (Nat×Nat×Heap×List Int×Nat×Bool) (fun x=>[(0,.v (.vslice none 0 (l).length 3 ((l).flatMap cN))),(3,.v (.hslice x.2.1 0 l.length 1)),(12,.v (.vslice none 0 (l).length 3 ((l).flatMap cN))),(13,.v (.int .i64 (l.length:Int))),(14,.v (.int .i64 (x.1:Int))),(4,.v (.int .i64 (x.1:Int))),(6,.v (.bool x.2.2.2.2.2)),(20,.v (.vslice none 0 ((l.getD x.1 default).ks).length 1 (((l.getD x.1 default).ks).map (IV.int .i64)))),(21,.v (.int .i64 (l.getD x.1 default).ks.length)),(22,.v (.int .i64 (x.2.2.2.2.1:Int)))]) (fun _=>[]) (fun x=>x.2.2.1)
 (fun x=>ASG l x.1 x.2.1 x.2.2.1 x.2.2.2.1/\x.1<l.length/\x.2.2.2.2.1<=(l.getD x.1 default).ks.length/\x.2.2.2.2.2=!(((l.getD x.1 default).ks.take x.2.2.2.2.1).all (dL (aG (l.take x.1))))) (fun x=>(l.length-x.1)*100+((l.getD x.1 default).ks.length-x.2.2.2.2.1))
def a5O(xs:List IV)(h:Heap)(K:KT):Prop:=match xs with
 | [.vslice none e1 n1 3 c1]=> ∃l:List Nd,(n1=l.length/\c1=l.flatMap cN)/\LOk l/\K (.vslice none 0 (aG l).length 1 ((aG l).map (IV.int .i64))) h
 |_=>False
def mE(l:List Nd):=l.length
def tA(l:List Nd):=TV.v (.vslice none 0 (mE l) 3 (List.flatMap cN l))
def rA(g:Nat×Nat×Heap×List Int×Nat×Bool):=g.2.2
def qQ(g:Nat×Nat×Heap×List Int×Nat×Bool):=((rA g).2).2
def tB(l:List Nd)(g:Nat×Nat×Heap×List Int×Nat×Bool):=Nd.ks (List.getD l g.1 default)
def b2X(l:List Nd):=TV.v (.int .i64 ((mE l):Int))
def a7C:=IV.int .i64
def a1N(x:Nat×Nat×Heap×List Int):=x.2.2
def a1O(g:Nat×Nat×Heap×List Int×Nat×Bool):=g.2.1
def e0G(g:Nat×Nat×Heap×List Int×Nat×Bool):=TV.v (.int .i64 (g.1:Int))
def e7W(x:Nat×Nat×Heap×List Int):=TV.v (.int .i64 (x.1:Int))
def e0H(l:List Nd)(x:Nat×Nat×Heap×List Int)(i:Nat×Nat×Heap×List Int×Nat×Bool)(j:Heap):Prop:= ∃(g:Nat×Nat×Heap×List Int),some (tA l)=some (tA l)/\some (TV.v (.hslice (a1O i) 0 (mE l) 1))=some (TV.v (.hslice g.2.1 0 (mE l) 1))/\some (tA l)=some (tA l)/\some (b2X l)=some (b2X l)/\tI (wW ((i.1:Int)+1))=tI (g.1:Int)/\j=g.2.2.1/\((g.1<=
 l.length/\Heap.get g.2.2.1 g.2.1=IObj.cells (List.map a7C g.2.2.2)/\g.2.1<g.2.2.1.next/\g.2.2.2.length=l.length/\List.take g.1 g.2.2.2=List.take g.1 (aG l)/\∀(q:Nat),g.1<=q->List.getD g.2.2.2 q 0=0)/\True)/\l.length-g.1<l.length-x.1
def b8N(l:List Nd)(i:Nat×Nat×Heap×List Int×Nat×Bool)(j:Bool):Prop:= ∃(g:Nat×Nat×Heap×List Int×Nat×Bool),some (tA l)=some (tA l)/\some (TV.v (.hslice (a1O i) 0 (mE l) 1))=some (TV.v (.hslice g.2.1 0 (mE l) 1))/\some (tA l)=some (tA l)/\some (b2X l)=some (b2X l)/\some (e0G i)=tI (g.1:Int)/\some (e0G i)=tI (↑g.1
 :Int)/\some (TV.v (.bool (j)))=some (TV.v (.bool g.2.2.2.2.2))/\some (TV.v (.vslice none 0 ((tB l i).length) 1 (List.map a7C (tB l i))))=some (TV.v (.vslice none 0 ((Nd.ks (List.getD l g.1 default)).length) 1 (List.map a7C (Nd.ks (List.getD l g.1 default)))))/\tI (↑(List.length
 (tB l i)):Int)=tI (↑((Nd.ks (List.getD l g.1 default)).length):Int)/\tI (wW ((↑((qQ i).1):Int)+1))=tI (g.2.2.2.2.1:Int)/\Prod.fst (rA i)=g.2.2.1/\((g.1<=l.length/\Heap.get g.2.2.1 g.2.1=IObj.cells (List.map a7C g.2.2.2.1)/\g.2.1<g.2.2.1.next
 /\g.2.2.2.1.length=l.length/\List.take g.1 g.2.2.2.1=List.take g.1 (aG l)/\∀(q:Nat),g.1<=q->List.getD g.2.2.2.1 q 0=0)/\g.1<l.length/\g.2.2.2.2.1<=List.length (Nd.ks (List.getD l g.1 default))/\g.2.2.2.2.2=!List.all (List.take g.2.2.2.2.1 (Nd.ks (List.getD l g.1
 default))) (dL (aG (List.take g.1 l))))/\(l.length-g.1)*100+((Nd.ks (List.getD l g.1 default)).length-g.2.2.2.2.1)< (l.length-i.1)*100+((tB l i).length- (qQ i).1)
theorem e0I(l:List Nd)(G:Nat)(h:Heap)(Q:KT):dF (aV c3M) env 53 dV (icA 4 (f6Z l) (tK 1000008 (g3A l))) bT [.vslice none G (l).length 3 ((l).flatMap cN)] h Q=(
 aC (aN [IV.vslice none 0 (mE l) 3 (List.flatMap cN l)]) (aC (decide (0<=((mE l):Int)) && (decide (((mE l):Int)<=((mE l):Int)) && (decide (((mE l):Int)<=9223372036854775807) &&decide ((8:Int)*((mE l):Int)<=(140737488355328:Int))))) ((∃(x:Nat×Nat×Heap×List Int),some (tA l)=some (tA l)/\some (TV.v (.hslice 0 0 (((mE l):Int).toNat) 1))=some (TV.v (.hslice x.2.1 0 (mE l) 1))/\some (tA l)=some (tA l)/\some (b2X l)=some (b2X l)/\tI 0=some (e7W x)/\Heap.mk (PT.node PT.nil (some (IObj.cells (fF (((mE l):Int).toNat) [iI 0]))) PT.nil) ((0:Nat)+1)=(a1N x).1/\((x.1<=l.length/\Heap.get ((a1N x).1) (x.2.1)=IObj.cells (List.map a7C ((a1N x).2))/\x.2.1< ((a1N x).1).next/\List.length ((a1N x).2)=l.length/\List.take x.1 ((a1N x).2)=List.take x.1 (aG l)/\∀(q:Nat),x.1<=q->List.getD ((a1N x).2) q 0=0)/\True)/\True)/\∀(x:Nat×Nat×Heap×List Int)(b:FF),ASG l x.1 x.2.1 ((a1N x).1) ((a1N x).2)/\True->aM (decide ((x.1:Int)< ((mE l):Int))) (aC (decide (0<=(x.1:Int)) &&decide ((x.1:Int)< ((mE l):Int))) (aK .i64 (List.flatMap cN l) ((x.1:Int).toNat*3) fun O=>aK .i64 (List.flatMap cN l) ((x.1:Int).toNat*3+1) fun T=>bH 1 (List.flatMap cN l) ((x.1:Int).toNat*3+1+1) fun(K:Option Nat)(z y:Nat)(A:List IV)=> ∃(M:Nat),(∃(g:Nat×Nat×Heap×List Int×Nat×Bool),some (tA l)=some (tA l)/\some (TV.v (.hslice x.2.1 0 (mE l) 1))=some (TV.v (.hslice (a1O g) 0 (mE l) 1))/\some (tA l)=some (tA l)/\some (b2X l)=some (b2X l)/\some (e7W x)=some (e0G g)/\some (e7W x)=some (e0G g)/\some (TV.v (.bool false))=some (TV.v (.bool ((qQ g).2)))/\some (TV.v (.vslice K z y 1 A))=some (TV.v (.vslice none 0 ((tB l g).length) 1 (List.map a7C (tB l g))))/\tI (y:Int)=tI (↑((tB l g).length):Int)/\tI 0=some (TV.v (iI (↑((qQ g).1):Int)))/\Prod.fst (a1N x)=(rA g).1/\((g.1<=l.length/\Heap.get ((rA g).1) (a1O g)=IObj.cells (List.map a7C (((rA g).2).1))/\g.2.1< ((rA g).1).next/\List.length (((rA g).2).1)=l.length/\List.take g.1 (((rA g).2).1)=List.take g.1 (aG l)/\∀(q:Nat),g.1<=q->List.getD (((rA g).2).1) q 0=0)/\g.1<l.length/\Prod.fst (qQ g)<=List.length (tB l g)/\Prod.snd (qQ g)=!List.all (List.take ((qQ g).1) (tB l g)) (dL (aG (List.take g.1 l))))/\(l.length-g.1)*100+((tB l g).length- (qQ g).1)<=M)/\∀(g:Nat×Nat×Heap×List Int×Nat×Bool)(b:FF),ASG l g.1 (a1O g) ((rA g).1) (((rA g).2).1)/\g.1<l.length/\Prod.fst (qQ g)<=List.length (tB l g)/\Prod.snd (qQ g)=!List.all (List.take ((qQ g).1) (tB l g)) (dL (aG (List.take (g.1) l)))->(l.length-g.1)*100+((tB l g).length- (qQ g).1)<=M->aM (decide ((↑((qQ g).1):Int)< (↑((tB l g).length):Int))) (aC (decide (0<=(↑((qQ g).1):Int)) &&decide ((↑((qQ g).1):Int)< (↑((tB l g).length):Int))) (aK .i64 (List.map a7C (tB l g)) ((↑((qQ g).1):Int).toNat*1) fun p=>aM ((qQ g).2) (b8N l g true) (aM (decide (p<0)) (b8N l g true) (aM (decide (p>=(g.1:Int))) (b8N l g true) (aC (decide (0<=p) &&decide (p< ((mE l):Int))) (aF ((rA g).1) (a1O g) fun L=>aK .i64 L ((0:Nat)+p.toNat*1) fun D=>b8N l g (D==0))))))) (aM (!Prod.snd (qQ g)) (∃(j:List Nd),∃(i:Nat),∃(r:List Int),(l.length=j.length/\List.flatMap cN l=List.flatMap cN j/\(g.1:Int)=(i:Int)/\l.length=r.length)/\(NGP j i r/\Heap.get ((rA g).1) (a1O g)=IObj.cells (List.map a7C r)/\g.2.1< ((rA g).1).next)/\∀(h2:Heap),h2.get (a1O g)=((rA g).1).get (a1O g)/\Heap.next ((rA g).1)<=Heap.next h2->aC (decide (0<=(g.1:Int)) &&decide ((g.1:Int)< ((mE l):Int))) (aF h2 (a1O g) fun(u:List IV)=>aC (Nat.ble ((0:Nat)+(g.1:Int).toNat*1+1) u.length) (e0H l x g (h2.set (a1O g) (IObj.cells (List.take ((0:Nat)+(g.1:Int).toNat*1) u++ [iI (cC (List.take i j) (aG (List.take i j)) (List.getD j i default))]++List.drop ((0:Nat)+(g.1:Int).toNat*1+1) u)))))) (e0H l x g ((rA g).1))))) (aF ((a1N x).1) x.2.1 fun m=>aC (true&&Nat.ble ((0:Nat)+l.length*(1:Nat)) m.length) (aC (aN [IV.vslice none 0 (mE l) 1 (List.take (l.length*1) m)]) (Q (.vslice none 0 (mE l) 1 (List.take (l.length*1) m)) h)))))):=by kernel_rfl
theorem e0J: ∀xs h Q,a5O xs h Q->aU env 53 xs h Q:=by
 intro xs h Q Z;unfold a5O at Z;split at Z
 ·rename_i e1 n1 c1;obtain⟨l,⟨rfl,rfl⟩,hw,Z⟩:=Z;refine aS (c8U) (e0I l e1 h Q) ?_;delta e0H b8N tA qQ tB b2X rA a7C mE a1N a1O e0G e7W tI wW iI;have tn: ∀x:Nat,(x:Int).toNat=x:=h0Z
  obtain⟨a9,a6⟩:=(show LOk l from hw);refine aA (by simp only [aN,bL,gI,h1L]) (aA (by simp;omega) ⟨⟨(0,0,_,List.replicate l.length 0),(by rfl),(by rw [tn]),(by rfl),(by rfl),(by rfl),(by rfl),⟨⟨h1N _,?_,Nat.one_pos,by simp,rfl,fun q _=>?_⟩,trivial⟩,trivial⟩,?_⟩)
  ·show IObj.cells (fF _ _)=_;rw [tn,a8I]
  ·rw [List.getD_eq_getElem?_getD,h8C];split<;>rfl
  have kn: ∀i,i<l.length->(l.getD i default).ks.length<=40:=fun i hi=>by
   rw [cQ hi];exact a6 _ (h1B hi)
  rintro⟨i,id,g,k0⟩ _ ⟨ha,_⟩;obtain⟨hi,hg,b3,b4,a3,b0⟩:=(show ASG l i id g k0 from ha);dsimp only;refine dW (fun c=>?_) (fun c=>?_)
  ·have u:i<l.length:=by omega
   have f1:=kn i u;rw [cQ u]at f1;refine aA (by simp;omega) (a6X u (by rw [tn]) ⟨(l.length-i)*100+l[i].ks.length,⟨(i,id,g,k0,0,false),rfl,rfl,rfl,rfl,rfl,rfl,rfl,(by dsimp only;rw [cQ u]),(by dsimp only;rw [cQ u]),rfl,rfl,⟨ha,u,h1N _,rfl⟩,by dsimp only;rw [cQ u];omega⟩,?_⟩);rintro⟨m,id2,g2,r,j,w⟩ _ ⟨a0,p,hj,A⟩ hM;dsimp only at a0 p hj A hM⊢;obtain⟨b5,X,L,D,G,K⟩:=(show ASG l m id2 g2 r from a0);have f2:=kn m p;have tk:r.take m=aG (l.take m):=by
    rw [G];obtain⟨t,ht⟩:=jZ (h5S m l);rw [<-ht,h2Y (by rw [bD,h1Y];omega),h1H (by rw [bD,h1Y];omega)]
   refine dW (fun c1=>?_) (fun c1=>?_)
   ·have O:j< (l.getD m default).ks.length:=by omega
    have T:(((l.getD m default).ks.take (j+1)).all (dL (aG (l.take m))))=(((l.getD m default).ks.take j).all (dL (aG (l.take m))) &&dL (aG (l.take m)) (l.getD m default).ks[j]):=by
     rw [h1J O,List.all_append];simp
    have a1:dL (aG (l.take m)) (l.getD m default).ks[j]=(decide (0<=(l.getD m default).ks[j]) && (decide ((l.getD m default).ks[j]< (m:Int)) &&decide (r.getD ((l.getD m default).ks[j]).toNat 0≠0))):=by
     unfold dL
     rw [bD,h1Y,show min m l.length=m by omega]
     by_cases b1:0<=(l.getD m default).ks[j]
     ·by_cases b2:(l.getD m default).ks[j]< (m:Int)
      ·rw [<-tk,a1Y (by omega)]
      ·simp only [decide_eq_false b2,h3Z]
     ·simp only [decide_eq_false b1,h3Z]
    have nx: ∀b:Bool,b=!(((l.getD m default).ks.take (j+1)).all (dL (aG (l.take m))))->ASG l m id2 g2 r/\m<l.length/\j+1<=(l.getD m default).ks.length/\b=!(((l.getD m default).ks.take (j+1)).all (dL (aG (l.take m)))):=fun b hb=>⟨a0,p,O,hb⟩
    have Y:some (TV.v (IV.int IntKind.i64 (IntKind.i64.wrap ((j:Int)+1))))=some (TV.v (IV.int IntKind.i64 ((j+1:Nat):Int))):=by rw [h0X _ (by omega)];rfl
    refine aP ⟨by omega,by omega⟩ (jM O (by rw [h1W,tn]) (aD (fun V=>?_) (fun V=>?_)))
    ·exact⟨(m,id2,g2,r,j+1,true),rfl,rfl,rfl,rfl,rfl,rfl,rfl,rfl,rfl,Y,rfl,nx true (by rw [T,<-Bool.not_not (((l.getD m default).ks.take j).all _),<-A,V];rfl),by dsimp only;omega⟩
    ·have a2:(((l.getD m default).ks.take j).all (dL (aG (l.take m))))=true:=by rw [<-Bool.not_not (((l.getD m default).ks.take j).all _),<-A,V];rfl
     refine dW (fun c2=>?_) (fun c2=>dW (fun c3=>?_) (fun c3=>?_))
     ·exact⟨(m,id2,g2,r,j+1,true),rfl,rfl,rfl,rfl,rfl,rfl,rfl,rfl,rfl,Y,rfl,nx true (by rw [T,a2,a1,decide_eq_false (show¬0<=(l.getD m default).ks[j] by omega)];rfl),by dsimp only;omega⟩
     ·exact⟨(m,id2,g2,r,j+1,true),rfl,rfl,rfl,rfl,rfl,rfl,rfl,rfl,rfl,Y,rfl,nx true (by rw [T,a2,a1,decide_eq_false (show¬ (l.getD m default).ks[j]< (m:Int) by omega),h3Z,h5M];rfl),by dsimp only;omega⟩
     ·have q1:((l.getD m default).ks[j]).toNat<r.length:=by omega
      refine aP ⟨by omega,by omega⟩ (aB X (jM q1 (by omega) ⟨(m,id2,g2,r,j+1,r[((l.getD m default).ks[j]).toNat]==0),rfl,rfl,rfl,rfl,rfl,rfl,rfl,rfl,rfl,Y,rfl,nx _ ?_,by dsimp only;omega⟩));rw [T,a2,a1,decide_eq_true (show 0<=(l.getD m default).ks[j] by omega),decide_eq_true (show(l.getD m default).ks[j]< (m:Int) by omega),cQ q1,h2G,h2G,h2G];generalize r[((l.getD m default).ks[j]).toNat]=y
      by_cases z:y=0
      ·subst z;rfl
      ·rw [beq_eq_false_iff_ne.2 z,decide_eq_true (show y≠0 from z)];rfl
   ·have O:j=(l.getD m default).ks.length:=by omega
    rw [O,h5Q]at A;have hs:m< (aG l).length:=by rw [bD];exact p
    have a4:(aG l).getD m 0=cC (l.take m) (aG (l.take m)) (l.getD m default):=by rw [cQ p];exact mH (h0U p)
    refine aD (fun V=>?_) (fun V=>?_)
    ·rw [h2K]at V;have a7:(l.getD m default).ks.all (dL (aG (l.take m)))=true:=by rw [<-Bool.not_not ((l.getD m default).ks.all _),<-A,V];rfl
     refine⟨l,m,r,⟨rfl,rfl,rfl,D.symm⟩,⟨⟨p,a9,a6,D,tk,a7⟩,X,L⟩,fun h2 ⟨e2,n2⟩=>aP ⟨by omega,by omega⟩ (aB (e2.trans X) (aA (by rw [h1S];simp;omega) ⟨(m+1,id2,h2.set id2 (.cells ((r.take m++ [(aG l).getD m 0]++r.drop (m+1)).map (IV.int .i64))),r.take m++ [(aG l).getD m 0]++r.drop (m+1)),rfl,rfl,rfl,rfl,(by rw [h0X _ (by omega)];rfl),?_,⟨⟨p,aH,h1C L n2,?_,?_,?_⟩,trivial⟩,by dsimp only;omega⟩))⟩
     ·dsimp only;rw [tn,h1Q,h1W,a4];simp
     ·simp;omega
     ·dsimp only;have h1:(r.take m).length=m:=by rw [h1Y];omega
      rw [h2Y (by simp;omega),h1H (by simp;omega),G,h1J hs,cQ hs]
     ·intro q hq;dsimp only at hq⊢;rw [List.getD_eq_getElem?_getD,h1V (by simp;omega)];have h1:(r.take m++ [(aG l).getD m 0]).length=m+1:=by simp;omega
      rw [h1,h4N,show m+1+(q- (m+1))=q by omega,<-List.getD_eq_getElem?_getD];exact K q (by omega)
    ·rw [h3A]at V;have a8:(l.getD m default).ks.all (dL (aG (l.take m)))=false:=by rw [<-Bool.not_not ((l.getD m default).ks.all _),<-A,V];rfl
     have hz:(aG l).getD m 0=0:=by
      rw [a4];unfold cC
      rw [if_neg (by rw [a8];decide)]
     refine⟨(m+1,id2,g2,r),rfl,rfl,rfl,rfl,(by rw [h0X _ (by omega)];rfl),rfl,⟨⟨p,X,L,D,?_,fun q hq=>K q (by omega)⟩,trivial⟩,by dsimp only;omega⟩;have h0:=K m (h1D _);have a5:m<r.length:=by omega
     rw [cQ a5]at h0;rw [cQ hs]at hz;dsimp only;rw [h1J a5,h1J hs,G,h0,hz]
  ·obtain rfl:i=l.length:=by omega
   have hs:(aG l).length=l.length:=bD l;rw [h1H (by omega),h1H (by omega)]at a3;subst a3;refine aB hg (aA (by simp;omega) ?_);rw [h1H (by simp;omega)];rw [hs]at Z;exact aA (by simp only [aN,bL,cH,h1L]) Z
 ·exact Z.elim
def a5P:=bB 53 a5O c3M
theorem a9M:aT env a5P:=aI e0J (c8U)
end Go.Proofs.YtkonebkblgemkaaGreat
end
section
namespace Go.Proofs.YtkonebkblgemkaaGreat
open Go.Pv Go.M13
theorem e7X(c:Int):dH .i64 c 63=c%64:=d4L c
def g3B:List UInt8:=(List.range 256).map fun i=>UInt8.ofNat (fX i)
theorem e7Y: ∀i:Fin 256,g3B[(i:Nat)]?=some (UInt8.ofNat (fX i))/\(UInt8.ofNat (fX i)).toNat=fX i:=by decide+kernel
theorem e0K{y:Int}{k:Int}{n:Nat}(m:0<=y)(p:y<256)(z:0<=k/\k<=56)(e:(fX n:Int)=k+fX y.toNat){Q:KT}{h:Heap}(j:Q (.int .i64 (fX n)) h)(tab:List UInt8)(r:tab=g3B):
  aC (decide ((0:Int)<=IntKind.wrap IntKind.u8 y)) (a1A tab ((IntKind.wrap IntKind.u8 y).toNat) fun c=>Q (IV.int IntKind.i64 (IntKind.wrap IntKind.i64 (k+IntKind.wrap IntKind.i64 c))) h):=by
 have l:IntKind.u8.wrap y=y:=by
  unfold IntKind.wrap
  simp [IntKind.bits,IntKind.signed];omega
 rw [l];refine aA (by simp [m]) ?_;obtain⟨i,g⟩:=e7Y ⟨y.toNat,by omega⟩;unfold a1A
 simp only at i g;rw [r];rw [i];show Q (IV.int IntKind.i64 (IntKind.wrap IntKind.i64 (k+IntKind.wrap IntKind.i64 ((UInt8.ofNat (fX y.toNat)).toNat:Int)))) h;rw [g];have u:fX y.toNat<=8:=b0V (show y.toNat<2^8 by omega);rw [h0X (fX y.toNat:Int) (by omega),h0X _ (by omega),<-e];exact j
theorem d2H{a b c d:Int}(h:c<1):a1E a b c d=(fK,fW):=by
 unfold a1E
 rw [if_pos h]
def c3N(xs:List IV)(h:Heap)(K:KT):Prop:=match xs with
 | [.agg [.int .i64 a,.int .i64 b]]=>K (.bool (decide (a<=b))) h
 |_=>False
theorem f7A(a b:Int)(h:Heap)(Q:KT):dF (aV a5P) env 58 dV bT bT [.agg [.int .i64 a,.int .i64 b]] h Q=(
 Q (.bool (decide (a<=b))) h):=by kernel_rfl
theorem f7B: ∀xs h Q,c3N xs h Q->aU env 58 xs h Q:=by
 intro xs h Q g;unfold c3N at g;split at g
 ·rename_i a b;refine aS (a9M) (f7A a b h Q) ?_;exact g
 ·exact g.elim
def c3O:=bB 58 c3N a5P
theorem c8V:aT env c3O:=aI f7B (a9M)
def e0L(xs:List IV)(h:Heap)(K:KT):Prop:=match xs with
 | [.agg [.int .i64 a,.int .i64 b],.agg [.int .i64 c,.int .i64 d]]=>K (.agg [.int .i64 (min a c),.int .i64 (max b d)]) h
 |_=>False
theorem g3C(a b c d:Int)(h:Heap)(Q:KT):dF (aV c3O) env 102 dV bT bT [.agg [.int .i64 a,.int .i64 b],.agg [.int .i64 c,.int .i64 d]] h Q=(
 Q (.agg [.int .i64 (if c<a then c else a),iI (if d>b then d else b)]) h):=by kernel_rfl
theorem g3D: ∀xs h Q,e0L xs h Q->aU env 102 xs h Q:=by
 intro xs h Q g;unfold e0L at g;split at g
 ·rename_i a b c d;refine aS (c8V) (g3C a b c d h Q) ?_;delta iI
  repeat' (first|refine aA ?_ ?_|refine aD (fun _=>?_) (fun _=>?_)|refine And.intro ?_ ?_)
  all_goals first|assumption|omega| (refine cO g ?_;simp only [IV.agg.injEq,IV.tuple.injEq,IV.int.injEq,IV.bool.injEq,h2I,true_and,and_true];grind [])
 ·exact g.elim
def e0M:=bB 102 e0L c3O
theorem e0N:aT env e0M:=aI g3D (c8V)
def zX(xs:List IV)(h:Heap)(K:KT):Prop:=match xs with
 | [.agg [.int .i64 a,.int .i64 b],.int .i64 n]=>K (.bool (contains a b n)) h
 |_=>False
theorem d2I(a b n:Int)(h:Heap)(Q:KT):dF (aV e0M) env 121 dV bT bT [.agg [.int .i64 a,.int .i64 b],.int .i64 n] h Q=(
 aM (decide (n>=a)) (Q (.bool (decide (n<=b))) h) (Q (.bool false) h)):=by kernel_rfl
theorem d2J: ∀xs h Q,zX xs h Q->aU env 121 xs h Q:=by
 intro xs h Q g;unfold zX at g;split at g
 ·rename_i a b n;refine aS (e0N) (d2I a b n h Q) ?_
  repeat' (first|refine aA ?_ ?_|refine aD (fun _=>?_) (fun _=>?_)|refine And.intro ?_ ?_)
  all_goals first|assumption|omega| (refine cO g ?_;simp only [IV.agg.injEq,IV.tuple.injEq,IV.int.injEq,IV.bool.injEq,h2I,true_and,and_true];grind [contains])
 ·exact g.elim
def zY:=bB 121 zX e0M
theorem a5Q:aT env zY:=aI d2J (e0N)
def c3P(xs:List IV)(h:Heap)(K:KT):Prop:=match xs with
 | [.agg [.int .i64 a,.int .i64 b],.agg [.int .i64 c,.int .i64 d]]=>K (.tuple [.agg [.int .i64 (cP a b c d).1,.int .i64 (cP a b c d).2],.bool (dU a b c d)]) h
 |_=>False
theorem f7C(a b c d:Int)(h:Heap)(Q:KT):dF (aV zY) env 112 dV bT bT [.agg [.int .i64 a,.int .i64 b],.agg [.int .i64 c,.int .i64 d]] h Q=(
 aM (!decide ((if c>a then c else a)<=if d<b then d else b)) (Q (.tuple [.agg [.int .i64 0,iI 0],IV.bool false]) h) (Q (.tuple [.agg [.int .i64 (if c>a then c else a),iI (if d<b then d else b)],IV.bool true]) h)):=by kernel_rfl
theorem f7D: ∀xs h Q,c3P xs h Q->aU env 112 xs h Q:=by
 intro xs h Q g;unfold c3P at g;split at g
 ·rename_i a b c d;refine aS (a5Q) (f7C a b c d h Q) ?_;delta iI
  repeat' (first|refine aA ?_ ?_|refine aD (fun _=>?_) (fun _=>?_)|refine And.intro ?_ ?_)
  all_goals first|assumption|omega| (refine cO g ?_;simp only [IV.agg.injEq,IV.tuple.injEq,IV.int.injEq,IV.bool.injEq,h2I,true_and,and_true];grind [cP,dU])
 ·exact g.elim
def c3Q:=bB 112 c3P zY
theorem c8W:aT env c3Q:=aI f7D (a5Q)
def c3R(xs:List IV)(h:Heap)(K:KT):Prop:=match xs with
 | [.agg [.int .i64 a,.int .i64 b],.agg [.int .i64 c,.int .i64 d]]=>K (.agg [.int .i64 (wlo a c),.int .i64 (whi b d)]) h
 |_=>False
theorem f7E(a b c d:Int)(h:Heap)(Q:KT):dF (aV c3Q) env 104 dV bT bT [.agg [.int .i64 a,.int .i64 b],.agg [.int .i64 c,.int .i64 d]] h Q=(
 aM (decide (c<a)) (aM (decide (d>b)) (Q (.agg [.int .i64 (-9223372036854775808),iI 9223372036854775807]) h) (Q (.agg [.int .i64 (-9223372036854775808),iI b]) h)) (aM (decide (d>b)) (Q (.agg [.int .i64 a,iI 9223372036854775807]) h) (Q (.agg [.int .i64 a,iI b]) h))):=by kernel_rfl
theorem f7F: ∀xs h Q,c3R xs h Q->aU env 104 xs h Q:=by
 intro xs h Q g;unfold c3R at g;split at g
 ·rename_i a b c d;refine aS (c8W) (f7E a b c d h Q) ?_;delta iI
  repeat' (first|refine aA ?_ ?_|refine aD (fun _=>?_) (fun _=>?_)|refine And.intro ?_ ?_)
  all_goals first|assumption|omega| (refine cO g ?_;simp only [IV.agg.injEq,IV.tuple.injEq,IV.int.injEq,IV.bool.injEq,h2I,true_and,and_true];grind [wlo,whi])
 ·exact g.elim
def c3S:=bB 104 c3R c3Q
theorem c8X:aT env c3S:=aI f7F (c8W)
def e0O(xs:List IV)(h:Heap)(K:KT):Prop:=match xs with
 | []=>K (.agg [.int .i64 (-9223372036854775808),.int .i64 9223372036854775807]) h
 |_=>False
theorem g3E(h:Heap)(Q:KT):dF (aV c3S) env 105 dV bT bT [] h Q=(
 Q (.agg [.int .i64 (-9223372036854775808),iI 9223372036854775807]) h):=by kernel_rfl
theorem g3F: ∀xs h Q,e0O xs h Q->aU env 105 xs h Q:=by
 intro xs h Q g;unfold e0O at g;split at g
 ·skip
  refine aS (c8X) (g3E h Q) ?_;delta iI;exact g
 ·exact g.elim
def e0P:=bB 105 e0O c3S
theorem e0Q:aT env e0P:=aI g3F (c8X)
def b2Y(xs:List IV)(h:Heap)(K:KT):Prop:=match xs with
 | [.int .i64 a]=>K (.agg [.int .i64 a,.int .i64 a]) h
 |_=>False
theorem e7Z(a:Int)(h:Heap)(Q:KT):dF (aV e0P) env 168 dV bT bT [.int .i64 a] h Q=(
 Q (.agg [.int .i64 a,iI a]) h):=by kernel_rfl
theorem e8A: ∀xs h Q,b2Y xs h Q->aU env 168 xs h Q:=by
 intro xs h Q g;unfold b2Y at g;split at g
 ·rename_i a;refine aS (e0Q) (e7Z a h Q) ?_;delta iI;exact g
 ·exact g.elim
def b2Z:=bB 168 b2Y e0P
theorem b8O:aT env b2Z:=aI e8A (e0Q)
def f7G(xs:List IV)(h:Heap)(K:KT):Prop:=match xs with
 | [.int .i64 o,.int .i64 a]=>K (.int .i64 (wun o a)) h
 |_=>False
theorem g8M(o a:Int)(h:Heap)(Q:KT):dF (aV b2Z) env 169 dV bT bT [.int .i64 o,.int .i64 a] h Q=(
 aM (o==20) (Q (.int .i64 (wW ((0:Int)-a))) h) (aM (o==21) (Q (.int .i64 (a7I .i64 (-1:Int) a)) h) (Q (.int .i64 0) h))):=by kernel_rfl
theorem g8N: ∀xs h Q,f7G xs h Q->aU env 169 xs h Q:=by
 intro xs h Q g;unfold f7G at g;split at g
 ·rename_i o a;refine aS (b8O) (g8M o a h Q) ?_;delta wW
  repeat' (first|refine aA ?_ ?_|refine aD (fun _=>?_) (fun _=>?_)|refine And.intro ?_ ?_)
  all_goals first|exact g| (simp only [decide_eq_true_eq];exact nQ _)| (simp_all;done)| (refine cO g ?_;congr 1; (try simp only [beq_iff_eq,beq_eq_false_iff_ne,ne_eq]at*);unfold wun; (repeat (first|rw [if_pos (by assumption)]|rw [if_neg (by assumption)]));first|done|rfl)
 ·exact g.elim
def f7H:=bB 169 f7G b2Z
theorem f0Q:aT env f7H:=aI g8N (b8O)
def e0R(xs:List IV)(h:Heap)(K:KT):Prop:=match xs with
 | [.int .i64 a,.int .i64 b]=>K (.int .i64 (wV a b)) h
 |_=>False
theorem g3G(a b:Int)(h:Heap)(Q:KT):dF (aV f7H) env 208 dV bT bT [.int .i64 a,.int .i64 b] h Q=(
 aM (b==0) (Q (.int .i64 0) h) (aM (b==(-1:Int)) (Q (.int .i64 (wW ((0:Int)-a))) h) (aC (!b==0) (Q (.int .i64 (wW (Int.tdiv a b))) h)))):=by kernel_rfl
theorem g3H: ∀xs h Q,e0R xs h Q->aU env 208 xs h Q:=by
 intro xs h Q g;unfold e0R at g;split at g
 ·rename_i a b;refine aS (f0Q) (g3G a b h Q) ?_;delta wW
  repeat' (first|refine aA ?_ ?_|refine aD (fun _=>?_) (fun _=>?_)|refine And.intro ?_ ?_)
  all_goals first|exact g| (simp only [decide_eq_true_eq];exact nQ _)| (simp_all;done)| (refine cO g ?_;congr 1; (try simp only [beq_iff_eq,beq_eq_false_iff_ne,ne_eq]at*);unfold wV; (repeat (first|rw [if_pos (by assumption)]|rw [if_neg (by assumption)]));first|done|rfl)
 ·exact g.elim
def e0S:=bB 208 e0R f7H
theorem e0T:aT env e0S:=aI g3H (f0Q)
def c3T(xs:List IV)(h:Heap)(K:KT):Prop:=match xs with
 | [.bool b]=>K (.int .i64 (mT b)) h
 |_=>False
theorem f7I(b:Bool)(h:Heap)(Q:KT):dF (aV e0S) env 227 dV bT bT [.bool b] h Q=(
 aM b (Q (.int .i64 1) h) (Q (.int .i64 0) h)):=by kernel_rfl
theorem f7J: ∀xs h Q,c3T xs h Q->aU env 227 xs h Q:=by
 intro xs h Q g;unfold c3T at g;split at g
 ·rename_i b;refine aS (e0T) (f7I b h Q) ?_
  repeat' (first|refine aA ?_ ?_|refine aD (fun _=>?_) (fun _=>?_)|refine And.intro ?_ ?_)
  all_goals (refine cO g ?_;simp_all [mT])
 ·exact g.elim
def c3U:=bB 227 c3T e0S
theorem c8Y:aT env c3U:=aI f7J (e0T)
def c3V(xs:List IV)(h:Heap)(K:KT):Prop:=match xs with
 | [.int .i64 o,.int .i64 a,.int .i64 b]=>K (.int .i64 (wX o a b)) h
 |_=>False
theorem f7K(o a b:Int)(h:Heap)(Q:KT):dF (aV c3U) env 209 dV bT bT [.int .i64 o,.int .i64 a,.int .i64 b] h Q=(
 aM (o==12) (aC (decide (0<=IntKind.wrap .u64 (dH .i64 b 63))) (Q (.int .i64 (wW (a*(2:Int) ^min ((IntKind.wrap .u64 (dH .i64 b 63)).toNat) 64))) h)) (aM (o==13) (aC (decide (0<=IntKind.wrap .u64 (dH .i64 b 63))) (Q (.int .i64 (wW (Int.fdiv (IntKind.wrap .u64 a) ((2:Int) ^min ((IntKind.wrap .u64 (dH .i64 b 63)).toNat) 64)))) h)) (aM (o==14) (aC (decide (0<=IntKind.wrap .u64 (dH .i64 b 63))) (Q (.int .i64 (Int.fdiv a ((2:Int) ^min ((IntKind.wrap .u64 (dH .i64 b 63)).toNat) 64))) h)) (aM (o==15) (Q (.int .i64 (mT (a==b))) h) (aM (o==16) (Q (.int .i64 (mT (a !=b))) h) (aM (o==17) (Q (.int .i64 (mT (decide (a<b)))) h) (aM (o==18) (Q (.int .i64 (mT (decide (a<=b)))) h) (aM (o==19) (Q (.int .i64 (mT (decide (IntKind.wrap .u64 a<IntKind.wrap .u64 b)))) h) (Q (.int .i64 0) h))))))))):=by kernel_rfl
theorem f7L: ∀xs h Q,c3V xs h Q->aU env 209 xs h Q:=by
 intro xs h Q g;unfold c3V at g;split at g
 ·rename_i o a b;refine aS (c8Y) (f7K o a b h Q) ?_;delta wW
  repeat' (first|refine aA ?_ ?_|refine aD (fun _=>?_) (fun _=>?_)|refine And.intro ?_ ?_)
  all_goals first|exact g| (simp only [decide_eq_true_eq];exact nQ _)| (simp_all;done)| (refine cO g ?_;congr 1; (try simp only [beq_iff_eq,beq_eq_false_iff_ne,ne_eq]at*);unfold wX; (repeat (first|rw [if_pos (by assumption)]|rw [if_neg (by assumption)]));first|done|rfl)
 ·exact g.elim
def c3W:=bB 209 c3V c3U
theorem c8Z:aT env c3W:=aI f7L (c8Y)
def e0U(xs:List IV)(h:Heap)(K:KT):Prop:=match xs with
 | [.int .i64 o,.int .i64 a,.int .i64 b]=>K (.int .i64 (a1D o a b)) h
 |_=>False
theorem g3I(o a b:Int)(h:Heap)(Q:KT):dF (aV c3W) env 170 dV bT bT [.int .i64 o,.int .i64 a,.int .i64 b] h Q=(
 aM (o==4) (Q (.int .i64 (wW (a+b))) h) (aM (o==5) (Q (.int .i64 (wW (a-b))) h) (aM (o==6) (Q (.int .i64 (wW (a*b))) h) (aM (o==7) (Q (.int .i64 (wV a b)) h) (aM (o==8) (aM (b==0) (Q (.int .i64 0) h) (Q (.int .i64 (wW (a-wW (wV a b*b)))) h)) (aM (o==9) (Q (.int .i64 (dH .i64 a b)) h) (aM (o==10) (Q (.int .i64 (g0D .i64 a b)) h) (aM (o==11) (Q (.int .i64 (a7I .i64 a b)) h) (Q (.int .i64 (wX o a b)) h))))))))):=by kernel_rfl
theorem g3J: ∀xs h Q,e0U xs h Q->aU env 170 xs h Q:=by
 intro xs h Q g;unfold e0U at g;split at g
 ·rename_i o a b;refine aS (c8Z) (g3I o a b h Q) ?_;delta wW
  repeat' (first|refine aA ?_ ?_|refine aD (fun _=>?_) (fun _=>?_)|refine And.intro ?_ ?_)
  all_goals first|exact g| (simp only [decide_eq_true_eq];exact nQ _)| (simp_all;done)| (refine cO g ?_;congr 1; (try simp only [beq_iff_eq,beq_eq_false_iff_ne,ne_eq]at*);unfold a1D; (repeat (first|rw [if_pos (by assumption)]|rw [if_neg (by assumption)]));first|done|rfl)
 ·exact g.elim
def f0R:=bB 170 e0U c3W
theorem f7M:aT env f0R:=aI g3J (c8Z)
def a9N:=f0R
theorem c3X:aT env a9N:=f7M
def f0S:=a9N
theorem f7N:aT env f0S:=c3X
def c3Y:=f0S
theorem c9A:aT env c3Y:=f7N
def vW(xs:List IV)(h:Heap)(K:KT):Prop:=match xs with
 | [.agg [.int .i64 a,.int .i64 b]]=>K (.bool (a==b)) h
 |_=>False
theorem c3Z(a b:Int)(h:Heap)(Q:KT):dF (aV c3Y) env 167 dV bT bT [.agg [.int .i64 a,.int .i64 b]] h Q=(
 Q (.bool (a==b)) h):=by kernel_rfl
theorem c4A: ∀xs h Q,vW xs h Q->aU env 167 xs h Q:=by
 intro xs h Q g;unfold vW at g;split at g
 ·rename_i a b;refine aS (c9A) (c3Z a b h Q) ?_;exact g
 ·exact g.elim
def vX:=bB 167 vW c3Y
theorem a0Z:aT env vX:=aI c4A (c9A)
def a5R(xs:List IV)(h:Heap)(K:KT):Prop:=match xs with
 | [.bool b,.bool c]=>K (.agg [.int .i64 (tri b c).1,.int .i64 (tri b c).2]) h
 |_=>False
theorem e0V(b c:Bool)(h:Heap)(Q:KT):dF (aV vX) env 212 dV bT bT [.bool b,.bool c] h Q=(
 aM b (Q (.agg [.int .i64 1,iI 1]) h) (aM c (Q (.agg [.int .i64 0,iI 0]) h) (Q (.agg [.int .i64 0,iI 1]) h))):=by kernel_rfl
theorem e0W: ∀xs h Q,a5R xs h Q->aU env 212 xs h Q:=by
 intro xs h Q g;unfold a5R at g;split at g
 ·rename_i b c;refine aS (a0Z) (e0V b c h Q) ?_;delta iI
  repeat' (first|refine aA ?_ ?_|refine aD (fun _=>?_) (fun _=>?_)|refine And.intro ?_ ?_)
  all_goals first|exact g| (refine cO g ?_;simp only [IV.agg.injEq,IV.tuple.injEq,IV.int.injEq,IV.bool.injEq,h2I,true_and,and_true];grind [tri])
 ·exact g.elim
def a5S:=bB 212 a5R vX
theorem a9O:aT env a5S:=aI e0W (a0Z)
def f7O(xs:List IV)(h:Heap)(K:KT):Prop:=match xs with
 | [.int .i64 a,.int .i64 b]=>(bJ a/\bJ b)/\K (.tuple [.int .i64 (IntKind.i64.wrap (a+b)),.bool (iT (a+b))]) h
 |_=>False
theorem g8O(a b:Int)(h:Heap)(Q:KT):dF (aV a5S) env 172 dV bT bT [.int .i64 a,.int .i64 b] h Q=(
 Q (.tuple [.int .i64 (wW (a+b)),IV.bool (decide (wW (a+b)<a)==decide (b<0))]) h):=by kernel_rfl
theorem g8P: ∀xs h Q,f7O xs h Q->aU env 172 xs h Q:=by
 intro xs h Q g;unfold f7O at g;split at g
 ·rename_i a b;refine aS (a9O) (g8O a b h Q) ?_;delta wW;obtain⟨⟨h1,h2⟩,g⟩:=g;refine cO g ?_;rw [f2E h1 h2]
 ·exact g.elim
def f7P:=bB 172 f7O a5S
theorem f0T:aT env f7P:=aI g8P (a9O)
def e0X(xs:List IV)(h:Heap)(K:KT):Prop:=match xs with
 | [.int .i64 a,.int .i64 b]=>(bJ a/\bJ b)/\K (.tuple [.int .i64 (IntKind.i64.wrap (a-b)),.bool (iT (a-b))]) h
 |_=>False
theorem g3K(a b:Int)(h:Heap)(Q:KT):dF (aV f7P) env 173 dV bT bT [.int .i64 a,.int .i64 b] h Q=(
 Q (.tuple [.int .i64 (wW (a-b)),IV.bool (decide (wW (a-b)>a)==decide (b<0))]) h):=by kernel_rfl
theorem g3L: ∀xs h Q,e0X xs h Q->aU env 173 xs h Q:=by
 intro xs h Q g;unfold e0X at g;split at g
 ·rename_i a b;refine aS (f0T) (g3K a b h Q) ?_;delta wW;obtain⟨⟨h1,h2⟩,g⟩:=g;refine cO g ?_;rw [e5N h1 h2]
 ·exact g.elim
def e0Y:=bB 173 e0X f7P
theorem e0Z:aT env e0Y:=aI g3L (f0T)
def yF(xs:List IV)(h:Heap)(K:KT):Prop:=match xs with
 | [.int .i64 a,.int .i64 b,.int .i64 c,.int .i64 d,.func (.func 172) [] []]=>((bJ a/\bJ b)/\(bJ c/\bJ d))/\K (.agg [.int .i64 (bnd (a+b) (c+d)).1,.int .i64 (bnd (a+b) (c+d)).2]) h
 |_=>False
theorem e1A(a b c d:Int)(h:Heap)(Q:KT):dF (aV e0Y) env 171 dV bT bT [.int .i64 a,.int .i64 b,.int .i64 c,.int .i64 d,.func (.func 172) [] []] h Q=(
 (bJ a/\bJ b)/\(bJ c/\bJ d)/\aM (!iT (a+b)) (Q (.agg [.int .i64 (-9223372036854775808),iI 9223372036854775807]) h) (aM (!iT (c+d)) (Q (.agg [.int .i64 (-9223372036854775808),iI 9223372036854775807]) h) (Q (.agg [.int .i64 (wW (a+b)),iI (wW (c+d))]) h))):=by kernel_rfl
theorem b8P: ∀xs h Q,yF xs h Q->aU env 171 xs h Q:=by
 intro xs h Q g;unfold yF at g;split at g
 ·rename_i a b c d;refine aS (e0Z) (e1A a b c d h Q) ?_;delta wW iI;obtain⟨⟨⟨i,l⟩,j,hd⟩,g⟩:=g;refine⟨⟨i,l⟩,⟨j,hd⟩,aD (fun h1=>cO g ?_) (fun h1=>aD (fun h2=>cO g ?_) (fun h2=>cO g ?_))⟩
  ·unfold bnd;simp_all
  ·unfold bnd;simp_all
  ·simp only [h3A]at h1 h2;rw [gX h1,gX h2];unfold bnd;rw [h1,h2];rfl
 ·exact g.elim
def a5T:=bB 171 yF e0Y
theorem a9P:aT env a5T:=aI b8P (e0Z)
def yG(xs:List IV)(h:Heap)(K:KT):Prop:=match xs with
 | [.int .i64 a,.int .i64 b,.int .i64 c,.int .i64 d,.func (.func 173) [] []]=>((bJ a/\bJ b)/\(bJ c/\bJ d))/\K (.agg [.int .i64 (bnd (a-b) (c-d)).1,.int .i64 (bnd (a-b) (c-d)).2]) h
 |_=>False
theorem e1B(a b c d:Int)(h:Heap)(Q:KT):dF (aV a5T) env 171 dV bT bT [.int .i64 a,.int .i64 b,.int .i64 c,.int .i64 d,.func (.func 173) [] []] h Q=(
 (bJ a/\bJ b)/\(bJ c/\bJ d)/\aM (!iT (a-b)) (Q (.agg [.int .i64 (-9223372036854775808),iI 9223372036854775807]) h) (aM (!iT (c-d)) (Q (.agg [.int .i64 (-9223372036854775808),iI 9223372036854775807]) h) (Q (.agg [.int .i64 (wW (a-b)),iI (wW (c-d))]) h))):=by kernel_rfl
theorem b8Q: ∀xs h Q,yG xs h Q->aU env 171 xs h Q:=by
 intro xs h Q g;unfold yG at g;split at g
 ·rename_i a b c d;refine aS (a9P) (e1B a b c d h Q) ?_;delta wW iI;obtain⟨⟨⟨i,l⟩,j,hd⟩,g⟩:=g;refine⟨⟨i,l⟩,⟨j,hd⟩,aD (fun h1=>cO g ?_) (fun h1=>aD (fun h2=>cO g ?_) (fun h2=>cO g ?_))⟩
  ·unfold bnd;simp_all
  ·unfold bnd;simp_all
  ·simp only [h3A]at h1 h2;rw [gX h1,gX h2];unfold bnd;rw [h1,h2];rfl
 ·exact g.elim
def a5U:=bB 171 yG a5T
theorem a9Q:aT env a5U:=aI b8Q (a9P)
def f7Q(xs:List IV)(h:Heap)(K:KT):Prop:=match xs with
 | [.agg [.int .i64 a,.int .i64 b],.agg [.int .i64 c,.int .i64 d]]=>(((bJ a/\bJ b)/\(bJ c/\bJ d))/\c<=d)/\K (.agg [.int .i64 (a1E a b c d).1,.int .i64 (a1E a b c d).2]) h
 |_=>False
theorem g8Q(a b c d:Int)(h:Heap)(Q:KT):dF (aV a5U) env 177 dV bT bT [.agg [.int .i64 a,.int .i64 b],.agg [.int .i64 c,.int .i64 d]] h Q=(
 aM (decide (c<1)) (Q (.agg [.int .i64 (-9223372036854775808),iI 9223372036854775807]) h) (aM (decide (a<0)) (aM (decide (b>0)) (Q (IV.agg [iI (if wW ((1:Int)-d)>a then wW ((1:Int)-d)else a),iI (if wW (d-1)<b then wW (d-1)else b)]) h) (Q (.agg [.int .i64 (if wW ((1:Int)-d)>a then wW ((1:Int)-d)else a),iI 0]) h)) (aM (decide (b>0)) (Q (.agg [.int .i64 0,iI (if wW (d-1)<b then wW (d-1)else b)]) h) (Q (.agg [.int .i64 0,iI 0]) h)))):=by kernel_rfl
theorem g8R: ∀xs h Q,f7Q xs h Q->aU env 177 xs h Q:=by
 intro xs h Q g;unfold f7Q at g;split at g
 ·rename_i a b c d;refine aS (a9Q) (g8Q a b c d h Q) ?_;delta wW iI;obtain⟨⟨⟨⟨i,j⟩,m,hd⟩,l⟩,g⟩:=g;unfold bJ at i j m hd;refine aD (fun h1=>cO g ?_) (fun h1=>?_)
  ·simp only [decide_eq_true_eq]at h1;unfold a1E;rw [if_pos h1]
  simp only [decide_eq_false_iff_not]at h1;rw [h0X (1-d) (by omega),h0X (d-1) (by omega)]
  repeat' (first|refine aA ?_ ?_|refine aD (fun _=>?_) (fun _=>?_)|refine And.intro ?_ ?_)
  all_goals first|exact g| (refine cO g ?_;simp only [IV.agg.injEq,IV.tuple.injEq,IV.int.injEq,IV.bool.injEq,h2I,true_and,and_true];grind [a1E])
 ·exact g.elim
def f7R:=bB 177 f7Q a5U
theorem f0U:aT env f7R:=aI g8R (a9Q)
def f7S(xs:List IV)(h:Heap)(K:KT):Prop:=match xs with
 | [.int .i64 o,.agg [.int .i64 a,.int .i64 b],.agg [.int .i64 c,.int .i64 d]]=>(a<=b/\c<=d)/\K (.agg [.int .i64 (b0S o a b c d).1,.int .i64 (b0S o a b c d).2]) h
 |_=>False
theorem g8S(o a b c d:Int)(h:Heap)(Q:KT):dF (aV f7R) env 180 dV bT bT [.int .i64 o,.agg [.int .i64 a,.int .i64 b],.agg [.int .i64 c,.int .i64 d]] h Q=(
 aM (o==15) (Q (.agg [.int .i64 ((tri false !dU a b c d).1),iI ((tri false !dU a b c d).2)]) h) (aM (o==16) (Q (.agg [.int .i64 ((tri (!dU a b c d) false).1),iI ((tri (!dU a b c d) false).2)]) h) (aM (o==18) (Q (.agg [.int .i64 ((tri (decide (b<=c)) (decide (a>d))).1),iI ((tri (decide (b<=c)) (decide (a>d))).2)]) h) (aM (o==19) (aM (decide ((if c<a then c else a)<0)) (aM (decide ((if d>b then d else b)>=0)) (Q (.agg [.int .i64 0,iI 1]) h) (Q (.agg [.int .i64 ((tri (decide (b<c)) (decide (a>=d))).1),iI ((tri (decide (b<c)) (decide (a>=d))).2)]) h)) (Q (.agg [.int .i64 ((tri (decide (b<c)) (decide (a>=d))).1),iI ((tri (decide (b<c)) (decide (a>=d))).2)]) h)) (Q (.agg [.int .i64 ((tri (decide (b<c)) (decide (a>=d))).1),iI ((tri (decide (b<c)) (decide (a>=d))).2)]) h))))):=by kernel_rfl
theorem g8T: ∀xs h Q,f7S xs h Q->aU env 180 xs h Q:=by
 intro xs h Q g;unfold f7S at g;split at g
 ·rename_i o a b c d;refine aS (f0U) (g8S o a b c d h Q) ?_;delta iI;obtain⟨⟨h1,h2⟩,g⟩:=g
  repeat' (first|refine aA ?_ ?_|refine aD (fun _=>?_) (fun _=>?_)|refine And.intro ?_ ?_)
  all_goals first|exact g| (refine cO g ?_;simp only [IV.agg.injEq,IV.tuple.injEq,IV.int.injEq,IV.bool.injEq,h2I,true_and,and_true];grind [b0S])
 ·exact g.elim
def f7T:=bB 180 f7S f7R
theorem f0V:aT env f7T:=aI g8T (f0U)
def b3A(xs:List IV)(h:Heap)(K:KT):Prop:=match xs with
 | [.agg [.int .i64 a,.int .i64 b],.agg [.int .i64 c,.int .i64 d],.agg [.int .i64 e,.int .i64 f]]=>K (.agg [.int .i64 (mB a b c d e f).1,.int .i64 (mB a b c d e f).2]) h
 |_=>False
theorem e8B(a b c d e f:Int)(h:Heap)(Q:KT):dF (aV f7T) env 107 dV bT bT [.agg [.int .i64 a,.int .i64 b],.agg [.int .i64 c,.int .i64 d],.agg [.int .i64 e,.int .i64 f]] h Q=(
 aM (!decide (a<=b)) (Q (.agg [.int .i64 (-9223372036854775808),iI 9223372036854775807]) h) (aM (!decide (c<=d)) (Q (.agg [.int .i64 (-9223372036854775808),iI 9223372036854775807]) h) (aM (!decide (e<=f)) (Q (.agg [.int .i64 (-9223372036854775808),iI 9223372036854775807]) h) (aM (a==0) (aM (b==0) (Q (.agg [.int .i64 e,iI f]) h) (aM (!contains a b 0) (Q (.agg [.int .i64 c,iI d]) h) (Q (.agg [.int .i64 (min c e),iI (max d f)]) h))) (aM (!contains a b 0) (Q (.agg [.int .i64 c,iI d]) h) (Q (.agg [.int .i64 (min c e),iI (max d f)]) h)))))):=by kernel_rfl
theorem e8C: ∀xs h Q,b3A xs h Q->aU env 107 xs h Q:=by
 intro xs h Q g;unfold b3A at g;split at g
 ·rename_i a b c d e f;refine aS (f0V) (e8B a b c d e f h Q) ?_;delta iI
  repeat' (first|refine aA ?_ ?_|refine aD (fun _=>?_) (fun _=>?_)|refine And.intro ?_ ?_)
  all_goals first|exact g| (refine cO g ?_;simp only [IV.agg.injEq,IV.tuple.injEq,IV.int.injEq,IV.bool.injEq,h2I,true_and,and_true];grind [mB])
 ·exact g.elim
def b3B:=bB 107 b3A f7T
theorem b8R:aT env b3B:=aI e8C (f0V)
def c4B(xs:List IV)(h:Heap)(K:KT):Prop:=match xs with
 | [.int .i64 o,.agg [.int .i64 a,.int .i64 b],.agg [.int .i64 c,.int .i64 d]]=>K (.agg [.int .i64 (uZ o a b c d).1,.int .i64 (uZ o a b c d).2]) h
 |_=>False
def tC(c:Int):=(IntKind.wrap .u64 (dH .i64 c 63)).toNat
def yH(c:Int):=decide (0<=IntKind.wrap .u64 (dH .i64 c 63))
def a9R:=IV.agg [.int .i64 (-9223372036854775808),iI 9223372036854775807]
def b8S(a b c d:Int)(h:Heap)(Q:KT):=aM (c==d) (aM (decide (a>=0)) (aC (yH c) (aC (yH c) (Q (.agg [.int .i64 (Int.fdiv a ((2:Int) ^min (tC c) 64)),iI (Int.fdiv b ((2:Int) ^min (tC c) 64))]) h))) (aM (c==d) (aC (decide (0<=IntKind.wrap .u64 ((64:Int)-IntKind.wrap .u64 (dH .i64 c
 63)))) (Q (.agg [.int .i64 0,iI (wW (wW ((1:Int)*(2:Int) ^min ((IntKind.wrap .u64 ((64:Int)-IntKind.wrap .u64 (dH .i64 c 63))).toNat) 64)-1))]) h)) (aM (decide (a>=0)) (Q (.agg [.int .i64 0,iI b]) h) (Q a9R h)))) (aM (c==d) (aC (decide (0<=IntKind.wrap .u64 ((64
 :Int)-IntKind.wrap .u64 (dH .i64 c 63)))) (Q (.agg [.int .i64 0,iI (wW (wW ((1:Int)*(2:Int) ^min ((IntKind.wrap .u64 ((64:Int)-IntKind.wrap .u64 (dH .i64 c 63))).toNat) 64)-1))]) h)) (aM (decide (a>=0)) (Q (.agg [.int .i64 0,iI b]) h) (Q a9R h)))
def e1C(o a b c d:Int)(h:Heap)(Q:KT):=aM (o==12) (Q a9R h) (aM (o==14) (aM (c==d) (aC (yH c) (aC (yH c) (Q (.agg [.int .i64 (Int.fdiv a ((2:Int) ^min (tC c) 64)),iI (Int.fdiv b ((2:Int) ^min (tC c) 64))]) h))) (aM (o==14) (Q (.agg [.int .i64 (if 0<a then(0:Int)else a),iI (if(-1
 :Int)>b then(-1:Int)else b)]) h) (aM (c==d) (aM (IntKind.wrap .u64 (dH .i64 c 63)==0) (Q (.agg [.int .i64 a,iI b]) h) (b8S a b c d h Q)) (b8S a b c d h Q)))) (aM (o==14) (Q (.agg [.int .i64 (if 0<a then(0:Int)else a),iI (if(-1:Int)>b then(-1:Int)else b)]) h) (aM
 (c==d) (aM (IntKind.wrap .u64 (dH .i64 c 63)==0) (Q (.agg [.int .i64 a,iI b]) h) (b8S a b c d h Q)) (b8S a b c d h Q))))
theorem f7U(o a b c d:Int)(h:Heap)(Q:KT):dF (aV b3B) env 179 dV bT bT [.int .i64 o,.agg [.int .i64 a,.int .i64 b],.agg [.int .i64 c,.int .i64 d]] h Q=(
 aM (o==12) (aM (c==d) (aC (yH c) (aC (yH c) (aC (yH c) (aM (Int.fdiv (wW (a*(2:Int) ^min (tC c) 64)) ((2:Int) ^min (tC c) 64) !=a) (Q a9R h) (aC (yH c) (aM (Int.fdiv (wW (b*2^min (tC c) 64)) ((2:Int) ^min (tC c) 64) !=b) (Q a9R h) (Q (.agg [.int .i64 (wW (a*(2:Int) ^min (tC c) 64)),iI (wW (b*(2:Int) ^min (tC c) 64))]) h))))))) (e1C o a b c d h Q)) (e1C o a b c d h Q)):=by kernel_rfl
theorem f7V: ∀xs h Q,c4B xs h Q->aU env 179 xs h Q:=by
 intro xs h Q g;unfold c4B at g;split at g
 ·rename_i o a b c d;refine aS (b8R) (f7U o a b c d h Q) ?_;delta b8S e1C tC yH a9R wW iI;have i:(0:Int)<=c%64/\c%64<64:=by omega
  have m:IntKind.u64.wrap (64-c%64)=64-c%64:=h7F _ (by omega);have p:min (64-c%64).toNat 64=(64-c%64).toNat:=by omega
  have j:IntKind.u64.wrap (c%64)=c%64:=h7F _ (by omega);have l:IntKind.i64.wrap (64-c%64)=64-c%64:=h0X _ (by omega);simp only [e7X,j,l,m,g5J,p]
  repeat' (first|refine aA ?_ ?_|refine aD (fun _=>?_) (fun _=>?_)|refine And.intro ?_ ?_)
  all_goals first|exact g|omega| (simp only [decide_eq_true_eq];omega)| (refine cO g ?_;simp only [IV.agg.injEq,IV.tuple.injEq,IV.int.injEq,IV.bool.injEq,h2I,true_and,and_true];simp only [beq_iff_eq,beq_eq_false_iff_ne,bne_iff_ne,ne_eq,decide_eq_true_eq,decide_eq_false_iff_not,bne_eq_false_iff_eq]at*;grind [uZ,c0T,a2Y])
 ·exact g.elim
def e1D:=bB 179 c4B b3B
theorem e8D:aT env e1D:=aI f7V (b8R)
def e1E:=e1D
theorem e1F:aT env e1E:=e8D
def kUn(xs:List IV)(h:Heap)(K:KT):Prop:=match xs with
 | [.int .i64 o,.agg [.int .i64 a,.int .i64 b]]=>K (.agg [.int .i64 (iun o a b).1,.int .i64 (iun o a b).2]) h
 |_=>False
def e1G(o a b:Int)(h:Heap)(Q:KT):=aM (!decide (a<=b)) (Q (.agg [.int .i64 (-9223372036854775808),iI 9223372036854775807]) h) (aM (a==b) (Q (.agg [.int .i64 (wun o a),iI (wun o a)]) h) (aM (o==21) (Q (.agg [.int .i64 (a7I .i64 (-1:Int) b),iI (a7I .i64 (-1:Int) a)]) h) (aM (a==(-9223372036854775808:Int)) (Q (.agg
 [.int .i64 (-9223372036854775808),iI 9223372036854775807]) h) (Q (.agg [.int .i64 (wW ((0:Int)-b)),iI (wW ((0:Int)-a))]) h))))
theorem vUn(o a b:Int)(h:Heap)(Q:KT):dF (aV e1E) env 108 dV bT bT [.int .i64 o,.agg [.int .i64 a,.int .i64 b]] h Q=(
 aM (o !=20) (aM (o !=21) (Q (.agg [.int .i64 (-9223372036854775808),iI 9223372036854775807]) h) (e1G o a b h Q)) (e1G o a b h Q)):=by kernel_rfl
theorem sUn: ∀xs h Q,kUn xs h Q->aU env 108 xs h Q:=by
 intro xs h Q g;unfold kUn at g;split at g
 ·rename_i o a b;refine aS (e1F) (vUn o a b h Q) ?_;delta e1G wW iI;have i: ∀x,a7I .i64 (-1:Int) x=c0S x:=fun _=>rfl
  simp only [i]
  repeat' (first|refine aA ?_ ?_|refine aD (fun _=>?_) (fun _=>?_)|refine And.intro ?_ ?_)
  all_goals first|exact g| (refine cO g ?_;try simp only [IV.agg.injEq,IV.tuple.injEq,IV.int.injEq,IV.bool.injEq,h2I,true_and,and_true]; (try simp only [beq_iff_eq,beq_eq_false_iff_ne,bne_iff_ne,ne_eq,decide_eq_true_eq,decide_eq_false_iff_not,bne_eq_false_iff_eq]at*);grind [iun])
 ·exact g.elim
def cUn:=bB 108 kUn e1E
theorem g3M:aT env cUn:=aI sUn (e1F)
def c4C(xs:List IV)(h:Heap)(K:KT):Prop:=match xs with
 | [.int .u64 x]=>(0<=x/\x<=18446744073709551615)/\K (.int .i64 (fX x.toNat:Int)) h
 |_=>False
def yI:List UInt8:=[0,1,2,2,3,3,3,3,4,4,4,4,4,4,4,4,5,5,5,5,5,5,5,5,5,5,5,5,5,5,5,5,6,6,6,6,6,6,6,6,6,6,6,6,6,6,6,6,6,6,6,6,6,6,6,6,6,6,6,6,6,6,6,6,7,7,7,7,7,7,7,7,7,7,7,7,7,7,7,7,7,7,7,7,7,7,7,7,7,7,7,7,7,7,7,7,7,7,7,7,
 7,7,7,7,7,7,7,7,7,7,7,7,7,7,7,7,7,7,7,7,7,7,7,7,7,7,7,7,8,8,8,8,8,8,8,8,8,8,8,8,8,8,8,8,8,8,8,8,8,8,8,8,8,8,8,8,8,8,8,8,8,8,8,8,8,8,8,8,8,8,8,8,8,8,8,8,8,8,8,8,8,8,8,8,8,8,8,8,8,8,8,8,8,8,8,8,8,8,8,8,8,
 8,8,8,8,8,8,8,8,8,8,8,8,8,8,8,8,8,8,8,8,8,8,8,8,8,8,8,8,8,8,8,8,8,8,8,8,8,8,8,8,8,8,8,8,8,8,8,8,8,8,8,8,8,8,8]
def a5V(x:Int):=Int.fdiv x 4294967296
def b8T(x:Int):=Int.fdiv (a5V x) 65536
theorem f7W(x:Int)(h:Heap)(Q:KT):dF (aV cUn) env 211 dV bT bT [.int .u64 x] h Q=(
 aM (decide (x>=4294967296)) (aM (decide (Int.fdiv x 4294967296>=65536)) (aM (decide (Int.fdiv (a5V x) 65536>=256)) (aC (decide (0<=IntKind.wrap .u8 (Int.fdiv (b8T x) 256))) (a1A yI ((IntKind.wrap .u8 (Int.fdiv (b8T x) 256)).toNat) fun j=>Q (.int .i64 (wW ((56:Int)+wW j))) h)) (aC (decide (0<=IntKind.wrap .u8 (b8T x))) (a1A yI ((IntKind.wrap .u8 (b8T x)).toNat) fun g=>Q (.int .i64 (wW ((48:Int)+wW g))) h))) (aM (decide (Int.fdiv x 4294967296>=256)) (aC (decide (0<=IntKind.wrap .u8 (Int.fdiv (a5V x) 256))) (a1A yI ((IntKind.wrap .u8 (Int.fdiv (a5V x) 256)).toNat) fun m=>Q (.int .i64 (wW ((40:Int)+wW m))) h)) (aC (decide (0<=IntKind.wrap .u8 (a5V x))) (a1A yI ((IntKind.wrap .u8 (a5V x)).toNat) fun p=>Q (.int .i64 (wW ((32:Int)+wW p))) h)))) (aM (decide (x>=65536)) (aM (decide (Int.fdiv x 65536>=256)) (aC (decide (0<=IntKind.wrap .u8 (Int.fdiv (Int.fdiv x 65536) 256))) (a1A yI ((IntKind.wrap .u8 (Int.fdiv (Int.fdiv x 65536) 256)).toNat) fun c4=>Q (.int .i64 (wW ((24:Int)+wW c4))) h)) (aC (decide (0<=IntKind.wrap .u8 (Int.fdiv x 65536))) (a1A yI ((IntKind.wrap .u8 (Int.fdiv x 65536)).toNat) fun i=>Q (.int .i64 (wW ((16:Int)+wW i))) h))) (aM (decide (x>=256)) (aC (decide (0<=IntKind.wrap .u8 (Int.fdiv x 256))) (a1A yI ((IntKind.wrap .u8 (Int.fdiv x 256)).toNat) fun l=>Q (.int .i64 (wW ((8:Int)+wW l))) h)) (aC (decide (0<=IntKind.wrap .u8 x)) (a1A yI ((IntKind.wrap .u8 x).toNat) fun r=>Q (.int .i64 (wW ((0:Int)+wW r))) h))))):=by kernel_rfl
theorem f7X: ∀xs h Q,c4C xs h Q->aU env 211 xs h Q:=by
 intro xs h Q l;unfold c4C at l;split at l
 ·rename_i x;refine aS (g3M) (f7W x h Q) ?_;delta yI a5V b8T wW;obtain⟨⟨h1,h2⟩,l⟩:=l;have f: ∀z p:Int,0<=p->z.fdiv p=z/p:=fun z p K=>h4T _ K
  have D:=fun z=>f z 4294967296 (by omega)
  have y:=fun z=>f z 65536 (by omega)
  have A:=fun z=>f z 256 (by omega)
  have m:=fun(z:Int)(G:(4294967296:Int)<=z)=>a2Z (x:=z) 32 4294967296 (by decide) (by omega)
  have r:=fun(z:Int)(G:(65536:Int)<=z)=>a2Z (x:=z) 16 65536 (by decide) (by omega)
  have u:=fun(z:Int)(G:(256:Int)<=z)=>a2Z (x:=z) 8 256 (by decide) (by omega)
  simp only [Int.cast_ofNat_Int]at m r u;refine aD (fun j=>aD (fun i=>aD (fun g=>?_) (fun g=>?_)) (fun i=>aD (fun g=>?_) (fun g=>?_))) (fun j=>aD (fun i=>aD (fun g=>?_) (fun g=>?_)) (fun i=>aD (fun g=>?_) (fun g=>?_)))
  all_goals simp only [decide_eq_true_eq,decide_eq_false_iff_not,D,y,A]at j i g
  all_goals refine e0K (n:=x.toNat) (by(try simp only [D,y,A]);omega) (by(try simp only [D,y,A]);omega) (by omega) ?_ l _ (by kernel_rfl)
  all_goals try simp only [D,y,A]
  ·rw [m _ j,r _ i,u _ g];omega
  ·rw [m _ j,r _ i];omega
  ·rw [m _ j,u _ g];omega
  ·rw [m _ j];omega
  ·rw [r _ i,u _ g];omega
  ·rw [r _ i];omega
  ·rw [u _ g];omega
  ·omega
 ·exact l.elim
def c4D:=bB 211 c4C cUn
theorem c9B:aT env c4D:=aI f7X (g3M)
def c4E(xs:List IV)(h:Heap)(K:KT):Prop:=match xs with
 | [.int .u64 x,.int .u64 y]=>((0<=x/\x<=18446744073709551615)/\(0<=y/\y<=18446744073709551615))/\K (.tuple [.int .u64 (a0Q x y),.int .u64 (IntKind.u64.wrap (x*y))]) h
 |_=>False
theorem f7Y(x y:Int)(h:Heap)(Q:KT):dF (aV c4D) env 210 dV bT bT [.int .u64 x,.int .u64 y] h Q=(
 Q (IV.tuple [IV.int .u64 (IntKind.wrap .u64 (IntKind.wrap .u64 (IntKind.wrap .u64 (Int.fdiv x 4294967296*Int.fdiv y 4294967296)+Int.fdiv (IntKind.wrap .u64 (IntKind.wrap .u64 (Int.fdiv x 4294967296*dH .u64 y 4294967295)+Int.fdiv (IntKind.wrap .u64 (dH .u64 x 4294967295*dH .u64 y 4294967295)) 4294967296)) 4294967296)+Int.fdiv (IntKind.wrap .u64 (dH .u64 (IntKind.wrap .u64 (IntKind.wrap .u64 (Int.fdiv x 4294967296*dH .u64 y 4294967295)+Int.fdiv (IntKind.wrap .u64 (dH .u64 x 4294967295*dH .u64 y 4294967295)) 4294967296)) 4294967295+IntKind.wrap .u64 (dH .u64 x 4294967295*Int.fdiv y 4294967296))) 4294967296)),IV.int .u64 (IntKind.wrap .u64 (x*y))]) h):=by kernel_rfl
theorem f7Z: ∀xs h Q,c4E xs h Q->aU env 210 xs h Q:=by
 intro xs h Q g;unfold c4E at g;split at g
 ·rename_i x y;refine aS (c9B) (f7Y x y h Q) ?_;obtain⟨⟨⟨h1,h2⟩,h3,h4⟩,g⟩:=g;rw [b5D h1 h2 h3 h4];exact g
 ·exact g.elim
def c4F:=bB 210 c4E c4D
theorem c9C:aT env c4F:=aI f7Z (c9B)
def a5W(xs:List IV)(h:Heap)(K:KT):Prop:=match xs with
 | [.int .i64 a,.int .i64 b]=>(bJ a/\bJ b)/\K (.tuple [.int .i64 (IntKind.i64.wrap (a*b)),.bool (iT (a*b))]) h
 |_=>False
def yJ(a b:Int):=wW (IntKind.wrap .u64 (IntKind.wrap .u64 a*IntKind.wrap .u64 b))
def b8U(a b:Int):=a0Q (IntKind.wrap .u64 a) (IntKind.wrap .u64 b)
theorem e1H(a b:Int)(h:Heap)(Q:KT):dF (aV c4F) env 175 dV bT bT [.int .i64 a,.int .i64 b] h Q=(
 ((0<=IntKind.wrap .u64 a/\IntKind.wrap .u64 a<=18446744073709551615)/\0<=IntKind.wrap .u64 b/\IntKind.wrap .u64 b<=18446744073709551615)/\aM (decide (a<0)) (aM (decide (b<0)) (Q (.tuple [.int .i64 (yJ a b),IV.bool (wW (wW (wW (b8U a b)-b)-a)==Int.fdiv (yJ a b) 9223372036854775808)]) h) (Q (.tuple [.int .i64 (yJ a b),IV.bool (wW (wW (b8U a b)-b)==Int.fdiv (yJ a b) 9223372036854775808)]) h)) (aM (decide (b<0)) (Q (.tuple [.int .i64 (yJ a b),IV.bool (wW (wW (b8U a b)-a)==Int.fdiv (yJ a b) 9223372036854775808)]) h) (Q (.tuple [.int .i64 (yJ a b),IV.bool (wW (b8U a b)==Int.fdiv (yJ a b) 9223372036854775808)]) h))):=by kernel_rfl
theorem e1I: ∀xs h Q,a5W xs h Q->aU env 175 xs h Q:=by
 intro xs h Q g;unfold a5W at g;split at g
 ·rename_i a b;refine aS (c9C) (e1H a b h Q) ?_;delta yJ b8U wW;obtain⟨⟨l,m⟩,g⟩:=g;have p: ∀z,0<=IntKind.u64.wrap z/\IntKind.u64.wrap z<=18446744073709551615:=fun z=>by rw [a1F];omega
  refine⟨⟨p a,p b⟩,?_⟩;simp only [d4O,d0V];refine aD (fun j=>aD (fun i=>cO g ?_) (fun i=>cO g ?_)) (fun j=>aD (fun i=>cO g ?_) (fun i=>cO g ?_))
  all_goals simp only [decide_eq_true_eq,decide_eq_false_iff_not]at j i
  ·rw [wY l m (by rw [if_pos j,if_pos i])]
  ·rw [wY l m (by rw [if_pos j,if_neg i];omega)]
  ·rw [wY l m (by rw [if_neg j,if_pos i];omega)]
  ·rw [wY l m (by rw [if_neg j,if_neg i];omega)]
 ·exact g.elim
def a5X:=bB 175 a5W c4F
theorem a9S:aT env a5X:=aI e1I (c9C)
def c4G(xs:List IV)(h:Heap)(K:KT):Prop:=match xs with
 | [.int .i64 a,.int .i64 b]=>(bJ a/\1<=b)/\K (.tuple [.int .i64 (a.tdiv b),.bool true]) h
 |_=>False
theorem f8A(a b:Int)(h:Heap)(Q:KT):dF (aV a5X) env 176 dV bT bT [.int .i64 a,.int .i64 b] h Q=(
 aC (!b==0) (Q (.tuple [.int .i64 (wW (Int.tdiv a b)),IV.bool true]) h)):=by kernel_rfl
theorem f8B: ∀xs h Q,c4G xs h Q->aU env 176 xs h Q:=by
 intro xs h Q g;unfold c4G at g;split at g
 ·rename_i a b;refine aS (a9S) (f8A a b h Q) ?_;delta wW;obtain⟨⟨i,j⟩,g⟩:=g;refine aA (by simp;omega) ?_;rw [b0U i (by omega) (by omega)];exact g
 ·exact g.elim
def c4H:=bB 176 c4G a5X
theorem c9D:aT env c4H:=aI f8B (a9S)
def tQ(xs:List IV)(h:Heap)(K:KT):Prop:=match xs with
 | [.agg [.int .i64 a,.int .i64 b],.agg [.int .i64 c,.int .i64 d],.func (.func 175) [] []]=>((bJ a/\bJ b)/\(bJ c/\bJ d))/\K (.agg [.int .i64 (a6V a b c d).1,.int .i64 (a6V a b c d).2]) h
 |_=>False
theorem d2K(a b c d:Int)(h:Heap)(Q:KT):dF (aV c4H) env 174 (fun k=>match Nat.beq k 4 with|true=>3|false=>match Nat.beq k 7 with|true=>3|false=>0) bT bT [.agg [.int .i64 a,.int .i64 b],.agg [.int .i64 c,.int .i64 d],.func (.func 175) [] []] h Q=(
 (bJ a/\bJ c)/\aM (!iT (a*c)) (Q (.agg [.int .i64 (-9223372036854775808),iI 9223372036854775807]) h) ((bJ a/\bJ d)/\aM (!iT (a*d)) (Q (.agg [.int .i64 (-9223372036854775808),iI 9223372036854775807]) h) ((bJ b/\bJ c)/\aM (!iT (b*c)) (Q (.agg [.int .i64 (-9223372036854775808),iI 9223372036854775807]) h) ((bJ b/\bJ d)/\aM (!iT (b*d)) (Q (.agg [.int .i64 (-9223372036854775808),iI 9223372036854775807]) h) (Q (IV.agg [iI (min (min (min (wW (a*c)) (wW (a*d))) (wW (b*c))) (wW (b*d))),iI (max (max (max (wW (a*c)) (wW (a*d))) (wW (b*c))) (wW (b*d)))]) h))))):=by kernel_rfl
theorem a9T: ∀xs h Q,tQ xs h Q->aU env 174 xs h Q:=by
 intro xs h Q g;unfold tQ at g;split at g
 ·rename_i a b c d;refine aS (c9D) (d2K a b c d h Q) ?_;delta wW iI;obtain⟨⟨⟨m,p⟩,r,hd⟩,g⟩:=g;refine⟨⟨m,r⟩,aD (fun i=>cO g ?_) (fun i=>⟨⟨m,hd⟩,aD (fun j=>cO g ?_) (fun j=>⟨⟨p,r⟩,aD (fun l=>cO g ?_) (fun l=>⟨⟨p,hd⟩,aD (fun c4=>cO g ?_) (fun c4=>cO g ?_)⟩)⟩)⟩)⟩
  all_goals simp only [h2K,h3A]at*
  all_goals unfold a6V
  ·simp [i]
  ·simp [j]
  ·simp [l]
  ·simp [c4]
  ·rw [gX i,gX j,gX l,gX c4];simp only [i,j,l,c4,h5U,if_true,b5E,b5F,Int.min_assoc,Int.max_assoc]
 ·exact g.elim
def zZ:=bB 174 tQ c4H
theorem a5Y:aT env zZ:=aI a9T (c9D)
def tR(xs:List IV)(h:Heap)(K:KT):Prop:=match xs with
 | [.agg [.int .i64 a,.int .i64 b],.agg [.int .i64 c,.int .i64 d],.func (.func 176) [] []]=>((((bJ a/\bJ b)/\(bJ c/\bJ d)))/\1<=c/\c<=d)/\K (.agg [.int .i64 (a6W a b c d).1,.int .i64 (a6W a b c d).2]) h
 |_=>False
theorem d2L(a b c d:Int)(h:Heap)(Q:KT):dF (aV zZ) env 174 (fun k=>match Nat.beq k 4 with|true=>3|false=>match Nat.beq k 7 with|true=>3|false=>0) bT bT [.agg [.int .i64 a,.int .i64 b],.agg [.int .i64 c,.int .i64 d],.func (.func 176) [] []] h Q=(
 (bJ a/\1<=c)/\(bJ a/\1<=d)/\(bJ b/\1<=c)/\(bJ b/\1<=d)/\Q (.agg [.int .i64 (min (min (min (Int.tdiv a c) (Int.tdiv a d)) (Int.tdiv b c)) (Int.tdiv b d)),iI (max (max (max (Int.tdiv a c) (Int.tdiv a d)) (Int.tdiv b c)) (Int.tdiv b d))]) h):=by kernel_rfl
theorem a9U: ∀xs h Q,tR xs h Q->aU env 174 xs h Q:=by
 intro xs h Q g;unfold tR at g;split at g
 ·rename_i a b c d;refine aS (a5Y) (d2L a b c d h Q) ?_;delta iI;obtain⟨⟨⟨⟨i,j⟩,l,hd⟩,h1,h2⟩,g⟩:=g;refine⟨⟨i,h1⟩,⟨i,by omega⟩,⟨j,h1⟩,⟨j,by omega⟩,cO g ?_⟩;unfold a6W
  rw [if_neg (by omega)];simp only [b5E,b5F,Int.min_assoc,Int.max_assoc]
 ·exact g.elim
def a0A:=bB 174 tR zZ
theorem a5Z:aT env a0A:=aI a9U (a5Y)
def a6A(xs:List IV)(h:Heap)(K:KT):Prop:=match xs with
 | [.int .i64 o,.agg [.int .i64 a,.int .i64 b],.agg [.int .i64 c,.int .i64 d]]=>((o=9\/o=10\/o=11)/\((bJ a/\bJ b)/\(bJ c/\bJ d))/\a<=b/\c<=d)/\K (.agg [.int .i64 (lN o a b c d).1,.int .i64 (lN o a b c d).2]) h
 |_=>False
def b8V(o a b c d:Int)(h:Heap)(Q:KT):=aM (o==9) (Q (.agg [.int .i64 (-9223372036854775808),iI 9223372036854775807]) h) (aM (decide (a<0)) (Q (.agg [.int .i64 (-9223372036854775808),iI 9223372036854775807]) h) (aM (decide (c<0)) (Q (.agg [.int .i64 (-9223372036854775808),iI 9223372036854775807]) h) ((0<=IntKind.wrap .u64 (if
 d>b then d else b)/\IntKind.wrap .u64 (if d>b then d else b)<=18446744073709551615)/\aM (o==10) (Q (.agg [.int .i64 (if c>a then c else a),iI (wW (wW ((1:Int)*(2:Int) ^min ((IntKind.wrap .u64 (↑(fX ((IntKind.wrap .u64 (if d>b then d else b)).toNat)):Int)).toNat) (64
 :Nat))-1))]) h) (Q (.agg [.int .i64 0,iI (wW (wW ((1:Int)*(2:Int) ^min ((IntKind.wrap .u64 (↑(fX ((IntKind.wrap .u64 (if d>b then d else b)).toNat)):Int)).toNat) 64)-1))]) h))))
def c9E(o a b c d:Int)(h:Heap)(Q:KT):=aM (o==9) (aM (decide (a>=0)) (Q (.agg [.int .i64 0,iI b]) h) (aM (o==9) (aM (decide (c>=0)) (Q (.agg [.int .i64 0,iI d]) h) (b8V o a b c d h Q)) (b8V o a b c d h Q))) (aM (o==9) (aM (decide (c>=0)) (Q (.agg [.int .i64 0,iI d]) h) (b8V o a b c d h Q)) (b8V o a b c d h Q))
theorem e1J(o a b c d:Int)(h:Heap)(Q:KT):dF (aV a0A) env 178 dV bT bT [.int .i64 o,.agg [.int .i64 a,.int .i64 b],.agg [.int .i64 c,.int .i64 d]] h Q=(
 aM (o==9) (aM (decide (a>=0)) (aM (decide (c>=0)) (Q (.agg [.int .i64 0,iI (if d<b then d else b)]) h) (c9E o a b c d h Q)) (c9E o a b c d h Q)) (c9E o a b c d h Q)):=by kernel_rfl
theorem e1K: ∀xs h Q,a6A xs h Q->aU env 178 xs h Q:=by
 intro xs h Q g;unfold a6A at g;split at g
 ·rename_i o a b c d;refine aS (a5Z) (e1J o a b c d h Q) ?_;delta b8V c9E wW iI;obtain⟨⟨D,⟨⟨i,j⟩,z,hd⟩,p,l⟩,g⟩:=g;have u: ∀x y:Int,(if y<x then y else x)=min x y:=fun x y=>by omega
  have A: ∀x y:Int,(if y>x then y else x)=max x y:=fun x y=>by omega
  simp only [u,A];unfold bJ at i j z hd
  by_cases hs:0<=a/\0<=c
  ·have r:IntKind.u64.wrap (max b d)=max b d:=h7F _ (by omega);simp only [r,c5Y (m:=max b d) (by omega) (by omega)]
   repeat' (first|refine aA ?_ ?_|refine aD (fun _=>?_) (fun _=>?_)|refine And.intro ?_ ?_)
   all_goals first|exact g|omega| (refine cO g ?_;simp only [IV.agg.injEq,IV.tuple.injEq,IV.int.injEq,IV.bool.injEq,h2I,true_and,and_true];grind [lN])
  ·repeat' (first|refine aA ?_ ?_|refine aD (fun _=>?_) (fun _=>?_)|refine And.intro ?_ ?_)
   all_goals first|exact g| (exfalso;grind)| (refine cO g ?_;simp only [IV.agg.injEq,IV.tuple.injEq,IV.int.injEq,IV.bool.injEq,h2I,true_and,and_true];grind [lN])
 ·exact g.elim
def b8W:=bB 178 a6A a0A
theorem d2M:aT env b8W:=aI e1K (a5Z)
def f8C(xs:List IV)(h:Heap)(K:KT):Prop:=match xs with
 | [a,b,c,d,.func (.func f) p q]=>match Nat.beq f 172 with|true=>yF [a,b,c,d,.func (.func f) p q] h K|false=>yG [a,b,c,d,.func (.func f) p q] h K
 |_=>False
theorem g8W: ∀xs h Q,f8C xs h Q->aU env 171 xs h Q:=by
 intro xs h Q g;unfold f8C at g;split at g
 ·split at g
  ·exact b8P _ _ _ g
  ·exact b8Q _ _ _ g
 ·exact g.elim
def g3N:=bB 171 f8C b8W
theorem g3O:aT env g3N:=aI g8W (d2M)
def f8D(xs:List IV)(h:Heap)(K:KT):Prop:=match xs with
 | [a,b,.func (.func f) p q]=>match Nat.beq f 175 with|true=>tQ [a,b,.func (.func f) p q] h K|false=>tR [a,b,.func (.func f) p q] h K
 |_=>False
theorem g8X: ∀xs h Q,f8D xs h Q->aU env 174 xs h Q:=by
 intro xs h Q g;unfold f8D at g;split at g
 ·split at g
  ·exact a9T _ _ _ g
  ·exact a9U _ _ _ g
 ·exact g.elim
def f8E:=bB 174 f8D g3N
theorem f0W:aT env f8E:=aI g8X (g3O)
def f8F(xs:List IV)(h:Heap)(K:KT):Prop:=match xs with
 | [.int .i64 o,.agg [.int .i64 a,.int .i64 b],.agg [.int .i64 c,.int .i64 d]]=>((bJ a/\bJ b)/\(bJ c/\bJ d))/\K (.agg [.int .i64 (oT o a b c d).1,.int .i64 (oT o a b c d).2]) h
 |_=>False
def a9V:=IV.agg [.int .i64 (-9223372036854775808),iI 9223372036854775807]
def e1L(o a b c d:Int)(h:Heap)(Q:KT):=aM (o==4) (((bJ a/\bJ c)/\bJ b/\bJ d)/\Q (.agg [.int .i64 ((M13.bnd (a+c) (b+d)).1),iI ((M13.bnd (a+c) (b+d)).2)]) h) (aM (o==5) (((bJ a/\bJ d)/\bJ b/\bJ c)/\Q (.agg [.int .i64 ((M13.bnd (a-d) (b-c)).1),iI ((M13.bnd (a-d) (b-c)).2)])
 h) (aM (o==6) (((bJ a/\bJ b)/\bJ c/\bJ d)/\Q (.agg [.int .i64 ((a6V a b c d).1),iI ((a6V a b c d).2)]) h) (aM (o==7) (aM (decide (c<1)) (Q a9V h) ((((bJ a/\bJ b)/\bJ c/\bJ d)/\1<=c/\c<=d)/\Q (.agg [.int .i64 ((a6W a b c d).1),iI ((a6W
 a b c d).2)]) h)) (aM (o==8) ((((bJ a/\bJ b)/\bJ c/\bJ d)/\c<=d)/\Q (.agg [.int .i64 ((a1E a b c d).1),iI ((a1E a b c d).2)]) h) (aM (o==9) (((o=9\/o=10\/o=11)/\((bJ a/\bJ b)/\bJ c/\bJ d)/\a<=b/\c<=d)/\Q (.agg [.int .i64 ((lN o a b c d).1),
 iI ((lN o a b c d).2)]) h) (aM (o==10) (((o=9\/o=10\/o=11)/\((bJ a/\bJ b)/\bJ c/\bJ d)/\a<=b/\c<=d)/\Q (.agg [.int .i64 ((lN o a b c d).1),iI ((lN o a b c d).2)]) h) (aM (o==11) (((o=9\/o=10\/o=11)/\((bJ a/\bJ b)/\bJ c/\bJ d)/\
 a<=b/\c<=d)/\Q (.agg [.int .i64 ((lN o a b c d).1),iI ((lN o a b c d).2)]) h) (aM (o==12) (Q (.agg [.int .i64 ((uZ o a b c d).1),iI ((uZ o a b c d).2)]) h) (aM (o==13) (Q (.agg [.int .i64 ((uZ o a b c d).1),iI ((uZ o a b c d).2)]) h)
 (aM (o==14) (Q (.agg [.int .i64 ((uZ o a b c d).1),iI ((uZ o a b c d).2)]) h) ((a<=b/\c<=d)/\Q (.agg [.int .i64 ((b0S o a b c d).1),iI ((b0S o a b c d).2)]) h)))))))))))
theorem g8Y(o a b c d:Int)(h:Heap)(Q:KT):dF (aV f8E) env 109 dV bT bT [.int .i64 o,.agg [.int .i64 a,.int .i64 b],.agg [.int .i64 c,.int .i64 d]] h Q=(
 aM (decide (o<4)) (Q a9V h) (aM (decide (o>19)) (Q a9V h) (aM (!decide (a<=b)) (Q a9V h) (aM (!decide (c<=d)) (Q a9V h) (aM (a==b) (aM (c==d) (Q (.agg [.int .i64 (a1D o a c),iI (a1D o a c)]) h) (e1L o a b c d h Q)) (e1L o a b c d h Q)))))):=by kernel_rfl
theorem g8Z: ∀xs h Q,f8F xs h Q->aU env 109 xs h Q:=by
 intro xs h Q g;unfold f8F at g;split at g
 ·rename_i o a b c d;refine aS (f0W) (g8Y o a b c d h Q) ?_;delta e1L a9V iI;obtain⟨⟨⟨i,l⟩,j,hd⟩,g⟩:=g
  repeat' (first|refine aA ?_ ?_|refine aD (fun _=>?_) (fun _=>?_)|refine And.intro ?_ ?_)
  all_goals simp only [decide_eq_true_eq,decide_eq_false_iff_not,beq_iff_eq,beq_eq_false_iff_ne,ne_eq,h2K,h3A]at*
  all_goals first|assumption| (unfold bJ at*;omega)| (refine⟨?_,?_⟩<;>assumption)| (refine cO g ?_;simp only [IV.agg.injEq,IV.tuple.injEq,IV.int.injEq,IV.bool.injEq,h2I,true_and,and_true];grind [oT,a6W,a6V,gX,d2H])
 ·exact g.elim
def f8G:=bB 109 f8F f8E
theorem f0X:aT env f8G:=aI g8Z (f0W)
end Go.Proofs.YtkonebkblgemkaaGreat
end
end
