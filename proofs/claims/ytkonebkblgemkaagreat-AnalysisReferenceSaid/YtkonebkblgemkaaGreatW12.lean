/-
  Texts of this proof, one after the other.
  Conditions: none.
-/
import Derived.Test.YtkonebkblgemkaaGreatW11
set_option linter.unusedVariables false
set_option linter.unusedSimpArgs false
set_option maxRecDepth 100000
set_option maxHeartbeats 4000000
noncomputable section
variable{i j m b:Nat}{x y z u v:Int}{h g:Go.Pv.Heap}{c d l:List Go.Pv.IV}{A B C:List Go.M15.Nd}{K L:Y12}{s t:Go.Pv.IV}{F:List Go.M10.E}{D:Go.Pv.Meta}{V W:List Go.Value}{T U:Go.TypeId}{o:Bool}{X Y:Go.Value}{r:Y11}{G:Go.M10.BSt}{O:Go.Oper}{N:Y10}{H:Array Go.Value}
section
namespace Go.Proofs.YtkonebkblgemkaaGreat
open Go.Pv Go.M15 Go.M10
def alI(l:Y15)(g k:Nat)(h:Heap):Inv':= .or
 (dL Nat (λx=>[(0,.v (.vslice (some g) (l.length*3+6) (l.length+2) 3 (l.flatMap cN++ [.int .i64 26,.int .i64 0,.vslice none 0 0 1 [],.int .i64 1,.int .i64 0,.vslice none 0 0 1 []]))),(1,.v (.int .i64 (k:Int))),(6,.v (.int .i64 (l.length:Int))),(7,.v (.vslice none 1 1 1 [.int .i64 (l.length:Int)])),(8,.v (.int .i64 1))]) (λ_=>[]) (λ_=>h.set g (.tip (l.length*3+6))) (λx=>x=1/\True) (λx=>k-x))
 (dL (Nat×Heap×Nat×Y12) (λx=>[(0,.v (.vslice (some g) (l.length*3+6) (l.length+2) 3 (l.flatMap cN++ [.int .i64 26,.int .i64 0,.vslice none 0 0 1 [],.int .i64 1,.int .i64 0,.vslice none 0 0 1 []]))),(1,.v (.int .i64 (k:Int))),(6,.v (.int .i64 (l.length:Int))),(7,.v (.vslice (some x.2.2.1) x.2.2.2.length x.2.2.2.length 1 (x.2.2.2.map (IV.int .i64)))),(8,.v (.int .i64 (x.1:Int)))]) (λ_=>[]) (λx=>x.2.1)
 (λx=>(1<=x.1/\x.1<=k/\x.2.2.2=(l.length:Int)::List.replicate (x.1-1) ((l.length:Int)+1))/\x.2.1.get g= .tip (l.length*3+6)/\x.2.1.get x.2.2.1= .tip x.2.2.2.length/\x.2.2.1≠g/\h.next<=x.2.2.1/\x.2.2.1<x.2.1.next/\∀j,j<h.next->j≠g->x.2.1.get j=h.get j) (λx=>k-x.1))
def a6Z(xs:Y14)(h:Heap)(K:KT):Prop:=match xs with
 | [.vslice (some io) e0 n0 3 c0,.int .i64 q]=> ∃(l:Y15)(k:Nat),(n0=l.length/\e0=l.length*3/\c0=l.flatMap cN/\q=(k:Int))/\(1<=k/\k<=16/\l.length<=100000)/\h.get io= .tip (l.length*3)/\io<h.next/\∀(h2:Heap)(g:Y14),g=l.flatMap cN++Keep.loopC l.length k->h2.get io= .tip ((l.length+3)*3)/\h.next<=h2.next/\(∀j,j<h.next->j≠io->h2.get j=h.get j)->K (.tuple [.vslice (some io) ((l.length+3)*3) (l.length+3) 3 g,.int .i64 ((l.length+2:Nat):Int)]) h2
 |_=>False
def Zh(l:Y15):=l.length*3+6
def c5W:=[iI 26,iI 0,IV.vslice none 0 0 1 [],iI 1,iI 0,IV.vslice none 0 0 1 []]
def gP(g:Nat×Heap×Nat×Y12):Y12:=g.2.2.2
def B5(g:Nat×Heap×Nat×Y12):=(gP g).length+1
def sQ(l:Y15)(g:Int):Int:=wW ((l.length:Int)+g)
def b0A(l:Y15):=[iI (l.length:Int),iI (sQ l 1)]
def Aw(k:Nat):=(k:Int).toNat-0
def b0B(l:Y15)(g:Nat×Heap×Nat×Y12):=List.map (IV.int .i64) (gP g)++ [iI (sQ l 1)]
def c5X(l:Y15):=IV.vslice none 1 1 1 [iI (l.length:Int)]
def T1(l:Y15):=IObj.tip (Zh l)
def Gu(g:Nat)(l:Y15):TV:=TV.v (.vslice (some g) (Zh l) (l.length+2) 3 (List.flatMap cN l++c5W))
def Gs(u:Nat)(l:Y15)(k:Nat)(m:IV)(r:Int)(g:IV)(i:Int)(j:Prop):Prop:=some (Gu u l)=some (Gu u l)/\tI (k:Int)=tI (k:Int)/\tI (l.length:Int)=tI (l.length:Int)/\some (TV.v m)=some (TV.v g)/\tI r=tI i/\j
def jY(g:Nat×Heap×Nat×Y12):Nat:=g.2.2.1
def K0(y:Nat)(l:Y15)(k:Nat)(i:IV)(j:Int)(r:Nat->Prop)(u:Nat×Heap×Nat×Y12->Prop):Prop:=(∃(m:Nat),Gs y l k i j (c5X l) 1 (r m)) \/ ∃(g:Nat×Heap×Nat×Y12),Gs y l k i j (IV.vslice (some (jY g)) ((gP g).length) ((gP g).length) 1 (List.map (IV.int .i64) (gP g))) (g.1:Int) (u g)
def wY(k:Nat)(l:Y15)(j:Nat)(h:Heap)(g:Nat×Heap×Nat×Y12):Prop:=(1<=g.1/\g.1<=k/\g.2.2.2=(l.length:Int)::List.replicate (g.1-1) ((l.length:Int)+1))/\Heap.get g.2.1 j=IObj.tip (Zh l)/\Heap.get g.2.1 (jY g)=IObj.tip ((gP g).length)/\g.2.2.1≠j/\Heap.next h<=g.2.2.1/\g.2.2.1<Heap.next
 g.2.1/\∀(i:Nat),i<h.next->i≠j->Heap.get g.2.1 i=h.get i
def Gt(l:Y15)(Q:KT)(r:Nat)(g:Nat)(i:Nat)(j:Y14)(m:Heap):Prop:=aF (Nat.beq g (Zh l) &&Nat.ble ((l.length+2+1)*40) 140737488355328) (Q (.tuple [.vslice (some r) (l.length*3+6+3) (l.length+2+1) 3 (List.flatMap cN l++c5W++ [iI 31,iI 0,IV.vslice none 0 i 1 j]),iI (sQ l 2)]) (m.set r (IObj.tip (l.length
 *3+6+3))))
def Gq(k:Nat)(D:Nat)(l:Y15)(Q:KT)(G:Int)(i:Heap)(A:Nat)(K:Y14)(g:Nat)(j:Nat)(m:Nat)(z:Y14):Prop:=aF (true&& (decide (0<=(k:Int)) &&decide ((k:Int)<=G))) (aK (Nat.beq (Aw k) 0) (lL i D λr=>Gt l Q D r A K i) (lL i g λu=>aF (Nat.beq u A&&Nat.ble (j*8) 140737488355328) (lL (i.set g (IObj.tip m))
 D λy=>Gt l Q D y j z (i.set g (IObj.tip m)))))
theorem f1X(l:Y15)(j k:Nat)(h:Heap)(Q:KT):dF (aU a0O) env 166 cC (mJ 6 (alI l j k h)) bD [.vslice (some j) (l.length*3) l.length 3 (l.flatMap cN),.int .i64 (k:Int)] h Q=(
 lL h j λr=>aF (Nat.beq r (l.length*3) &&Nat.ble ((l.length+2)*40) 140737488355328) ((K0 j l k (c5X l) 1 (λx=>h.set j (T1 l)=h.set j (T1 l)/\(x=1/\True)/\True) (λg=>h.set j (T1 l)=g.2.1/\(wY k l j h g)/\True))/\(∀(x:Nat)(b:FF),x=1/\True->aK (decide (1< (k:Int))) (K0 j l k (IV.vslice (some (h.next)) 2 2 1 (b0A l)) 2 (λm=>(h.set j (T1 l)).push (IObj.tip 2)=h.set j (T1 l)/\(m=1/\True)/\k-m<k-x) (λi=>(h.set j (T1 l)).push (IObj.tip 2)=i.2.1/\(wY k l j h i)/\k-i.1<k-x)) (Gq k j l Q 2 ((h.set j (T1 l)).push (IObj.tip 2)) 2 (b0A l) (h.next) ((2:Nat)+(Aw k)) ((2:Nat)+(Aw k)*1) (iI (l.length:Int)::iI (sQ l 1)::List.take ((Aw k)*1) (b0A l))))/\∀(g:Nat×Heap×Nat×Y12)(b:FF),(wY k l j h g)->aK (decide ((g.1:Int)< (k:Int))) (lL g.2.1 (jY g) λu=>aF (Nat.beq u ((gP g).length) &&Nat.ble ((B5 g)*8) 140737488355328) (K0 j l k (IV.vslice (some (jY g)) (B5 g) (B5 g) 1 (b0B l g)) (wW ((g.1:Int)+1)) (λm=>g.2.1.set (jY g) (IObj.tip (B5 g))=h.set j (T1 l)/\(m=1/\True)/\k-m<k-g.1) (λi=>g.2.1.set (jY g) (IObj.tip (B5 g))=i.2.1/\(wY k l j h i)/\k-i.1<k-g.1))) (lL ((g.2).1) (jY g) λy=>aF (Nat.beq y ((gP g).length) &&Nat.ble ((B5 g)*8) 140737488355328) (Gq k j l Q ((B5 g):Int) (g.2.1.set (jY g) (IObj.tip (B5 g))) (B5 g) (b0B l g) (jY g) ((gP g).length+1+(Aw k)) ((gP g).length+1+(Aw k)*1) (List.map (IV.int .i64) (gP g)++ [iI (sQ l 1)]++List.take ((Aw k)*1) (List.drop 0 (b0B l g))))))):=by kernel_rfl
theorem d6O: ∀xs h Q,a6Z xs h Q->aM env 166 xs h Q:=by
 intro xs h Q hk;unfold a6Z at hk;split at hk
 .rename_i A e0 n0 c0 q;obtain⟨l,k,⟨rfl,rfl,rfl,rfl⟩,hb,ht,L,hk⟩:=hk;refine aL (a7V) (f1X l A k h Q) ?_;delta Zh c5W Gu Gs c5X jY gP K0 T1 wY sQ b0A Aw Gt Gq B5 b0B tI wW iI; (try dsimp -iota -proj only);obtain⟨h1,h2,h3⟩:=hb;have w1:IntKind.i64.wrap ((l.length:Int)+1)=(l.length:Int)+1:=AA _ JZ;have w2:IntKind.i64.wrap ((l.length:Int)+2)=((l.length+2:Nat):Int):=by rw [AA _ JZ];rfl
  rw [w1,w2];simp only [AK,IM,AM];refine bB ht (aA (by simp only [AE,bT,BB,true_and];omega) ⟨.inl ⟨1,KD,KD,KD,KD,KD,KD,⟨rfl,True.intro⟩,True.intro⟩,?_,?_⟩)
  .rintro x _ ⟨rfl,_⟩;have y:A≠h.next:=ET L;refine cV (λc=> .inr ⟨(2,_,h.next,[(l.length:Int),(l.length:Int)+1]),KD,KD,KD,KD,KD,KD,⟨⟨by show 1<=2;omega,by show 2<=k;omega,rfl⟩,?_,aW,y.symm,AF _,AQ _,λj X r=>?_⟩,by show k-2<k-1;omega⟩) (λc=>?_)
   .exact(aO (show A< (h.set A _).next from L)).trans aH
   .exact(aO (show j< (h.set A (.tip (l.length*3+6))).next from X)).trans (aG r)
   .have Y:k=1:=JZ;subst Y;refine aA KA (bf KA (bB aW (aA KA (bB ((aG y).trans ((aO (show A< (h.set A _).next from L)).trans aH)) (aA (by simp only [AE,bT,BB,true_and];omega) ?_)))));refine cast (congrArg (λz=>Q z _) ?_) (hk _ _ (CI) ⟨by rw [aH];congr 1;omega,DM _,λj X r=>?_⟩)
    .rw [wJ,show(l.length+3)*3=l.length*3+6+3 by omega];rfl
    .exact(aG r).trans ((aG (ET X)).trans ((aO (show j< (h.set A (.tip (l.length*3+6))).next from X)).trans (aG r)))
  .rintro⟨j,g,jk,ks⟩ _ ⟨⟨j1,j2,m⟩,D,G,i,O,T,K⟩;dsimp only at j1 j2 m D G i O T K⊢;have V:ks.length=j:=by
    rw [m,AS,DR];omega
   refine cV (λc=>bB G (aA (by simp only [AE,bT,BB,true_and];omega) (.inr ⟨(j+1,g.set jk (.tip (ks.length+1)),jk,ks++ [(l.length:Int)+1]),KD,KD,KD,KB,(by(try dsimp only);rw [AA _ JZ];rfl),KD,⟨⟨CO _,by(try dsimp only);omega,?_⟩,(aG i.symm).trans D,?_,i,O,T,λq Z u=>(aG JZ).trans (K q Z u)⟩,by(try dsimp only);omega⟩))) (λc=>?_)
   ·(try dsimp only)
    rw [m,CV,<-List.replicate_succ',show j-1+1=j+1-1 by omega]
   ·(try dsimp only)
    rw [AI];exact aH
   .have R:j=k:=JZ;subst R;refine bB G (aA (by simp only [AE,bT,BB,true_and];omega) (aA (by simp only [BD,AE,decide_eq_true_eq];omega) (bf (by rw [Ev];omega) (bB aH (aA (by simp only [AE,bT,BB,true_and];omega) (bB ((aG i.symm).trans ((aG i.symm).trans D)) (aA (by simp only [AE,bT,BB,true_and];omega) ?_)))))));refine cast (congrArg (λz=>Q z _) ?_) (hk _ _ (CI) ⟨by rw [aH];congr 1;omega,by show h.next<=g.next;omega,λq Z u=>(aG u).trans ((aG JZ).trans ((aG JZ).trans (K q Z u)))⟩);rw [wJ,show(l.length+3)*3=l.length*3+6+3 by omega,Nq h1 m,DB,CQ (by rw [AX];omega),AJ (by rw [AX];omega)];simp only [BY,AI,BN,DT,AS,BL,V]
 .exact hk.elim
def b4V:=aV 166 a6Z a0O
theorem c0Z:aS env b4V:=aE d6O (a7V)
def anI(k:Nat)(h:Heap):Inv':= .or
 (dL Nat (λx=>[(0,.v (.vslice (some h.next) 6 2 3 ([.int .i64 26,.int .i64 0,.vslice none 0 0 1 [],.int .i64 1,.int .i64 0,.vslice none 0 0 1 []]))),(1,.v (.int .i64 (k:Int))),(6,.v (.int .i64 0)),(7,.v (.vslice none 1 1 1 [.int .i64 0])),(8,.v (.int .i64 1))]) (λ_=>[]) (λ_=>h.push (.tip 6)) (λx=>x=1/\True) (λx=>k-x))
 (dL (Nat×Heap×Nat×Y12) (λx=>[(0,.v (.vslice (some h.next) 6 2 3 ([.int .i64 26,.int .i64 0,.vslice none 0 0 1 [],.int .i64 1,.int .i64 0,.vslice none 0 0 1 []]))),(1,.v (.int .i64 (k:Int))),(6,.v (.int .i64 0)),(7,.v (.vslice (some x.2.2.1) x.2.2.2.length x.2.2.2.length 1 (x.2.2.2.map (IV.int .i64)))),(8,.v (.int .i64 (x.1:Int)))]) (λ_=>[]) (λx=>x.2.1)
 (λx=>(1<=x.1/\x.1<=k/\x.2.2.2=(0:Int)::List.replicate (x.1-1) 1)/\x.2.1.get h.next= .tip 6/\x.2.1.get x.2.2.1= .tip x.2.2.2.length/\x.2.2.1≠h.next/\h.next<x.2.2.1/\x.2.2.1<x.2.1.next/\∀j,j<h.next->x.2.1.get j=h.get j) (λx=>k-x.1))
def a6Y(xs:Y14)(h:Heap)(K:KT):Prop:=match xs with
 | [.nilslice,.int .i64 q]=> ∃(k:Nat),q=(k:Int)/\(1<=k/\k<=16)/\∀(h2:Heap)(g:Y14),g=Keep.loopC 0 k->h2.get h.next= .tip 9/\h.next<h2.next/\(∀j,j<h.next->h2.get j=h.get j)->K (.tuple [.vslice (some h.next) 9 3 3 g,.int .i64 2]) h2
 |_=>False
def c4X(h:Heap):=TV.v (.vslice (some (h.next)) 6 2 3 [iI 26,iI 0,IV.vslice none 0 0 1 [],iI 1,iI 0,IV.vslice none 0 0 1 []])
def gQ(g:Nat×Heap×Nat×Y12):Y12:=g.2.2.2
def B2(g:Nat×Heap×Nat×Y12):=(gQ g).length+1
def Am(k:Nat):=(k:Int).toNat-0
def a9P:=[iI 0,iI 1]
def J8:=IObj.tip 6
def a9Q(g:Nat×Heap×Nat×Y12):=List.map (IV.int .i64) (gQ g)++ [iI 1]
def c4Y:=IV.vslice none 1 1 1 [iI 0]
def Gw(h:Heap)(k:Nat)(l:IV)(m:Int)(g:IV)(i:Int)(j:Prop):Prop:=some (c4X h)=some (c4X h)/\tI (k:Int)=tI (k:Int)/\tI 0=tI 0/\some (TV.v l)=some (TV.v g)/\tI m=tI i/\j
def jZ(g:Nat×Heap×Nat×Y12):Nat:=g.2.2.1
def K1(h:Heap)(k:Nat)(i:IV)(j:Int)(m:Nat->Prop)(r:Nat×Heap×Nat×Y12->Prop):Prop:=(∃(l:Nat),Gw h k i j c4Y 1 (m l)) \/ ∃(g:Nat×Heap×Nat×Y12),Gw h k i j (IV.vslice (some (jZ g)) ((gQ g).length) ((gQ g).length) 1 (List.map (IV.int .i64) (gQ g))) (g.1:Int) (r g)
def wZ(k:Nat)(h:Heap)(g:Nat×Heap×Nat×Y12):Prop:=(1<=g.1/\g.1<=k/\g.2.2.2=0::List.replicate (g.1-1) 1)/\Heap.get g.2.1 (h.next)=IObj.tip 6/\Heap.get g.2.1 (jZ g)=IObj.tip ((gQ g).length)/\g.2.2.1≠Heap.next h/\Heap.next h<g.2.2.1/\g.2.2.1<g.2.1.next/\∀ (zb7
 :Nat),zb7<h.next->Heap.get g.2.1 zb7=h.get zb7
def Gx(Q:KT)(h:Heap)(g:Nat)(i:Nat)(j:Y14)(l:Heap):Prop:=aF (Nat.beq g 6 &&true) (Q (.tuple [.vslice (some (h.next)) 9 3 3 [iI 26,iI 0,IV.vslice none 0 0 1 [],iI 1,iI 0,IV.vslice none 0 0 1 [],iI 31,iI 0,IV.vslice none 0 i 1 j],iI 2]) (l.set (h.next) (IObj.tip 9)))
def Gv(k:Nat)(h:Heap)(Q:KT)(D:Int)(i:Heap)(j:Nat)(z:Y14)(g:Nat)(l:Nat)(m:Nat)(A:Y14):Prop:=aF (true&& (decide (0<=(k:Int)) &&decide ((k:Int)<=D))) (aK (Nat.beq (Am k) 0) (lL i (h.next) λr=>Gx Q h r j z i) (lL i g λu=>aF (Nat.beq u j&&Nat.ble (l*8) 140737488355328) (lL (i.set g (IObj.tip
 m)) (h.next) λy=>Gx Q h y l A (i.set g (IObj.tip m)))))
theorem f1W(k:Nat)(h:Heap)(Q:KT):dF (aU b4V) env 166 cC (mJ 6 (anI k h)) bD [.nilslice,.int .i64 (k:Int)] h Q=(
 (K1 h k c4Y 1 (λx=>h.push J8=h.push J8/\(x=1/\True)/\True) (λg=>h.push J8=g.2.1/\(wZ k h g)/\True))/\(∀(x:Nat)(b:FF),x=1/\True->aK (decide ((1:Int)< (k:Int))) (K1 h k (IV.vslice (some (h.next+1)) 2 2 1 a9P) 2 (λj=>(h.push J8).push (IObj.tip 2)=h.push J8/\(j=1/\True)/\k-j<k-x) (λi=>(h.push J8).push (IObj.tip 2)=i.2.1/\(wZ k h i)/\k-i.1<k-x)) (Gv k h Q 2 ((h.push J8).push (IObj.tip 2)) 2 a9P (h.next+1) ((2:Nat)+(Am k)) ((2:Nat)+(Am k)*(1:Nat)) (iI 0::iI 1::List.take ((Am k)*1) a9P)))/\∀(g:Nat×Heap×Nat×Y12)(b:FF),(wZ k h g)->aK (decide ((g.1:Int)< (k:Int))) (lL g.2.1 (jZ g) λl=>aF (Nat.beq l ((gQ g).length) &&Nat.ble ((B2 g)*8) 140737488355328) (K1 h k (IV.vslice (some (jZ g)) (B2 g) (B2 g) 1 (a9Q g)) (wW ((g.1:Int)+1)) (λj=>((g.2).1).set (jZ g) (IObj.tip (B2 g))=h.push J8/\(j=1/\True)/\k-j<k-g.1) (λi=>g.2.1.set (jZ g) (IObj.tip (B2 g))=i.2.1/\(wZ k h i)/\k-i.1<k-g.1))) (lL g.2.1 (jZ g) λm=>aF (Nat.beq m ((gQ g).length) &&Nat.ble ((B2 g)*8) 140737488355328) (Gv k h Q ((B2 g):Int) (g.2.1.set (jZ g) (IObj.tip (B2 g))) (B2 g) (a9Q g) (jZ g) ((gQ g).length+1+(Am k)) ((gQ g).length+1+(Am k)*1) (List.map (IV.int .i64) (gQ g)++ [iI 1]++List.take ((Am k)*1) (List.drop 0 (a9Q g)))))):=by kernel_rfl
theorem d6N: ∀xs h Q,a6Y xs h Q->aM env 166 xs h Q:=by
 intro xs h Q hk;unfold a6Y at hk;split at hk
 .rename_i q;obtain⟨k,rfl,Z,hk⟩:=hk;refine aL (c0Z) (f1W k h Q) ?_;delta c4X Gw c4Y jZ gQ K1 J8 wZ a9P Am Gx Gv B2 a9Q tI wW iI; (try dsimp -iota -proj only);obtain⟨h1,h2⟩:=Z;simp only [AK,IM,AM];refine⟨.inl ⟨1,KD,KD,KD,KD,KD,KD,⟨rfl,True.intro⟩,True.intro⟩,?_,?_⟩
  .rintro x _ ⟨rfl,_⟩;have T:((h.push (.tip 6)).push (.tip 2)).get h.next= .tip 6:=(aO (show h.next< (h.push (.tip 6)).next from AQ _)).trans aW;have V: ∀j,j<h.next->((h.push (.tip 6)).push (.tip 2)).get j=h.get j:=λj A=>(aO (show j< (h.push (.tip 6)).next from BO A)).trans (aO A)
   refine cV (λc=> .inr ⟨(2,_,h.next+1,[0,1]),KD,KD,KD,KD,KD,KD,⟨⟨by show 1<=2;omega,by show 2<=k;omega,rfl⟩,T,aW,DL (AQ _),AQ _,AQ _,V⟩,by show k-2<k-1;omega⟩) (λc=>?_);have O:k=1:=JZ;subst O;refine aA KA (bf KA (bB aW (aA KA (bB ((aG (ET (AQ _))).trans T) (aA rfl ?_)))));refine cast (congrArg (λz=>Q z _) ?_) (hk _ _ rfl ⟨aH,BO (AQ _),λj A=>(aG (ET A)).trans ((aG (ET (BO A))).trans (V j A))⟩);rfl
  .rintro⟨j,g,X,ks⟩ _ ⟨⟨j1,j2,m⟩,r,u,i,D,K,y⟩;dsimp only at j1 j2 m r u i D K y⊢;have L:ks.length=j:=by
    rw [m,AS,DR];omega
   refine cV (λc=>bB u (aA (by simp only [AE,bT,BB,true_and];omega) (.inr ⟨(j+1,g.set X (.tip (ks.length+1)),X,ks++ [1]),KD,KD,KD,KB,(by(try dsimp only);rw [AA _ JZ];rfl),KD,⟨⟨CO _,by(try dsimp only);omega,?_⟩,(aG i.symm).trans r,?_,i,D,K,λq R=>(aG JZ).trans (y q R)⟩,by(try dsimp only);omega⟩))) (λc=>?_)
   ·(try dsimp only)
    rw [m,CV,<-List.replicate_succ',show j-1+1=j+1-1 by omega]
   ·(try dsimp only)
    rw [AI];exact aH
   .have G:j=k:=JZ;subst G;refine bB u (aA (by simp only [AE,bT,BB,true_and];omega) (aA (by simp only [BD,AE,decide_eq_true_eq];omega) (bf (by rw [Ev];omega) (bB aH (aA (by simp only [AE,bT,BB,true_and];omega) (bB ((aG i.symm).trans ((aG i.symm).trans r)) (aA rfl ?_)))))));refine cast (congrArg (λz=>Q z _) ?_) (hk _ _ rfl ⟨aH,by show h.next<g.next;omega,λq R=>(aG JZ).trans ((aG JZ).trans ((aG JZ).trans (y q R)))⟩);have e:=wJ (l:=[]) (k:=j);rw [DG]at e;have Y:=Nq (n:=0) h1 m;rw [show Keep.loopC 0 j=(kV ([]:Y15).length j).flatMap cN from rfl,e,show([]:Y15).length=0 from rfl,Y,DB,CQ (by rw [AX];omega),AJ (by rw [AX];omega)];simp only [BY,AI,BN,DT,AS,BL,L];rfl
 .exact hk.elim
def d4F:=aV 166 a6Y b4V
theorem e1H:aS env d4F:=aE d6N (c0Z)
def d9K(xs:Y14)(h:Heap)(K:KT):Prop:=match xs with
 | [a,b]=>a6Z [a,b] h K\/a6Y [a,b] h K
 |_=>False
theorem f5M: ∀xs h Q,d9K xs h Q->aM env 166 xs h Q:=by
 intro xs h Q hk;unfold d9K at hk;split at hk
 .exact hk.elim (d6O _ _ _) (d6N _ _ _)
 .exact hk.elim
def d7M:=aV 166 d9K d4F
theorem d4X:aS env d7M:=aE f5M (e1H)
def Rc(xs:Y14)(h:Heap)(K:KT):Prop:=match xs with
 | [.int .i64 k]=>(1<=k/\k<=1000000)/\K (.int .i64 ((k-1)/2)) h
 |_=>False
theorem d1M(k:Int)(h:Heap)(Q:KT):dF (aU d7M) env 99 cC bD bD [.int .i64 k] h Q=(
 Q (.int .i64 (wW (Int.tdiv (wW (k-1)) 2))) h):=by kernel_rfl
theorem d0E: ∀xs h Q,Rc xs h Q->aM env 99 xs h Q:=by
 intro xs h Q hk;unfold Rc at hk;split at hk
 .rename_i k;obtain⟨g,hk⟩:=hk;refine aL (d4X) (d1M k h Q) ?_;delta wW;refine bN hk ?_
  congr 1
  rw [AA (k-1) JZ,BQ JZ,AA _ JZ]
 .exact hk.elim
def Pj:=aV 99 Rc d7M
theorem Ww:aS env Pj:=aE d0E (d4X)
def c7D(l:Y15)(i:Nat)(u:Y12)(id:Nat)(h:Heap)(j:Nat)(g:Heap)(m r:Nat)(few:Y15)(kids:Y12):Prop:=(j<=(l.getD i default).ks.length/\(few,kids)=kO ([],[]) (oI l i j u))/\(g.get m= .tip (few.length*3)/\g.get r= .tip kids.length)/\(m≠id/\r≠id/\m≠r)/\(m<g.next/\r<g.next)/\g.get id=h.get id/\h.next<=g.next
def f3Z(l:Y15)(i e0 id:Nat)(g:Y12)(h:Heap):Inv':= .or
 (dL Nat (λx=>[(0,.v (.vslice none e0 (l).length 3 ((l).flatMap cN))),(1,.v (.hslice id 0 g.length 1)),(2,.v (.int .i64 (i:Int))),(16,.v (.vslice none 0 ((l.getD i default).ks).length 1 (((l.getD i default).ks).map (IV.int .i64)))),(17,.v (.int .i64 (l.getD i default).ks.length)),(18,.v (.int .i64 0)),(7,.v .nilslice),(8,.v .nilslice)]) (λ_=>[]) (λ_=>h) (λx=>x=0/\True) (λx=>(l.getD i default).ks.length-x))
 (dL (Nat×Heap×Nat×Nat×Y15×Y12) (λx=>[(0,.v (.vslice none e0 (l).length 3 ((l).flatMap cN))),(1,.v (.hslice id 0 g.length 1)),(2,.v (.int .i64 (i:Int))),(16,.v (.vslice none 0 ((l.getD i default).ks).length 1 (((l.getD i default).ks).map (IV.int .i64)))),(17,.v (.int .i64 (l.getD i default).ks.length)),(18,.v (.int .i64 (x.1:Int))),(7,.v (.vslice (some x.2.2.1) (x.2.2.2.2.1.length*3) x.2.2.2.2.1.length 3 (x.2.2.2.2.1.flatMap cN))),(8,.v (.vslice (some x.2.2.2.1) x.2.2.2.2.2.length x.2.2.2.2.2.length 1 (x.2.2.2.2.2.map (IV.int .i64))))]) (λ_=>[]) (λx=>x.2.1)
 (λx=>c7D l i g id h x.1 x.2.1 x.2.2.1 x.2.2.2.1 x.2.2.2.2.1 x.2.2.2.2.2/\True) (λx=>(l.getD i default).ks.length-x.1))
def a2A(xs:Y14)(h:Heap)(K:KT):Prop:=match xs with
 | [.vslice none e0 n0 3 c0,.hslice id 0 n2 1,.int .i64 q]=> ∃(l:Y15)(i:Nat)(g:Y12),(n0=l.length/\c0=l.flatMap cN/\q=(i:Int)/\n2=g.length)/\(NGP l i g/\h.get id= .cells (g.map (IV.int .i64))/\id<h.next)/\∀h2:Heap,h2.get id=h.get id/\h.next<=h2.next->K (.int .i64 (cH (l.take i) (aD (l.take i)) (l.getD i default))) h2
 |_=>False
def Lr(g:Nat×Heap×Nat×Nat×Y15×Y12):=g.2.1
def jX(g:Nat×Heap×Nat×Nat×Y15×Y12):Nat:=g.2.2.1
def dZ(g:Nat×Heap×Nat×Nat×Y15×Y12):Nat×Y15×Y12:=g.2.2.2
def cY(g:Nat×Heap×Nat×Nat×Y15×Y12):Y15:=((dZ g).2).1
def d3W(g:Nat×Heap×Nat×Nat×Y15×Y12):=(Lr g).set (jX g) (IObj.tip ((cY g).length*3+3))
def dE(l:Y15)(i:Nat):Y12:=Nd.ks (List.getD l i default)
def Ml(l:Y15)(i:Nat):=(dE l i).length
def a6B:=IV.int .i64
def b4B(g:Nat×Heap×Nat×Nat×Y15×Y12):=(cY g).length+1
def iZ(g:Nat×Heap×Nat×Nat×Y15×Y12):Y12:=((dZ g).2).2
def b4C(g:Nat×Heap×Nat×Nat×Y15×Y12):=(iZ g).length+1
def e6Z(l:Y15):=(∀(g:Nd),g∈l->List.length (Nd.ks g)<=1000000/\True)
def e7A(l:Y15)(i:Nat):=decide (0<=(i:Int)) &&decide ((i:Int)< (l.length:Int))
def c6V:=IObj.tip 1
def wX(l:Y15)(i:Nat):IV:=IV.vslice none 0 (Ml l i) 1 (List.map a6B (dE l i))
def Gm(e0:Nat)(l:Y15)(id:Nat)(G:Y12)(i:Nat)(u:IV)(y:Nat)(z:Int)(A:IV)(D:IV)(g:Int)(j:IV)(m:IV)(r:Prop):Prop:=some (TV.v (.vslice none e0 l.length 3 (List.flatMap cN l)))=some (TV.v (.vslice none e0 l.length 3 (List.flatMap cN l)))/\some (TV.v (.hslice id 0 G.length 1))=some (TV.v (.hslice id 0 G.length 1))/\tI (i:Int)=tI (i:Int)/\some (TV.v u)=some (TV.v (wX l i))/\tI (y:Int)
 =tI ((Ml l i):Int)/\tI z=tI g/\some (TV.v A)=some (TV.v j)/\some (TV.v D)=some (TV.v m)/\r
def wU(e0:Nat)(l:Y15)(id:Nat)(G:Y12)(i:Nat)(j:IV)(m:Nat)(r:Int)(u:IV)(y:IV)(A:Nat->Prop)(D:Nat×Heap×Nat×Nat×Y15×Y12->Prop):Prop:=(∃(z:Nat),Gm e0 l id G i j m r u y 0 IV.nilslice IV.nilslice (A z)) \/ ∃(g:Nat×Heap×Nat×Nat×Y15×Y12),Gm e0 l id G i j m r u y (g.1:Int) (IV.vslice (some (jX g)) ((cY g).length*3) ((cY
 g).length) 3 (List.flatMap cN (cY g))) (IV.vslice (some ((dZ g).1)) ((iZ g).length) ((iZ g).length) 1 (List.map a6B (iZ g))) (D g)
def wV(l:Y15)(i:Nat)(j:Y12)(id:Nat)(h:Heap)(g:Nat×Heap×Nat×Nat×Y15×Y12):Prop:=((g.1<=List.length (dE l i)/\(((dZ g).2).1,((dZ g).2).2)=kO ([],[]) (oI l i g.1 j))/\(g.2.1.get (jX g)=IObj.tip ((cY g).length*3)/\Heap.get g.2.1 ((dZ g).1)=IObj.tip ((iZ
 g).length))/\(g.2.2.1≠id/\Prod.fst (dZ g)≠id/\g.2.2.1≠Prod.fst (dZ g))/\(g.2.2.1<g.2.1.next/\Prod.fst (dZ g)<g.2.1.next)/\Heap.get g.2.1 id=h.get id/\Heap.next h<=Heap.next g.2.1)/\True
def Gl(e0:Nat)(l:Y15)(id:Nat)(r:Y12)(i:Nat)(h:Heap)(x:Nat)(m:Int):Prop:=wU e0 l id r i (wX l i) (Ml l i) 1 (IV.vslice (some (h.next)) 3 1 3 [iI m,iI 0,IV.vslice none 0 0 1 []]) (IV.vslice (some (h.next+1)) 1 1 1 [iI 0]) (λj=>(h.push (IObj.tip 3)).push c6V=h/\(j=0/\True)/\List.length (dE l
 i)-j< (dE l i).length-x) (λg=>(h.push (IObj.tip 3)).push c6V=g.2.1/\(wV l i r id h g)/\List.length (dE l i)-g.1< (dE l i).length-x)
def Gp(l:Y15)(i:Int)(j:Nat->Prop):Prop:=aF (decide (0<=i) &&decide (i< (l.length:Int))) (bM 1 (List.flatMap cN l) (i.toNat*3+2) λm r g u=>(1<=(g:Int)/\(g:Int)<=1000000)/\(j g))
def J9(i:Nat)(l:Y15)(j:Nat)(m:Int->Prop):Prop:=aF (e7A l i) (aN .i64 (List.flatMap cN l) ((i:Int).toNat*3+j) λg=>m g)
def Gn(i:Nat)(l:Y15)(j:Nat)(m:Int->Prop):Prop:=J9 i l j (λg=>m g)
def Gj(g:Nat×Heap×Nat×Nat×Y15×Y12)(e0:Nat)(l:Y15)(id:Nat)(K:Y12)(i:Nat)(h:Heap)(u:Nat)(y:Nat)(z:Y15)(A:Nat)(D:Y14)(G:Int)(r:Heap):Prop:=aF (Nat.beq u ((iZ g).length) &&Nat.ble ((b4C g)*8) 140737488355328) (wU e0 l id K i (wX l i) (Ml l i) (wW ((g.1:Int)+1)) (IV.vslice (some (jX g)) y (z.length+A) 3 D) (IV.vslice (some ((dZ g).1)) (b4C g) (b4C g)
 1 (List.map a6B (iZ g)++ [iI G])) (λm=>r.set ((dZ g).1) (IObj.tip (b4C g))=h/\(m=0/\True)/\List.length (dE l i)-m< (dE l i).length-g.1) (λj=>r.set ((dZ g).1) (IObj.tip (b4C g))=j.2.1/\
 (wV l i K id h j)/\List.length (dE l i)-j.1< (dE l i).length-g.1))
def Gk(g:Nat×Heap×Nat×Nat×Y15×Y12)(e0:Nat)(l:Y15)(id:Nat)(u:Y12)(i:Nat)(h:Heap)(r:Int):=lL (Lr g) (jX g) λj=>aF (Nat.beq j ((cY g).length*3) &&Nat.ble ((b4B g)*40) 140737488355328) (lL (d3W g) ((dZ g).1) λm=>Gj g e0 l id u i h m ((cY g).length*3+3) (cY g) 1 (List.flatMap
 cN (cY g)++ [iI r,iI 0,IV.vslice none 0 0 1 []]) (↑((cY g).length):Int) (d3W g))
theorem e4A(l:Y15)(i:Nat)(e0 id:Nat)(r:Y12)(h:Heap)(Q:KT):dF (aU Pj) env 98 cC (mJ 5 (f3Z l i e0 id r h)) bD [.vslice none e0 (l).length 3 ((l).flatMap cN),.hslice id 0 r.length 1,.int .i64 (i:Int)] h Q=(
 aF (e7A l i) (bM 1 (List.flatMap cN l) ((i:Int).toNat*3+2) λi0 e1 Z c3=>(wU e0 l id r i (IV.vslice i0 e1 Z 1 c3) Z 0 IV.nilslice IV.nilslice (λx=>h=h/\(x=0/\True)/\True) (λg=>h=g.2.1/\(wV l i r id h g)/\True))/\(∀(x:Nat)(b:FF),x=0/\True->aK (decide (0< ((Ml l i):Int))) (aF (true&&decide (0< ((Ml l i):Int))) (aN .i64 (List.map a6B (dE l i)) 0 λG=>aF (decide (0<=G) &&decide (G< (r.length:Int))) (aT h id λr5=>aN .i64 r5 ((0:Nat)+G.toNat*1) λn6=>aK (n6==1) (Gl e0 l id r i h x 1) (aK (n6==(2:Int)) (Gl e0 l id r i h x 26) (Gp l G (λl9=>(False\/ ∃(k:Nat),((l9:Int)-1)/ (2:Int)=(k:Int)/\(1<=k/\k<=16)/\∀(h2:Heap)(z:Y14),z=Keep.loopC 0 k->(h2.get (h.next)=IObj.tip 9/\Heap.next h<h2.next/\∀(j:Nat),j<h.next->Heap.get h2 j=h.get j)->wU e0 l id r i (wX l i) (Ml l i) 1 (IV.vslice (some (h.next)) 9 3 3 z) (IV.vslice (some (h2.next)) 1 1 1 [iI 2]) (λD=>h2.push c6V=h/\(D=0/\True)/\List.length (dE l i)-D< (dE l i).length-x) (λu=>h2.push c6V=u.2.1/\(wV l i r id h u)/\List.length (dE l i)-u.1< (dE l i).length-x)))))))) (Gn i l 0 (λR=>J9 i l 1 (λT=> ∃(l:Y15),((1:Nat)=l.length/\[iI R,iI T,IV.vslice none 0 0 1 []]=List.flatMap cN l)/\((e6Z l)/\l.length<=1000000/\(0:Int)<=0/\0< (l.length:Int))/\Q (.int .i64 (List.getD (aD l) 0 0)) (h.push (IObj.tip 3))))))/\∀(g:Nat×Heap×Nat×Nat×Y15×Y12)(b:FF),c7D l i r id h g.1 (Lr g) (jX g) ((dZ g).1) (cY g) (iZ g)/\True->aK (decide ((g.1:Int)< ((Ml l i):Int))) (aF (decide (0<=(g.1:Int)) &&decide ((g.1:Int)< ((Ml l i):Int))) (aN .i64 (List.map a6B (dE l i)) ((g.1:Int).toNat*1) λy=>aF (decide (0<=y) &&decide (y< (r.length:Int))) (aT (Lr g) id λY=>aN .i64 Y ((0:Nat)+y.toNat*1) λA=>aK (A==1) (Gk g e0 l id r i h 1) (aK (A==2) (Gk g e0 l id r i h 26) (Gp l y (λK=>((∃(m:Y15)(k:Nat),((cY g).length=m.length/\List.length (cY g)*3=m.length*3/\List.flatMap cN (cY g)=List.flatMap cN m/\((K:Int)-1)/ (2:Int)=(k:Int))/\(1<=k/\k<=16/\m.length<=100000)/\Heap.get (Lr g) (jX g)=IObj.tip (m.length*3)/\g.2.2.1< (Lr g).next/\∀(h2:Heap)(z:Y14),z=List.flatMap cN m++Keep.loopC m.length k->(h2.get (jX g)=IObj.tip ((m.length+3)*3)/\Heap.next (Lr g)<=Heap.next h2/\∀(j:Nat),j< (Lr g).next->j≠g.2.2.1->Heap.get h2 j=(Lr g).get j)->lL h2 ((dZ g).1) λL=>Gj g e0 l id r i h L ((m.length+3)*3) m 3 z (↑(m.length+2):Int) h2) \/False))))))) (Gn i l 0 (λV=>J9 i l 1 (λX=>lL (Lr g) (jX g) λO=>aF (Nat.beq O ((cY g).length*3) &&Nat.ble ((b4B g)*40) 140737488355328) (∃(l:Y15),((cY g).length+1=l.length/\List.flatMap cN (cY g)++ [iI V,iI X,IV.vslice none 0 ((iZ g).length) 1 (List.map a6B (iZ g))]=List.flatMap cN l)/\((e6Z l)/\l.length<=1000000/\0<=wW (((b4B g):Int)-1)/\wW (((b4B g):Int)-1)< (l.length:Int))/\Q (.int .i64 (List.getD (aD l) ((wW (((b4B g):Int)-1)).toNat) 0)) (d3W g))))))):=by kernel_rfl
theorem e2K: ∀xs h Q,a2A xs h Q->aM env 98 xs h Q:=by
 intro xs h Q hk;unfold a2A at hk;split at hk
 .rename_i e0 n0 c0 id n2 q;obtain⟨l,i,y,⟨rfl,rfl,rfl,rfl⟩,hb,hk⟩:=hk;refine aL (Ww) (e4A l i e0 id y h Q) ?_;delta e7A dE Ml a6B wX Gm jX dZ cY iZ wU wV c6V Gl Gp J9 Gn e6Z Lr b4B d3W b4C Gj Gk tI wW iI; (try dsimp -iota -proj only);have Y: ∀x:Nat,(x:Int).toNat=x:=AK
  obtain⟨R,hg,A⟩:=hb;have hi:=R.hi;have a7:=R.hkl;have a8:=R.hll;have eD:l.getD i default=l[i]:=by rw [AH,AB hi];rfl
  have e0:(l.flatMap cN)[i*3]?=some (.int .i64 (l.getD i default).op):=by rw [eD];exact pD hi (j:=0) JZ
  have e1:(l.flatMap cN)[i*3+1]?=some (.int .i64 (l.getD i default).im):=by rw [eD];exact pD hi (j:=1) JZ
  have kq: ∀j,(r:j< (l.getD i default).ks.length)-> ∃(q1:((l.getD i default).ks[j]).toNat<y.length),(0<=(l.getD i default).ks[j]/\(l.getD i default).ks[j]<l.length)/\y[((l.getD i default).ks[j]).toNat]=y.getD ((l.getD i default).ks[j]).toNat 0/\(y.getD ((l.getD i default).ks[j]).toNat 0=1\/y.getD ((l.getD i default).ks[j]).toNat 0=2\/y.getD ((l.getD i default).ks[j]).toNat 0=3)/\(y.getD ((l.getD i default).ks[j]).toNat 0=3->(l.getD ((l.getD i default).ks[j]).toNat default).ks.length%2=1/\3<=(l.getD ((l.getD i default).ks[j]).toNat default).ks.length/\(l.getD ((l.getD i default).ks[j]).toNat default).ks.length<=33):=λj r=>by
   obtain⟨a,b,c,d,e⟩:=R.kid (AG r);exact⟨b,⟨a.1,JZ⟩,by rw [AH (l:=y),AB b];rfl,d,e⟩
  refine aA (by simp;omega) (C8 hi (by rw [Y]) ?_);rw [<-eD];refine⟨.inl ⟨0,KD,KD,KD,KD,KD,KD,KD,KD,KD,⟨rfl,trivial⟩,trivial⟩,?_,?_⟩
  .rintro x _ ⟨rfl,_⟩;have m:(([]:Y15),([]:Y12))=kO ([],[]) (oI l i 0 y):=rfl;refine cV (λc=>?_) (λc=>?_)
   .have r:0< (l.getD i default).ks.length:=JZ;obtain⟨q1,q2,q3,q4,q5⟩:=kq 0 r;refine aA (by rw [BD,decide_eq_true_eq];omega) (fD r rfl (aP ⟨q2.1,JZ⟩ (aC hg (fD q1 JZ ?_))));rw [q3];have K: ∀(o p:IObj),((h.push o).push p).get id=h.get id:=λo p=>(aO (show id< (h.push o).next from BO A)).trans (aO A)
    have a0: ∀(o p:IObj),((h.push o).push p).get h.next=o:=λo p=>(aO (show h.next< (h.push o).next from AQ _)).trans aW
    rcases q4 with s|s|s
    .rw [s];exact bt rfl (.inr ⟨(1,_,h.next,h.next+1,[⟨1,0,[]⟩],[0]),KD,KD,KD,KD,KD,KD,KD,KD,KD,⟨⟨⟨r,My r m s⟩,⟨a0 _ _,aW⟩,⟨KE,KE,KE⟩,⟨by show h.next<h.next+1+1;omega,by show h.next+1<h.next+1+1;omega⟩,K _ _,by show h.next<=h.next+1+1;omega⟩,trivial⟩,KE⟩)
    .rw [s];exact bf rfl (bt rfl (.inr ⟨(1,_,h.next,h.next+1,[⟨26,0,[]⟩],[0]),KD,KD,KD,KD,KD,KD,KD,KD,KD,⟨⟨⟨r,Mz r m s⟩,⟨a0 _ _,aW⟩,⟨KE,KE,KE⟩,⟨by show h.next<h.next+1+1;omega,by show h.next+1<h.next+1+1;omega⟩,K _ _,by show h.next<=h.next+1+1;omega⟩,trivial⟩,KE⟩))
    .rw [s];have a3:=q5 s;have hm:(l.getD ((l.getD i default).ks[0]).toNat default)=l[((l.getD i default).ks[0]).toNat]:=by rw [AH,AB JZ];rfl
     refine bf rfl (bf rfl (aP q2 (C8 (show((l.getD i default).ks[0]).toNat<l.length by omega) rfl ⟨by rw [<-hm];omega,.inr ⟨((l.getD ((l.getD i default).ks[0]).toNat default).ks.length-1)/2,by rw [<-hm];omega,JZ,λh2 cc L ⟨g1,g2,g3⟩=> .inr ⟨(1,h2.push (.tip 1),h.next,h2.next,kV 0 (((l.getD ((l.getD i default).ks[0]).toNat default).ks.length-1)/2),[2]),KD,KD,KD,KD,KD,KD,(by rw [L];rfl),KD,KD,⟨⟨⟨r,Na r m s⟩,⟨(aO g2).trans g1,aW⟩,⟨KE,KE,KE⟩,⟨BO g2,AQ _⟩,(aO (Nat.lt_trans A g2)).trans (g3 id A),by show h.next<=h2.next+1;omega⟩,trivial⟩,KE⟩⟩⟩)))
   .have hz:(l.getD i default).ks.length=0:=JZ;have fin:=R.fin (few:=[]) (kids:=[]) (by rw [hz];exact m);refine aP ⟨JZ,JZ⟩ (aR (by rw [Y];exact e0) (aP ⟨JZ,JZ⟩ (aR (by rw [Y];exact e1) ⟨[⟨(l.getD i default).op,(l.getD i default).im,[]⟩],⟨rfl,rfl⟩,⟨λx V=>?_,KB,KB,KB⟩,bN (hk _ ⟨aO A,DM _⟩) ?_⟩)))
    .rw [BU.1 V];exact⟨KB,trivial⟩
    .rw [<-fin];rfl
  .rintro⟨j,g,X,D,few,kids⟩ _ ⟨st,_⟩;obtain⟨⟨a5,m⟩,⟨gF,gK⟩,⟨nF,nK,z⟩,⟨lF,lK⟩,G,O⟩:=(show c7D l i y id h j g X D few kids from st);obtain⟨z1,z2,z3,z4⟩:=R.sz a5 m;dsimp only;have a4:g.get id= .cells (y.map (IV.int .i64)):=G.trans hg;refine cV (λc=>?_) (λc=>?_)
   .have r:j< (l.getD i default).ks.length:=JZ;obtain⟨q1,q2,q3,q4,q5⟩:=kq j r;refine aP ⟨JZ,JZ⟩ (fD r (by rw [AM,Y]) (aP ⟨q2.1,JZ⟩ (aC a4 (fD q1 JZ ?_))));rw [q3];have hw:IntKind.i64.wrap ((j:Int)+1)=((j+1:Nat):Int):=by rw [AA _ JZ];rfl
    have a1:(g.set X (.tip (few.length*3+3))).get D= .tip kids.length:=by rw [aG z.symm];exact gK
    have Z: ∀(u:Y15)(e2:Int),u.length=few.length+1->(u,kids++ [e2])=kO ([],[]) (oI l i (j+1) y)->c7D l i y id h (j+1) ((g.set X (.tip (few.length*3+3))).set D (.tip (kids.length+1))) X D u (kids++ [e2]):=λu e2 hl he=>by
     refine⟨⟨r,he⟩,⟨?_,?_⟩,⟨nF,nK,z⟩,⟨lF,lK⟩,?_,O⟩
     .rw [aG z,aH];congr 1;omega
     .rw [aH,AI];rfl
     .rw [aG nK.symm,aG nF.symm];exact G
    rcases q4 with s|s|s
    .rw [s];exact bt rfl (bB gF (aA (by simp only [AE,bT,BB,true_and];omega) (bB a1 (aA (by simp only [AE,bT,BB,true_and];omega) (.inr ⟨(j+1,_,X,D,few++ [⟨1,0,[]⟩],kids++ [(few.length:Int)]),KD,KD,KD,KD,KD,(by dsimp only;rw [hw]),(by simp only [AI,AS,BL,CI];rw [CS];rfl),(by simp only [AI,AS,BL,BY];rfl),KD,⟨Z _ _ KB (My r m s),trivial⟩,KE⟩)))))
    .rw [s];exact bf rfl (bt rfl (bB gF (aA (by simp only [AE,bT,BB,true_and];omega) (bB a1 (aA (by simp only [AE,bT,BB,true_and];omega) (.inr ⟨(j+1,_,X,D,few++ [⟨26,0,[]⟩],kids++ [(few.length:Int)]),KD,KD,KD,KD,KD,(by dsimp only;rw [hw]),(by simp only [AI,AS,BL,CI];rw [CS];rfl),(by simp only [AI,AS,BL,BY];rfl),KD,⟨Z _ _ KB (Mz r m s),trivial⟩,KE⟩))))))
    .rw [s];have a3:=q5 s;have hm:(l.getD ((l.getD i default).ks[j]).toNat default)=l[((l.getD i default).ks[j]).toNat]:=by rw [AH,AB JZ];rfl
     refine bf rfl (bf rfl (aP q2 (C8 (show((l.getD i default).ks[j]).toNat<l.length by omega) rfl ⟨by rw [<-hm];omega,.inl ⟨few,((l.getD ((l.getD i default).ks[j]).toNat default).ks.length-1)/2,⟨rfl,rfl,rfl,by rw [<-hm];omega⟩,⟨JZ,JZ,JZ⟩,gF,lF,λh2 cc L ⟨g1,g2,g3⟩=>?_⟩⟩)));have a2:h2.get D= .tip kids.length:=(g3 D lK z.symm).trans gK;refine bB a2 (aA (by simp only [AE,bT,BB,true_and];omega) (.inr ⟨(j+1,h2.set D (.tip (kids.length+1)),X,D,few++kV few.length (((l.getD ((l.getD i default).ks[j]).toNat default).ks.length-1)/2),kids++ [((few.length+2:Nat):Int)]),KD,KD,KD,KD,KD,(by dsimp only;rw [hw]),?_,(by simp only [AI,AS,BL,BY];rfl),KD,⟨⟨⟨r,Na r m s⟩,⟨?_,?_⟩,⟨nF,nK,z⟩,⟨AU lF g2,AU lK g2⟩,?_,CG O g2⟩,trivial⟩,KE⟩))
     .dsimp only;rw [L,AI,CI];rfl
     .dsimp only;rw [aG z,g1,AI];rfl
     .dsimp only;rw [aH,AI];rfl
     .dsimp only;rw [aG nK.symm,g3 id JZ nF.symm];exact G
   .have a6:j=(l.getD i default).ks.length:=JZ;rw [a6]at m;have fin:=R.fin m;have T:IntKind.i64.wrap (((few.length+1:Nat):Int)-1)=(few.length:Int):=by rw [AA _ JZ];omega
    refine aP ⟨JZ,JZ⟩ (aR (by rw [Y];exact e0) (aP ⟨JZ,JZ⟩ (aR (by rw [Y];exact e1) (bB gF (aA (by simp only [AE,bT,BB,true_and];omega) ⟨few++ [⟨(l.getD i default).op,(l.getD i default).im,kids⟩],⟨KB,?_⟩,⟨λx V=>?_,by simp;omega,by rw [T];omega,by rw [T];simp;omega⟩,bN (hk _ ⟨?_,?_⟩) ?_⟩)))))
    .rw [CI];rfl
    .rcases BZ.1 V with V|V
     .exact⟨z4 x V,trivial⟩
     .rw [BU.1 V];exact⟨by show kids.length<=1000000;omega,trivial⟩
    .rw [aG nF.symm];exact G
    .exact O
    .rw [T,Y,fin]
 .exact hk.elim
def a0M:=aV 98 a2A Pj
theorem a7T:aS env a0M:=aE e2K (Ww)
end Go.Proofs.YtkonebkblgemkaaGreat
end
section
namespace Go.Proofs.YtkonebkblgemkaaGreat
open Go.Pv Go.M13 Go.M15 Go.M10 Go.M14
def Lv(l:Y15):Prop:=l.length<=100000/\∀n∈l,n.ks.length<=41
def ASG(l:Y15)(i id:Nat)(g:Heap)(j:Y12):Prop:=i<=l.length/\g.get id= .cells (j.map (IV.int .i64))/\id<g.next/\j.length=l.length/\j.take i=(aD l).take i/\∀q,i<=q->j.getD q 0=0
def d7G(l:Y15):Inv':=dL (Nat×Nat×Heap×Y12) (λx=>[(0,.v (.vslice none 0 (l).length 3 ((l).flatMap cN))),(3,.v (.hslice x.2.1 0 l.length 1)),(12,.v (.vslice none 0 (l).length 3 ((l).flatMap cN))),(13,.v (.int .i64 (l.length:Int))),(14,.v (.int .i64 (x.1:Int)))]) (λ_=>[]) (λx=>x.2.2.1) (λx=>ASG l x.1 x.2.1 x.2.2.1 x.2.2.2/\True) (λx=>l.length-x.1)
def e7L(l:Y15):Inv':=dL (Nat×Nat×Heap×Y12×Nat×Bool) (λx=>[(0,.v (.vslice none 0 (l).length 3 ((l).flatMap cN))),(3,.v (.hslice x.2.1 0 l.length 1)),(12,.v (.vslice none 0 (l).length 3 ((l).flatMap cN))),(13,.v (.int .i64 (l.length:Int))),(14,.v (.int .i64 (x.1:Int))),(4,.v (.int .i64 (x.1:Int))),(6,.v (.bool x.2.2.2.2.2)),(20,.v (.vslice none 0 ((l.getD x.1 default).ks).length 1 (((l.getD x.1 default).ks).map (IV.int .i64)))),(21,.v (.int .i64 (l.getD x.1 default).ks.length)),(22,.v (.int .i64 (x.2.2.2.2.1:Int)))]) (λ_=>[]) (λx=>x.2.2.1)
 (λx=>ASG l x.1 x.2.1 x.2.2.1 x.2.2.2.1/\x.1<l.length/\x.2.2.2.2.1<=(l.getD x.1 default).ks.length/\x.2.2.2.2.2=!(((l.getD x.1 default).ks.take x.2.2.2.2.1).all (dY (aD (l.take x.1))))) (λx=>(l.length-x.1)*100+((l.getD x.1 default).ks.length-x.2.2.2.2.1))
def Dy(xs:Y14)(h:Heap)(K:KT):Prop:=match xs with
 | [.vslice none e1 n1 3 c1]=> ∃l:Y15,(n1=l.length/\c1=l.flatMap cN)/\Lv l/\K (.vslice none 0 (aD l).length 1 ((aD l).map (IV.int .i64))) h
 |_=>False
def Bi(g:Nat×Nat×Heap×Y12×Nat×Bool):=g.2.2
def Ll(g:Nat×Nat×Heap×Y12×Nat×Bool):=((Bi g).2).2
def rY(l:Y15):=l.length
def Zt:=IV.int .i64
def Zu(g:Nat×Nat×Heap×Y12×Nat×Bool):=g.2.2.2
def Bh(g:Nat×Nat×Heap×Y12×Nat×Bool):=g.2.1
def sR(l:Y15):IV:=IV.vslice none 0 (rY l) 3 (List.flatMap cN l)
def xA(l:Y15)(g:Nat)(i:Nat)(j:Nat)(m:Int)(r:Int)(u:Prop):Prop:=some (TV.v (sR l))=some (TV.v (sR l))/\some (TV.v (.hslice g 0 i 1))=some (TV.v (.hslice j 0 (rY l) 1))/\some (TV.v (sR l))=some (TV.v (sR l))/\tI ((rY l):Int)=tI ((rY l):Int)/\tI m=tI r/\u
def K3(l:Y15)(g:Nat×Nat×Heap×Y12):Prop:=(g.1<=l.length/\Heap.get g.2.2.1 g.2.1=IObj.cells (List.map Zt g.2.2.2)/\g.2.1<g.2.2.1.next/\g.2.2.2.length=l.length/\List.take g.1 g.2.2.2=List.take g.1 (aD l)/\∀(i:Nat),g.1<=i->List.getD g.2.2.2 i 0=0)/\True
def K6(g:Int)(i:Int):Bool:=decide (0<=g) &&decide (g<i)
def K4(l:Y15)(r:Nat)(g:Nat×Nat×Heap×Y12×Nat×Bool)(i:Int)(j:Bool)(m:Prop):Prop:=xA l r (rY l) g.2.1 i (g.1:Int) (tI i=tI (g.1:Int)/\some (TV.v (.bool j))=some (TV.v (.bool g.2.2.2.2.2))/\m)
def dG(l:Y15)(g:Nat×Nat×Heap×Y12×Nat×Bool):Y12:=Nd.ks (List.getD l g.1 default)
def Gz(l:Y15)(g:Nat×Nat×Heap×Y12×Nat×Bool):Prop:=(g.1<=l.length/\Heap.get g.2.2.1 g.2.1=IObj.cells (List.map Zt ((Zu g).1))/\g.2.1<g.2.2.1.next/\List.length ((Zu g).1)=l.length/\List.take g.1 ((Zu g).1)=List.take g.1 (aD l)/\∀(i:Nat),g.1<=i->List.getD (Prod.fst
 (Zu g)) i 0=0)/\g.1<l.length/\Prod.fst ((Zu g).2)<=List.length (dG l g)/\Prod.snd ((Zu g).2)=!List.all (List.take (((Zu g).2).1) (dG l g)) (dY (aD (List.take g.1 l)))
def xB(l:Y15)(g:Nat×Nat×Heap×Y12×Nat×Bool):Nat:=(dG l g).length-g.2.2.2.2.1
def Gy(l:Y15)(g:Nat×Nat×Heap×Y12×Nat×Bool)(i:Nat×Nat×Heap×Y12×Nat×Bool):Prop:=some (TV.v (.vslice none 0 ((dG l g).length) 1 (List.map Zt (dG l g))))=some (TV.v (.vslice none 0 ((dG l i).length) 1 (List.map Zt (dG l i))))/\tI (↑((dG l g).length):Int)=tI (↑((dG l i).length):Int)/\tI (wW ((↑(Prod.fst
 (Ll g)):Int)+1))=tI (i.2.2.2.2.1:Int)/\Prod.fst (Bi g)=i.2.2.1/\(Gz l i)/\(l.length-i.1)*100+(xB l i)< (l.length-g.1)*100+(xB l g)
def K5(l:Y15)(i:Nat×Nat×Heap×Y12×Nat×Bool):Prop:= ∃(g:Nat×Nat×Heap×Y12×Nat×Bool),K4 l (Bh i) g (i.1:Int) true (Gy l i g)
theorem c4J(l:Y15)(K:Nat)(h:Heap)(Q:KT):dF (aU a0M) env 53 cC (zE 4 (d7G l) (mJ 1000008 (e7L l))) bD [.vslice none K (l).length 3 ((l).flatMap cN)] h Q=(
 aF (aQ [sR l]) (aF (decide (0<=((rY l):Int)) && (decide (((rY l):Int)<=((rY l):Int)) && (decide (((rY l):Int)<=9223372036854775807) &&decide ((8:Int)*((rY l):Int)<=140737488355328)))) ((∃(x:Nat×Nat×Heap×Y12),xA l 0 (((rY l):Int).toNat) x.2.1 0 (x.1:Int) (Heap.mk (PT.node PT.nil (some (IObj.cells (fY (((rY l):Int).toNat) [iI 0]))) PT.nil) ((0:Nat)+1)=x.2.2.1/\(K3 l x)/\True))/\∀(x:Nat×Nat×Heap×Y12)(b:FF),ASG l x.1 x.2.1 x.2.2.1 x.2.2.2/\True->aK (decide ((x.1:Int)< ((rY l):Int))) (aF (K6 (x.1:Int) ((rY l):Int)) (aN .i64 (List.flatMap cN l) ((x.1:Int).toNat*3) λV=>aN .i64 (List.flatMap cN l) ((x.1:Int).toNat*3+1) λX=>bM 1 (List.flatMap cN l) ((x.1:Int).toNat*3+1+1) λO L A G=> ∃(M:Nat),(∃(g:Nat×Nat×Heap×Y12×Nat×Bool),K4 l x.2.1 g (x.1:Int) false (some (TV.v (.vslice O L A 1 G))=some (TV.v (.vslice none 0 ((dG l g).length) 1 (List.map Zt (dG l g))))/\tI (A:Int)=tI (↑((dG l g).length):Int)/\tI 0=tI (↑((Ll g).1):Int)/\Prod.fst ((x.2).2)=(Bi g).1/\(Gz l g)/\(l.length-g.1)*100+(xB l g)<=M))/\∀(g:Nat×Nat×Heap×Y12×Nat×Bool)(b:FF),ASG l g.1 (Bh g) ((Bi g).1) (((Bi g).2).1)/\g.1<l.length/\Prod.fst (Ll g)<=List.length (dG l g)/\Prod.snd (Ll g)=!List.all (List.take ((Ll g).1) (dG l g)) (dY (aD (List.take g.1 l)))->(l.length-g.1)*100+(xB l g)<=M->aK (decide ((↑((Ll g).1):Int)< (↑((dG l g).length):Int))) (aF (K6 (↑((Ll g).1):Int) (↑((dG l g).length):Int)) (aN .i64 (List.map Zt (dG l g)) ((↑((Ll g).1):Int).toNat*1) λu=>aK ((Ll g).2) (K5 l g) (aK (decide (u< (0:Int))) (K5 l g) (aK (decide (u>=(g.1:Int))) (K5 l g) (aF (decide (0<=u) &&decide (u< ((rY l):Int))) (aT ((Bi g).1) (Bh g) λT=>aN .i64 T ((0:Nat)+u.toNat*1) λR=> ∃(D:Nat×Nat×Heap×Y12×Nat×Bool),K4 l (Bh g) D (g.1:Int) (R==0) (Gy l g D))))))) (aK (!Prod.snd (Ll g)) (∃(m:Y15)(i:Nat)(y:Y12),(l.length=m.length/\List.flatMap cN l=List.flatMap cN m/\((g.1):Int)=(i:Int)/\l.length=y.length)/\(NGP m i y/\Heap.get ((Bi g).1) (Bh g)=IObj.cells (List.map Zt y)/\g.2.1< ((Bi g).1).next)/\∀(h2:Heap),h2.get (Bh g)=((Bi g).1).get (Bh g)/\Heap.next ((Bi g).1)<=Heap.next h2->aF (K6 (g.1:Int) ((rY l):Int)) (aT h2 (Bh g) λz=>aF (Nat.ble ((0:Nat)+(g.1:Int).toNat*1+1) z.length) (∃(j:Nat×Nat×Heap×Y12),xA l (Bh g) (rY l) j.2.1 (wW ((g.1:Int)+1)) (j.1:Int) (h2.set (Bh g) (IObj.cells (List.take ((0:Nat)+(g.1:Int).toNat*1) z++ [iI (cH (List.take i m) (aD (List.take i m)) (List.getD m i default))]++List.drop ((0:Nat)+(g.1:Int).toNat*1+1) z))=j.2.2.1/\(K3 l j)/\l.length-j.1<l.length-x.1)))) (∃(j:Nat×Nat×Heap×Y12),xA l (Bh g) (rY l) j.2.1 (wW ((g.1:Int)+1)) (j.1:Int) ((Bi g).1=j.2.2.1/\(K3 l j)/\l.length-j.1<l.length-x.1))))) (aT (((x.2).2).1) x.2.1 λr=>aF (true&&Nat.ble ((0:Nat)+l.length*1) r.length) (aF (aQ [IV.vslice none 0 (rY l) 1 (List.take (l.length*1) r)]) (Q (.vslice none 0 (rY l) 1 (List.take (l.length*1) r)) h)))))):=by kernel_rfl
theorem c3I: ∀xs h Q,Dy xs h Q->aM env 53 xs h Q:=by
 intro xs h Q hk;unfold Dy at hk;split at hk
 .rename_i e1 n1 c1;obtain⟨l,⟨rfl,rfl⟩,hw,hk⟩:=hk;refine aL (a7T) (c4J l e1 h Q) ?_;delta rY sR xA Zt K3 K6 K4 dG Bi Ll Zu Gz xB Bh Gy K5 tI wW iI;have tn: ∀x:Nat,(x:Int).toNat=x:=AK
  obtain⟨a6,a3⟩:=(show Lv l from hw);refine aA (by simp only [aQ,aY,bX,AN]) (aA (by simp;omega) ⟨⟨(0,0,_,List.replicate l.length 0),KD,(by rw [tn]),KD,KD,KD,KD,⟨⟨AR _,?_,Nat.one_pos,KB,rfl,λq _=>?_⟩,trivial⟩,trivial⟩,?_⟩)
  .show IObj.cells (fY _ _)=_;rw [tn,Ot]
  .rw [List.getD_eq_getElem?_getD,IU];split<;>rfl
  have kn: ∀i,i<l.length->(l.getD i default).ks.length<=41:=λi hi=>by
   rw [bO hi];exact a3 _ (AG hi)
  rintro⟨i,id,g,k0⟩ _ ⟨ha,_⟩;obtain⟨hi,hg,b0,b3,a4,b4⟩:=(show ASG l i id g k0 from ha);dsimp only;refine cV (λc=>?_) (λc=>?_)
  .have A:i<l.length:=JZ;have f1:=kn i A;rw [bO A]at f1;refine aA (by simp;omega) (uM A (by rw [tn]) ⟨(l.length-i)*100+l[i].ks.length,⟨(i,id,g,k0,0,false),KD,KD,KD,KD,KD,KD,KD,(by dsimp only;rw [bO A]),(by dsimp only;rw [bO A]),KD,KD,⟨ha,A,AR _,rfl⟩,by dsimp only;rw [bO A];omega⟩,?_⟩);rintro⟨m,Vm,g2,u,j,w⟩ _ ⟨Z,r,hj,D⟩ hM;dsimp only at Z r hj D hM⊢;obtain⟨a9,V,G,L,O,R⟩:=(show ASG l m Vm g2 u from Z);have f2:=kn m r;have tk:u.take m=aD (l.take m):=by
    rw [O];obtain⟨t,ht⟩:=pP (GZ m l);rw [<-ht,CQ (by rw [bA,AW];omega),AJ (by rw [bA,AW];omega)]
   refine cV (λc1=>?_) (λc1=>?_)
   .have K:j< (l.getD m default).ks.length:=JZ;have X:(((l.getD m default).ks.take (j+1)).all (dY (aD (l.take m))))=(((l.getD m default).ks.take j).all (dY (aD (l.take m))) &&dY (aD (l.take m)) (l.getD m default).ks[j]):=by
     rw [AO K,List.all_append];simp
    have a0:dY (aD (l.take m)) (l.getD m default).ks[j]=(decide (0<=(l.getD m default).ks[j]) && (decide ((l.getD m default).ks[j]< (m:Int)) &&decide (u.getD ((l.getD m default).ks[j]).toNat 0≠0))):=by
     unfold dY
     rw [bA,AW,show min m l.length=m by omega]
     by_cases b1:0<=(l.getD m default).ks[j]
     .by_cases b2:(l.getD m default).ks[j]< (m:Int)
      .rw [<-tk,Bw JZ]
      .simp only [decide_eq_false b2,CN]
     .simp only [decide_eq_false b1,CN]
    have nx: ∀b:Bool,b=!(((l.getD m default).ks.take (j+1)).all (dY (aD (l.take m))))->ASG l m Vm g2 u/\m<l.length/\j+1<=(l.getD m default).ks.length/\b=!(((l.getD m default).ks.take (j+1)).all (dY (aD (l.take m)))):=λb hb=>⟨Z,r,K,hb⟩
    have Y:some (TV.v (IV.int IntKind.i64 (IntKind.i64.wrap ((j:Int)+1))))=some (TV.v (IV.int IntKind.i64 ((j+1:Nat):Int))):=by rw [AA _ JZ];rfl
    refine aP ⟨JZ,JZ⟩ (fD K (by rw [AM,tn]) (aB (λT=>?_) (λT=>?_)))
    .exact⟨(m,Vm,g2,u,j+1,true),KD,KD,KD,KD,KD,KD,KD,KD,KD,Y,KD,nx true (by rw [X,<-Bool.not_not (((l.getD m default).ks.take j).all _),<-D,T];rfl),KE⟩
    .have a1:(((l.getD m default).ks.take j).all (dY (aD (l.take m))))=true:=by rw [<-Bool.not_not (((l.getD m default).ks.take j).all _),<-D,T];rfl
     refine cV (λc2=>?_) (λc2=>cV (λc3=>?_) (λc3=>?_))
     .exact⟨(m,Vm,g2,u,j+1,true),KD,KD,KD,KD,KD,KD,KD,KD,KD,Y,KD,nx true (by rw [X,a1,a0,decide_eq_false (show¬0<=(l.getD m default).ks[j] by omega)];rfl),KE⟩
     .exact⟨(m,Vm,g2,u,j+1,true),KD,KD,KD,KD,KD,KD,KD,KD,KD,Y,KD,nx true (by rw [X,a1,a0,decide_eq_false (show¬ (l.getD m default).ks[j]< (m:Int) by omega),CN,EQ];rfl),KE⟩
     .have q1:((l.getD m default).ks[j]).toNat<u.length:=JZ;refine aP ⟨JZ,JZ⟩ (aC V (fD q1 JZ ⟨(m,Vm,g2,u,j+1,u[((l.getD m default).ks[j]).toNat]==0),KD,KD,KD,KD,KD,KD,KD,KD,KD,Y,KD,nx _ ?_,KE⟩));rw [X,a1,a0,decide_eq_true (show 0<=(l.getD m default).ks[j] by omega),decide_eq_true (show(l.getD m default).ks[j]< (m:Int) by omega),bO q1,BD,BD,BD];generalize u[((l.getD m default).ks[j]).toNat]=y
      by_cases z:y=0
      .subst z;rfl
      .rw [beq_eq_false_iff_ne.2 z,decide_eq_true (show y≠0 from z)];rfl
   .have K:j=(l.getD m default).ks.length:=JZ;rw [K,EC]at D;have hs:m< (aD l).length:=by rw [bA];exact r
    have a5:(aD l).getD m 0=cH (l.take m) (aD (l.take m)) (l.getD m default):=by rw [bO r];exact zK (AB r)
    refine aB (λT=>?_) (λT=>?_)
    .rw [BS]at T;have a8:(l.getD m default).ks.all (dY (aD (l.take m)))=true:=by rw [<-Bool.not_not ((l.getD m default).ks.all _),<-D,T];rfl
     refine⟨l,m,u,⟨rfl,rfl,rfl,L.symm⟩,⟨⟨r,a6,a3,L,tk,a8⟩,V,G⟩,λh2 ⟨e2,n2⟩=>aP ⟨JZ,JZ⟩ (aC (e2.trans V) (aA (by rw [BB];simp;omega) ⟨(m+1,Vm,h2.set Vm (.cells ((u.take m++ [(aD l).getD m 0]++u.drop (m+1)).map (IV.int .i64))),u.take m++ [(aD l).getD m 0]++u.drop (m+1)),KD,KD,KD,KD,(by rw [AA _ JZ];rfl),?_,⟨⟨r,aH,AU G n2,?_,?_,?_⟩,trivial⟩,KE⟩))⟩
     .dsimp only;rw [tn,AY,AM,a5];simp
     .simp;omega
     .dsimp only;have h1:(u.take m).length=m:=by rw [AW];omega
      rw [CQ (by simp;omega),AJ (by simp;omega),O,AO hs,bO hs]
     .intro q hq;dsimp only at hq⊢;rw [List.getD_eq_getElem?_getD,BC (by simp;omega)];have h1:(u.take m++ [(aD l).getD m 0]).length=m+1:=by simp;omega
      rw [h1,DS,show m+1+(q- (m+1))=q by omega,<-List.getD_eq_getElem?_getD];exact R q JZ
    .rw [CA]at T;have a7:(l.getD m default).ks.all (dY (aD (l.take m)))=false:=by rw [<-Bool.not_not ((l.getD m default).ks.all _),<-D,T];rfl
     have hz:(aD l).getD m 0=0:=by
      rw [a5];unfold cH
      rw [if_neg (by rw [a7];decide)]
     refine⟨(m+1,Vm,g2,u),KD,KD,KD,KD,(by rw [AA _ JZ];rfl),KD,⟨⟨r,V,G,L,?_,λq hq=>R q JZ⟩,trivial⟩,KE⟩;have h0:=R m (AF _);have a2:m<u.length:=JZ;rw [bO a2]at h0;rw [bO hs]at hz;dsimp only;rw [AO a2,AO hs,O,h0,hz]
  .obtain rfl:i=l.length:=JZ;have hs:(aD l).length=l.length:=bA l;rw [AJ JZ,AJ JZ]at a4;subst a4;refine aC hg (aA (by simp;omega) ?_);rw [AJ (by simp;omega)];rw [hs]at hk;exact aA (by simp only [aQ,aY,bL,AN]) hk
 .exact hk.elim
def Ct:=aV 53 Dy a0M
theorem Nz:aS env Ct:=aE c3I (a7T)
end Go.Proofs.YtkonebkblgemkaaGreat
end
end
