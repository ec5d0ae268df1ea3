/-
  Texts of this proof, one after the other.
  Conditions: none.
-/
import Derived.Test.YtkonebkblgemkaaGreatX11
set_option linter.unusedVariables false
set_option linter.unusedSimpArgs false
set_option maxRecDepth 100000
set_option maxHeartbeats 4000000
noncomputable section
section
namespace Go.Proofs.YtkonebkblgemkaaGreat
open Go.Pv Go.M13 Go.M15 Go.M10 Go.M14
def e1M(xs:List IV)(h:Heap)(K:KT):Prop:=match xs with
 | [.agg [.int .i64 op,.int .i64 im,.vslice none e n 1 c],.int .i64 q]=> ∃(ks:List Int)(j:Nat),(n=ks.length/\c=ks.map (IV.int .i64)/\q=(j:Int))/\(ks.length%2=1/\3<=ks.length/\ks.length<=40/\j<ks.length/2/\0<=im/\im<=15)/\K (eV (bO ⟨op,im,ks⟩ j)) h
 |_=>False
def c9F(ks:List Int)(j:Nat):=wW (((ks.length:Int)-1)/ (2:Int)+1)+(j:Int)
def b8X(ks:List Int):=List.map (IV.int .i64) ks
theorem g3P(op im:Int)(e:Nat)(ks:List Int)(j:Nat)(h:Heap)(Q:KT):dF (aV f8G) env 100 dV bT bT [.agg [.int .i64 op,.int .i64 im,.vslice none e ks.length 1 (ks.map (IV.int .i64))],.int .i64 (j:Int)] h Q=(
 aC (aN [IV.agg [.int .i64 op,iI im,IV.vslice none 0 ks.length 1 (b8X ks)],iI (j:Int)]) ((1<=(ks.length:Int)/\(ks.length:Int)<=1000000)/\aC (decide (0<=(j:Int)) &&decide ((j:Int)< (ks.length:Int))) (aK .i64 (b8X ks) ((j:Int).toNat*1) fun g=>aC (decide (0<=wW (c9F ks j)) &&decide (wW (c9F ks j)< (ks.length:Int))) (aK .i64 (b8X ks) ((wW (c9F ks j)).toNat*1) fun l=>aC (decide ((0:Int)<=((ks.length:Int)-1)/ (2:Int)) &&decide (((ks.length:Int)-1)/ (2:Int)< (ks.length:Int))) (aK .i64 (b8X ks) (((((ks.length):Int)-1)/ (2:Int)).toNat*1) fun i=>Q (.agg [.int .i64 (wW (wW ((16:Int)*im)+(j:Int))),iI g,iI l,iI i]) h))))):=by kernel_rfl
theorem g3Q: ∀xs h Q,e1M xs h Q->aU env 100 xs h Q:=by
 intro xs h Q g;unfold e1M at g;split at g
 ·rename_i op im e n c q;obtain⟨ks,j,⟨rfl,rfl,rfl⟩,y,g⟩:=g;refine aS (f0X) (g3P op im e ks j h Q) ?_;delta c9F b8X wW iI;have r: ∀x:Nat,(x:Int).toNat=x:=h0Z
  obtain⟨h1,h2,h3,h4,G,K⟩:=y;have A:IntKind.i64.wrap (16*im)=16*im:=h0X _ (by omega);have D:IntKind.i64.wrap (16*im+(j:Int))=16*im+(j:Int):=h0X _ (by omega);have m:((ks.length:Int)-1)/2=((ks.length/2:Nat):Int):=by omega
  have z:IntKind.i64.wrap (((ks.length/2:Nat):Int)+1)=((ks.length/2+1:Nat):Int):=by rw [h0X _ (by omega)];omega
  have u:IntKind.i64.wrap (((ks.length/2+1:Nat):Int)+(j:Int))=((ks.length/2+1+j:Nat):Int):=by rw [h0X _ (by omega)];omega
  rw [A,D,m,z,u];have l:j<ks.length:=by omega
  have p:ks.length/2+1+j<ks.length:=by omega
  have i:ks.length/2<ks.length:=by omega
  refine aA (by simp only [aN,bL,cH,h1L]) ⟨by omega,aP ⟨by omega,by omega⟩ (jM l (by rw [r,h1W]) (aP ⟨by omega,by omega⟩ (jM p (by rw [r,h1W]) (aP ⟨by omega,by omega⟩ (jM i (by rw [r,h1W]) (cO g ?_))))))⟩;have e:(ks.length-1)/2=ks.length/2:=by omega
  simp only [eV,bO,e];rw [cQ l,cQ p,cQ i]
 ·exact g.elim
def e1N:=bB 100 e1M f8G
theorem e1O:aT env e1N:=aI g3Q (f0X)
theorem f8H(i:Option Nat)(e n:Nat)(c:List IV):nZ Go.Proofs.Tryz.prog 104 (.vslice i e n 4 c)= .vslice none 0 n 4 c:=by kernel_rfl
def g3R(l:List Nd):Inv':=hJ (Nat×Heap×IV) (fun x=>[(0,.v (.vslice none 0 (l).length 3 ((l).flatMap cN))),(1,.v (.vslice none 0 (aG l).length 1 ((aG l).map (IV.int .i64)))),(6,.l 6 0),(10,.v (.vslice none 0 (l).length 3 ((l).flatMap cN))),(11,.v (.int .i64 (l.length:Int))),(5,.v x.2.2),(12,.v (.int .i64 (x.1:Int)))]) (fun x=>[(6,Keep.sbC l x.1)]) (fun x=>x.2.1) (fun x=>x.1<=l.length/\OvS x.2.1 x.2.2 (lvP l x.1)) (fun x=>l.length-x.1)
def g9A(l:List Nd):Inv':=hJ (Nat×Heap×IV×Nat) (fun x=>[(0,.v (.vslice none 0 (l).length 3 ((l).flatMap cN))),(1,.v (.vslice none 0 (aG l).length 1 ((aG l).map (IV.int .i64)))),(6,.l 6 0),(10,.v (.vslice none 0 (l).length 3 ((l).flatMap cN))),(11,.v (.int .i64 (l.length:Int))),(5,.v x.2.2.1),(12,.v (.int .i64 (x.1:Int))),(8,.l 8 0),(9,.v (.int .i64 (x.2.2.2:Int)))]) (fun x=>[(6,Keep.sbC l (x.1+1)),(8,cN (l.getD x.1 default))]) (fun x=>x.2.1)
 (fun x=>(x.1<l.length/\(aG l).getD x.1 0=3/\snP l x.1 (l.getD x.1 default).im=false)/\(1<=x.2.2.2/\x.2.2.2<=(l.getD x.1 default).ks.length/2)/\OvS x.2.1 x.2.2.1 (lvP l x.1++a7A (l.getD x.1 default) x.2.2.2)) (fun x=>(l.length-x.1)*100+(50-x.2.2.2))
def f8I(xs:List IV)(h:Heap)(K:KT):Prop:=match xs with
 | [.vslice none e1 n1 3 c1,.vslice none e2 n2 1 c2]=> ∃l:List Nd,(n1=l.length/\c1=l.flatMap cN)/\(n2=l.length/\c2=(aG l).map (IV.int .i64))/\LOk l/\K (.vslice none 0 (aO l).length 4 ((aO l).flatMap zK)) h
 |_=>False
def lL(l:List Nd):=TV.v (.vslice none 0 l.length 3 (List.flatMap cN l))
def c6G:=IV.int .i64
def a1P(l:List Nd):=TV.v (.vslice none 0 ((aG l).length) 1 (List.map c6G (aG l)))
def a0B(l:List Nd)(g:Nat×Heap×IV×Nat):=List.getD l g.1 default
def a0C(l:List Nd):=TV.v (.int .i64 (l.length:Int))
def a7D(g:Nat×Heap×IV×Nat):=g.2.2
def e1P:=TV.l 6 0
def g5N(l:List Nd)(g:Nat×Heap×IV×Nat):=[iI (Nd.op (a0B l g)),iI (Nd.im (a0B l g)),IV.vslice none 0 ((Nd.ks (a0B l g)).length) 1 (List.map c6G (Nd.ks (a0B l g)))]
abbrev g5Q(l:List Nd)(g:Nat×Heap×IV×Nat):=g.1<l.length/\List.getD (aG l) g.1 0=3/\snP l g.1 (Nd.im (a0B l g))=false
def f9V:=TV.l 8 0
abbrev g5S(l:List Nd)(g:Nat×Heap×IV×Nat):=1<=Prod.snd (a7D g)/\Prod.snd (a7D g)<=List.length (Nd.ks (a0B l g))/ (2:Nat)
def e3Z(l:List Nd)(x:Nat×Heap×IV)(p:IV)(j:Int)(m:List IV)(i:Heap):Prop:= ∃(g:Nat×Heap×IV),some (lL l)=some (lL l)/\some (a1P l)=some (a1P l)/\some e1P=some e1P/\some (lL l)=some (lL l)/\some (a0C l)=some (a0C l)/\some (TV.v (p))=some (TV.v g.2.2)/\tI (j)=tI (g.1:Int)/\some (m)=some (Keep.sbC l g.1)/\i=g.2.1/\(g.1
 <=l.length/\OvS g.2.1 g.2.2 (lvP l g.1))/\l.length-g.1<l.length-x.1
theorem g9B(l:List Nd)(K z:Nat)(h:Heap)(Q:KT):dF (aV e1N) env 54 dV (icA 5 (g3R l) (tK 1000010 (g9A l))) bT [.vslice none K (l).length 3 ((l).flatMap cN),.vslice none z l.length 1 ((aG l).map (IV.int .i64))] h Q=(
 aC (aN [IV.vslice none 0 l.length 3 (List.flatMap cN l),IV.vslice none 0 l.length 1 (List.map c6G (aG l))]) ((∃(x:Nat×Heap×IV),some (lL l)=some (lL l)/\some (TV.v (.vslice none 0 l.length 1 (List.map c6G (aG l))))=some (a1P l)/\some e1P=some e1P/\some (lL l)=some (lL l)/\some (a0C l)=some (a0C l)/\some (TV.v IV.nilslice)=some (TV.v x.2.2)/\tI 0=tI (x.1:Int)/\some [IV.bool false,IV.bool false,IV.bool false,IV.bool false,IV.bool false,IV.bool false,IV.bool false,IV.bool false,IV.bool false,IV.bool false,IV.bool false,IV.bool false,IV.bool false,IV.bool false,IV.bool false,IV.bool false]=some (Keep.sbC l x.1)/\Heap.mk PT.nil 0=(x.2).1/\(x.1<=l.length/\OvS x.2.1 x.2.2 (lvP l x.1))/\True)/\∀(x:Nat×Heap×IV)(b:FF),x.1<=l.length/\OvS x.2.1 x.2.2 (lvP l x.1)->aM (decide ((x.1:Int)< ((l.length):Int))) (aC (decide (0<=(x.1:Int)) &&decide ((x.1:Int)< (l.length:Int))) (aK .i64 (List.flatMap cN l) ((x.1:Int).toNat*3) fun u=>aK .i64 (List.flatMap cN l) ((x.1:Int).toNat*(3:Nat)+1) fun i=>bH 1 (List.flatMap cN l) ((x.1:Int).toNat*3+1+1) fun(L:Option Nat)(y V:Nat)(A:List IV)=>aC (decide (0<=(x.1:Int)) &&decide ((x.1:Int)< (↑((aG l).length):Int))) (aK .i64 (List.map c6G (aG l)) ((x.1:Int).toNat*1) fun D=>aM (D !=3) (e3Z l x x.2.2 (wW ((x.1:Int)+1)) (Keep.sbC l x.1) x.2.1) (aC (decide (0<=i) &&decide (i<16)) (iS (Keep.sbC l x.1) ((0:Nat)+i.toNat*1) fun G=>aM G (e3Z l x x.2.2 (wW ((x.1:Int)+1)) (Keep.sbC l x.1) x.2.1) (aC (decide (0<=i) &&decide (i<16)) (aC (Nat.ble ((0:Nat)+i.toNat*1+1) ((Keep.sbC l x.1).length)) (∃(M:Nat),(∃(g:Nat×Heap×IV×Nat),some (lL l)=some (lL l)/\some (a1P l)=some (a1P l)/\some e1P=some e1P/\some (lL l)=some (lL l)/\some (a0C l)=some (a0C l)/\some (TV.v x.2.2)=some (TV.v ((a7D g).1))/\tI (x.1:Int)=tI (g.1:Int)/\some f9V=some f9V/\tI 1=tI (↑((a7D g).2):Int)/\some (List.take ((0:Nat)+i.toNat*1) (Keep.sbC l x.1)++ [IV.bool true]++List.drop ((0:Nat)+i.toNat*1+1) (Keep.sbC l x.1))=some (Keep.sbC l (g.1+(1:Nat)))/\some [iI u,iI i,IV.vslice L y V 1 A]=some (g5N l g)/\x.2.1=g.2.1/\((g5Q l g)/\(g5S l g)/\OvS g.2.1 ((a7D g).1) (lvP l g.1++a7A (a0B l g) ((a7D g).2)))/\(l.length-g.1)*100+((50:Nat)- (a7D g).2)<=M)/\∀(g:Nat×Heap×IV×Nat)(b:FF),(g5Q l g)/\(g5S l g)/\OvS g.2.1 ((a7D g).1) (lvP l g.1++a7A (a0B l g) ((a7D g).2))->(l.length-g.1)*100+((50:Nat)- (a7D g).2)<=M->(1<=(↑((Nd.ks (a0B l g)).length):Int)/\(↑((Nd.ks (a0B l g)).length):Int)<=1000000)/\aM (decide ((↑((a7D g).2):Int)< ((↑((Nd.ks (a0B l g)).length):Int)-1)/ (2:Int))) (∃(ks:List Int),∃(j:Nat),((Nd.ks (a0B l g)).length=ks.length/\List.map c6G (Nd.ks (a0B l g))=List.map c6G ks/\(↑((a7D g).2):Int)=(j:Int))/\(ks.length% (2:Nat)=1/\3<=ks.length/\ks.length<=40/\j<ks.length/ (2:Nat)/\0<=Nd.im (a0B l g)/\Nd.im (a0B l g)<=15)/\qT g.2.1 4 32 ((a7D g).1) 1 [iI ((16:Int)*Nd.im (a0B l g)+(j:Int)),iI (List.getD ks j 0),iI (List.getD ks ((ks.length-1)/ (2:Nat)+1+j) 0),iI (List.getD ks ((ks.length-1)/ (2:Nat)) 0)] fun(O T r:Nat)(m:List IV)(p:Heap)=> ∃(x:Nat×Heap×IV×Nat),some (lL l)=some (lL l)/\some (a1P l)=some (a1P l)/\some e1P=some e1P/\some (lL l)=some (lL l)/\some (a0C l)=some (a0C l)/\some (TV.v (.vslice (some O) T r 4 m))=some (TV.v x.2.2.1)/\tI (g.1:Int)=some (TV.v (iI (x.1:Int)))/\some f9V=some f9V/\tI (wW ((↑((a7D g).2):Int)+1))=tI (x.2.2.2:Int)/\some (Keep.sbC l (g.1+1))=some (Keep.sbC l (x.1+1))/\some (g5N l g)=some [iI (Nd.op (List.getD l x.1 default)),iI (Nd.im (List.getD l x.1 default)),IV.vslice none 0 ((Nd.ks (List.getD l x.1 default)).length) 1 (List.map c6G (Nd.ks (List.getD l x.1 default)))]/\p=x.2.1/\((x.1<l.length/\List.getD (aG l) x.1 0=3/\snP l x.1 (Nd.im (List.getD l x.1 default))=false)/\(1<=x.2.2.2/\Prod.snd x.2.2<=List.length (Nd.ks (List.getD l x.1 default))/ (2:Nat))/\OvS x.2.1 x.2.2.1 (lvP l x.1++a7A (List.getD l x.1 default) x.2.2.2))/\(l.length-x.1)*100+((50:Nat)-x.2.2.2)< (l.length-g.1)*100+((50:Nat)- (a7D g).2)) (e3Z l x ((a7D g).1) (wW ((g.1:Int)+1)) (Keep.sbC l (g.1+1)) g.2.1))))))))) (aC (aN [nZ Proofs.Tryz.prog 104 x.2.2]) (Q (eZ [nZ Proofs.Tryz.prog 104 x.2.2]) h)))):=by kernel_rfl
theorem g9C: ∀xs h Q,f8I xs h Q->aU env 54 xs h Q:=by
 intro xs h Q A;unfold f8I at A;split at A
 ·rename_i e1 n1 c1 e2 n2 c2;obtain⟨l,⟨rfl,rfl⟩,⟨rfl,rfl⟩,hw,A⟩:=A;refine aS (e1O) (g9B l e1 e2 h Q) ?_;delta e3Z lL a1P a0B a0C a7D e1P g5N g5Q c6G f9V g5S tI wW iI;have tn: ∀x:Nat,(x:Int).toNat=x:=h0Z
  obtain⟨a8,V⟩:=(show LOk l from hw);have Z:=bD l;refine aA (by simp only [aN,bL,gI,cH,h1L]) ⟨⟨(0,Heap.empty,.nilslice),rfl,(by rw [Z]),rfl,rfl,rfl,rfl,rfl,rfl,rfl,⟨h1N _,.inl ⟨rfl,rfl⟩⟩,trivial⟩,?_⟩;rintro⟨i,g,ov⟩ _ ⟨hi,u⟩;dsimp only at hi u⊢;refine dW (fun c=>?_) (fun c=>?_)
  ·have r:i<l.length:=by omega
   have hs:i< (aG l).length:=by omega
   have Y:l.getD i default=l[i]:=cQ r;have hm:l[i].ks.length<=40:=V _ (h1B r);have T:some (TV.v (IV.int IntKind.i64 (IntKind.i64.wrap ((i:Int)+1))))=some (TV.v (IV.int IntKind.i64 ((i+1:Nat):Int))):=by rw [h0X _ (by omega)];rfl
   refine aP ⟨by omega,by omega⟩ (a6X r (by rw [tn]) (aP ⟨by omega,by omega⟩ (jM hs (by rw [tn,h1W]) ?_)));refine aD (fun L=>?_) (fun L=>?_)
   ·rw [bne_iff_ne]at L;have O: ¬ ((aG l).getD i 0=3/\snP l i (l.getD i default).im=false):=fun q=>L (by rw [<-q.1,cQ hs])
    exact⟨(i+1,g,ov),rfl,rfl,rfl,rfl,rfl,rfl,T,(by rw [b5T O]),rfl,⟨r,by rw [(a4D O).2];exact u⟩,by dsimp only;omega⟩
   ·rw [bne_eq_false_iff_eq]at L;have h3:(aG l).getD i 0=3:=by rw [cQ hs];exact L
    have X:=sG h3;have a2:=X.im;have a1:=X.odd;rw [Y]at a2 a1;have hv:(l.getD i default).im=((l[i].im.toNat:Nat):Int):=by rw [Y];omega
    have G:l[i].im.toNat<16:=by omega
    refine aP ⟨by omega,by omega⟩ (lG (by rw [h1Q,h1W];exact zL G) (aD (fun c4=>?_) (fun c4=>?_)))
    ·have O: ¬ ((aG l).getD i 0=3/\snP l i (l.getD i default).im=false):=fun q=>by rw [hv,c4]at q;cases q.2
     exact⟨(i+1,g,ov),rfl,rfl,rfl,rfl,rfl,rfl,T,(by rw [b5T O]),rfl,⟨r,by rw [(a4D O).2];exact u⟩,by dsimp only;omega⟩
    ·have a3:snP l i (l.getD i default).im=false:=by rw [hv];exact c4
     refine aP ⟨by omega,by omega⟩ (aA (by rw [h1S,b1D];omega) ⟨(l.length-i)*100+49,⟨(i,g,ov,1),rfl,rfl,rfl,rfl,rfl,rfl,rfl,rfl,rfl,(by rw [h1Q,h1W,e6F h3 hv G]),(by dsimp only;rw [Y]),rfl,⟨⟨r,h3,a3⟩,⟨h1D _,by dsimp only;rw [Y];omega⟩,(h3V _).symm▸u⟩,by dsimp only;omega⟩,?_⟩);rintro⟨z,g2,a0,j⟩ _ ⟨⟨m,y,K⟩,⟨j1,j2⟩,p⟩ hM;dsimp only at m y K j1 j2 p hM⊢;have D:=sG y;have a6:=D.odd;have a5:=D.im;have a7:(l.getD z default).ks.length<=40:=by rw [cQ m];exact V _ (h1B m)
     refine⟨by omega,dW (fun cj=>?_) (fun cj=>?_)⟩
     ·refine⟨(l.getD z default).ks,j,⟨rfl,rfl,rfl⟩,⟨by omega,by omega,by omega,by omega,by omega,by omega⟩,p.app (x:=bO (l.getD z default) j) rfl ?_ (fun id e n c g3 ho=>⟨(z,g3,.vslice (some id) e n 4 c,j+1),rfl,rfl,rfl,rfl,rfl,rfl,rfl,rfl,(by rw [h0X _ (by omega)];rfl),rfl,rfl,rfl,⟨⟨m,y,K⟩,⟨by dsimp only;omega,by dsimp only;omega⟩,by dsimp only;rw [d1J j1,<-List.append_assoc];exact ho⟩,by dsimp only;omega⟩)⟩;have b1:=d5N l z;have b2:(a7A (l.getD z default) j).length=j-1:=by unfold a7A;rw [h1P,h5I]
      rw [h1E,b2];omega
     ·have a4:j=(l.getD z default).ks.length/2:=by omega
      subst a4;rw [<-d5M ⟨y,K⟩]at p;exact⟨(z+1,g2,a0),rfl,rfl,rfl,rfl,rfl,rfl,(by rw [h0X _ (by omega)];rfl),rfl,rfl,⟨m,p⟩,by dsimp only;omega⟩
  ·obtain rfl:i=l.length:=by omega
   rcases u with⟨rfl,e⟩| ⟨io,rfl,_⟩
   ·rw [show nZ Go.Proofs.Tryz.prog 104 .nilslice= .vslice none 0 0 4 [] by kernel_rfl];refine aA rfl ?_;have e2:aO l=[]:=e;rw [e2]at A;exact A
   ·rw [f8H];refine aA ?_ A;simp only [aN,bL,h1L];exact a8W _
 ·exact A.elim
def f8J:=bB 54 f8I e1N
theorem f0Y:aT env f8J:=aI g9C (e1O)
def e1Q(xs:List IV)(h:Heap)(K:KT):Prop:=match xs with
 | [.int .i64 n,.bool s]=>bJ n/\K (.tuple [eI (upB n s).1,.bool (upB n s).2]) h
 |_=>False
theorem g3S(n:Int)(s:Bool)(h:Heap)(Q:KT):dF (aV f8J) env 110 dV bT bT [.int .i64 n,.bool s] h Q=(
 aM s (aM (n==(-9223372036854775808:Int)) (Q (.tuple [.agg [.int .i64 0,iI 0],IV.bool false]) h) (aM s (Q (.tuple [.agg [.int .i64 (-9223372036854775808),iI (wW (n-1))],IV.bool true]) h) (Q (.tuple [.agg [.int .i64 (-9223372036854775808),iI n],IV.bool true]) h))) (aM s (Q (.tuple [.agg [.int .i64 (-9223372036854775808),iI (wW (n-1))],IV.bool true]) h) (Q (.tuple [.agg [.int .i64 (-9223372036854775808),iI n],IV.bool true]) h))):=by kernel_rfl
theorem g3T: ∀xs h Q,e1Q xs h Q->aU env 110 xs h Q:=by
 intro xs h Q g;unfold e1Q at g;split at g
 ·rename_i n s;obtain⟨i,g⟩:=g;refine aS (f0Y) (g3S n s h Q) ?_;delta wW iI
  cases s
  ·exact aD (fun c=>by cases c) (fun _=>aD (fun c=>by cases c) (fun _=>cO g (by simp [upB,eI];try rfl)))
  ·refine aD (fun _=>aD (fun c=>?_) (fun c=>aD (fun _=>?_) (fun c=>by cases c))) (fun c=>by cases c)
   ·rw [beq_iff_eq]at c;subst c;exact g
   ·rw [beq_eq_false_iff_ne]at c;unfold upB at g;rw [if_neg (fun q=>c q.2)]at g;have:=i;unfold bJ at this;refine cO g ?_;rw [h0X _ (by omega)];rfl
 ·exact g.elim
def e1R:=bB 110 e1Q f8J
theorem e1S:aT env e1R:=aI g3T (f0Y)
def e1T(xs:List IV)(h:Heap)(K:KT):Prop:=match xs with
 | [.int .i64 n,.bool s]=>bJ n/\K (.tuple [eI (frB n s).1,.bool (frB n s).2]) h
 |_=>False
theorem g3U(n:Int)(s:Bool)(h:Heap)(Q:KT):dF (aV e1R) env 111 dV bT bT [.int .i64 n,.bool s] h Q=(
 aM s (aM (n==9223372036854775807) (Q (.tuple [.agg [.int .i64 0,iI 0],IV.bool false]) h) (aM s (Q (.tuple [.agg [.int .i64 (wW (n+1)),iI 9223372036854775807],IV.bool true]) h) (Q (.tuple [.agg [.int .i64 n,iI 9223372036854775807],IV.bool true]) h))) (aM s (Q (.tuple [.agg [.int .i64 (wW (n+1)),iI 9223372036854775807],IV.bool true]) h) (Q (.tuple [.agg [.int .i64 n,iI 9223372036854775807],IV.bool true]) h))):=by kernel_rfl
theorem g3V: ∀xs h Q,e1T xs h Q->aU env 111 xs h Q:=by
 intro xs h Q g;unfold e1T at g;split at g
 ·rename_i n s;obtain⟨i,g⟩:=g;refine aS (e1S) (g3U n s h Q) ?_;delta wW iI
  cases s
  ·exact aD (fun c=>by cases c) (fun _=>aD (fun c=>by cases c) (fun _=>cO g (by simp [frB,eI];try rfl)))
  ·refine aD (fun _=>aD (fun c=>?_) (fun c=>aD (fun _=>?_) (fun c=>by cases c))) (fun c=>by cases c)
   ·rw [beq_iff_eq]at c;subst c;exact g
   ·rw [beq_eq_false_iff_ne]at c;unfold frB at g;rw [if_neg (fun q=>c q.2)]at g;have:=i;unfold bJ at this;refine cO g ?_;rw [h0X _ (by omega)];rfl
 ·exact g.elim
def e1U:=bB 111 e1T e1R
theorem e1V:aT env e1U:=aI g3V (e1S)
def f8K(xs:List IV)(h:Heap)(K:KT):Prop:=match xs with
 | [.agg [.int .i64 a,.int .i64 b],.agg [.int .i64 c,.int .i64 d]]=>K (.bool (decide (c<=a) &&decide (b<=d))) h
 |_=>False
theorem g9D(a b c d:Int)(h:Heap)(Q:KT):dF (aV e1U) env 59 dV bT bT [.agg [.int .i64 a,.int .i64 b],.agg [.int .i64 c,.int .i64 d]] h Q=(
 aM (decide (a>=c)) (Q (.bool (decide (b<=d))) h) (Q (.bool false) h)):=by kernel_rfl
theorem g9E: ∀xs h Q,f8K xs h Q->aU env 59 xs h Q:=by
 intro xs h Q g;unfold f8K at g;split at g
 ·rename_i a b c d;refine aS (e1V) (g9D a b c d h Q) ?_;refine dW (fun i=>cO g (by rw [decide_eq_true (show c<=a from i),h2G])) (fun i=>cO g (by rw [decide_eq_false (show¬c<=a from i),h3Z]))
 ·exact g.elim
def f8L:=bB 59 f8K e1U
theorem f0Z:aT env f8L:=aI g9E (e1V)
def e1W(id:Nat)(h g:Heap)(C:List (Int×Iv))(m i:Nat):Prop:=(∃a b c d:IV,h.get id= .cells [a,b,c,d]/\g.get id= .cells [a,b,.map m,d])/\(∃es:List (Int×Iv),g.get m= .map (cM eI es)/\∀k,kG k es=lP C k)/\(∃es:List (Int×Bool),g.get i= .map (cM IV.bool es)/\∀k,kG k es=if lI C k=true then some true else none)/\(h.next<=m/\h.next<=i/\m≠i/\m<g.next/\i<g.next)/\∀j,j<h.next->j≠id->g.get j=h.get j
def a1J(id:Nat)(C:List (Int×Iv))(g:Nat)(h:Heap):Inv':=hJ (Nat×Heap×Nat×Nat) (fun x=>[(0,.v (.ptr id 0)),(4,.v (.map x.2.2.2)),(12,.v (.vslice none g C.length 3 (C.flatMap nS))),(13,.v (.int .i64 (C.length:Int))),(14,.v (.int .i64 (x.1:Int)))]) (fun _=>[]) (fun x=>x.2.1) (fun x=>x.1<=C.length/\e1W id h x.2.1 (C.take x.1) x.2.2.1 x.2.2.2) (fun x=>C.length-x.1)
def e1X(xs:List IV)(h:Heap)(K:KT):Prop:=match xs with
 | [.ptr id 0,.vslice none e1 n1 3 c1]=> ∃(C:List (Int×Iv))(a b c d:IV),(n1=C.length/\c1=C.flatMap nS)/\(h.get id= .cells [a,b,c,d]/\id<h.next/\C.length<=1152921504606846976)/\∀(h2:Heap)(m:Nat)(g:List (Int×Iv)),h2.get id= .cells [a,b,.map m,d]->(h2.get m= .map (cM eI g)/\∀k,kG k g=lP C k)->(h.next<=m/\m<h2.next)->(∀j,j<h.next->j≠id->h2.get j=h.get j)->K (.tuple []) h2
 |_=>False
def a6B(x:Nat×Heap×Nat×Nat):=x.2.2
def tZ(x:Nat×Heap×Nat×Nat):=(a6B x).2
def mF(x:Nat×Heap×Nat×Nat):=x.2.1
def e1Y(C:IvC)(g:Nat):=TV.v (.vslice none g C.length 3 (List.flatMap nS C))
def b3C:=TypeDesc.int .i64
def e1Z(C:IvC):=TV.v (.int .i64 (C.length:Int))
def a6C(g:Nat×Heap×Nat×Nat):=g.2.2
def b3D(g:Int):=iI g
def e2A(id:Nat):=TV.v (.ptr id 0)
def a9W(C:IvC)(l id:Nat)(h:Heap)(x:Nat×Heap×Nat×Nat)(m:Heap):Prop:= ∃(g:Nat×Heap×Nat×Nat),some (e2A id)=some (e2A id)/\some (TV.v (.map (tZ x)))=some (TV.v (.map ((a6C g).2)))/\some (e1Y C l)=some (e1Y C l)/\some (e1Z C)=some (e1Z C)/\tI (wW ((x.1:Int)+1))=tI (g.1:Int)/\m=g.2.1/\(g.1<=C.length/\(∃(a b:IV),
 ∃(c d:IV),h.get id=IObj.cells [a,b,c,d]/\Heap.get g.2.1 id=IObj.cells [a,b,IV.map ((a6C g).1),d])/\(∃(i:List (Int×Iv)),g.2.1.get ((a6C g).1)=IObj.map (cM eI i)/\∀(k:Int),kG k i=lP (List.take g.1 C) k)/\(∃(i:List (Int×Bool)),Heap.get
 g.2.1 ((a6C g).2)=IObj.map (cM IV.bool i)/\∀(k:Int),kG k i=if lI (List.take g.1 C) k=true then some true else none)/\(h.next<=Prod.fst (a6C g)/\Heap.next h<=Prod.snd (a6C g)/\Prod.fst (a6C g)≠Prod.snd (a6C g)/\Prod.fst (a6C g)<g.2.1.next/\Prod.snd
 (a6C g)<g.2.1.next)/\∀(j:Nat),j<h.next->j≠id->Heap.get g.2.1 j=h.get j)/\C.length-g.1<C.length-x.1
theorem g3W(id:Nat)(C:IvC)(g:Nat)(h:Heap)(Q:KT):dF (aV f8L) env 56 dV (tK 4 (a1J id C g h)) bT [.ptr id 0,.vslice none g C.length 3 (C.flatMap nS)] h Q=(
 aF (h.push (IObj.map [])) id fun r0=>aC (Nat.ble 3 r0.length) ((∃(x:Nat×Heap×Nat×Nat),some (e2A id)=some (e2A id)/\some (TV.v (.map (h.next+1)))=some (TV.v (.map (tZ x)))/\some (e1Y C g)=some (e1Y C g)/\some (e1Z C)=some (e1Z C)/\tI 0=tI (x.1:Int)/\Heap.push ((h.push (IObj.map [])).set id (IObj.cells (List.take 2 r0++ [IV.map (h.next)]++List.drop 3 r0))) (IObj.map [])=x.2.1/\(x.1<=C.length/\(∃(a b:IV),∃(c d:IV),h.get id=IObj.cells [a,b,c,d]/\Heap.get (mF x) id=IObj.cells [a,b,IV.map ((a6B x).1),d])/\(∃(y:List (Int×Iv)),(mF x).get ((a6B x).1)=IObj.map (cM eI y)/\∀(k:Int),kG k y=lP (List.take x.1 C) k)/\(∃(y:List (Int×Bool)),(mF x).get (tZ x)=IObj.map (cM IV.bool y)/\∀(k:Int),kG k y=if lI (List.take x.1 C) k=true then some true else none)/\(h.next<=Prod.fst (a6B x)/\Heap.next h<=Prod.snd (a6B x)/\Prod.fst (a6B x)≠Prod.snd (a6B x)/\Prod.fst (a6B x)< (mF x).next/\Prod.snd (a6B x)< (mF x).next)/\∀(j:Nat),j<h.next->j≠id->Heap.get (mF x) j=h.get j)/\True)/\∀(x:Nat×Heap×Nat×Nat)(b:FF),x.1<=C.length/\e1W id h (mF x) (List.take (x.1) C) ((a6B x).1) (tZ x)->aM (decide ((x.1:Int)< (C.length:Int))) (aC (decide (0<=(x.1:Int)) &&decide ((x.1:Int)< (C.length:Int))) (aK .i64 (List.flatMap nS C) ((x.1:Int).toNat*3) fun(l:Int)=>aK .i64 (List.flatMap nS C) ((x.1:Int).toNat*3+1) fun G=>aK .i64 (List.flatMap nS C) ((x.1:Int).toNat*3+1+1) fun D=>fV (mF x) (tZ x) b3C (b3D l) (fun(V:List IV)=>iS V 0 fun T=>aM (!T) (aM (decide (G<=D)) (aF (mF x) id fun X=>qY X 2 fun(K:Nat)=>kS (mF x) K b3C (b3D l) (IV.agg [.int .i64 G,iI D]) fun(p:List (IV×IV))=>kS ((mF x).set K (IObj.map p)) (tZ x) b3C (b3D l) (IV.bool true) fun(L:List (IV×IV))=>a9W C g id h x (((mF x).set K (IObj.map p)).set (tZ x) (IObj.map L))) (kS (mF x) (tZ x) b3C (b3D l) (IV.bool true) fun(r:List (IV×IV))=>a9W C g id h x ((mF x).set (tZ x) (IObj.map r)))) (kS (mF x) (tZ x) b3C (b3D l) (IV.bool true) fun(z:List (IV×IV))=>a9W C g id h x ((mF x).set (tZ x) (IObj.map z)))) (aM (decide (G<=D)) (aF (mF x) id fun O=>qY O 2 fun(m:Nat)=>kS (mF x) m b3C (b3D l) (IV.agg [.int .i64 G,iI D]) fun(i:List (IV×IV))=>kS ((mF x).set m (IObj.map i)) (tZ x) b3C (b3D l) (IV.bool true) fun(u:List (IV×IV))=>a9W C g id h x (((mF x).set m (IObj.map i)).set (tZ x) (IObj.map u))) (kS (mF x) (tZ x) b3C (b3D l) (IV.bool true) fun(A:List (IV×IV))=>a9W C g id h x ((mF x).set (tZ x) (IObj.map A)))))) (Q (.tuple []) (mF x)))):=by kernel_rfl
theorem g3X: ∀xs h Q,e1X xs h Q->aU env 56 xs h Q:=by
 intro xs h Q u;unfold e1X at u;split at u
 ·rename_i id O T c1;obtain⟨C,a,b,c,d,⟨rfl,rfl⟩,hb,u⟩:=u;refine aS (f0Z) (g3W id C O h Q) ?_;delta a9W tZ mF e1Y b3C e1Z a6C a6B b3D e2A tI wW iI;have tn: ∀x:Nat,(x:Int).toNat=x:=h0Z
  obtain⟨G,z,hC⟩:=hb;have Z:(h.push (.map [])).get id= .cells [a,b,c,d]:=(aJ z).trans G;refine aB Z (aA rfl ⟨⟨(0,((h.push (.map [])).set id (.cells [a,b,.map h.next,d])).push (.map []),h.next,h.next+1),rfl,rfl,rfl,rfl,rfl,rfl,⟨h1N _,⟨a,b,c,d,G,?_⟩,⟨[],?_,fun _=>rfl⟩,⟨[],?_,fun _=>rfl⟩,⟨h1D _,h4E _,h4P (h1G _),by show h.next<h.next+1+1;omega,by show h.next+1<h.next+1+1;omega⟩,fun j hj a2=>?_⟩,trivial⟩,?_⟩)
  ·exact(aJ (show id<h.next+1 by omega)).trans aH
  ·exact(aJ (show h.next<h.next+1 by omega)).trans ((aE (h3H z)).trans aR)
  ·exact aR
  ·exact(aJ (show j<h.next+1 by omega)).trans ((aE a2).trans (aJ hj))
  rintro⟨j,g,m,l⟩ _ ⟨hj,a1⟩;obtain⟨⟨a',b',c',d',O,V⟩,⟨X,Y,L⟩,⟨A,y,K⟩,⟨T,n2,D,n4,n5⟩,fr⟩:=(show e1W id h g (C.take j) m l from a1);obtain⟨rfl,rfl,rfl,rfl⟩:a=a'/\b=b'/\c=c'/\d=d':=by
   rw [G]at O;simpa using O
  dsimp only at hj⊢;refine dW (fun cj=>?_) (fun cj=>?_)
  ·have i:j<C.length:=by omega
   have et:C.take (j+1)=C.take j++ [C[j]]:=h1J i;have r:some (TV.v (IV.int IntKind.i64 (IntKind.i64.wrap ((j:Int)+1))))=some (TV.v (IV.int IntKind.i64 ((j+1:Nat):Int))):=by rw [h0X _ (by omega)];rfl
   refine aP ⟨by omega,by omega⟩ (bF (by rw [tn];exact vG i 0 (by decide)) (bF (by rw [tn];exact vG i 1 (by decide)) (bF (by rw [tn];exact vG i 2 (by decide)) ?_)));have skip:(lI (C.take j) C[j].1=true\/ ¬C[j].2.1<=C[j].2.2)->e1W id h (g.set l (.map (cM IV.bool (upM C[j].1 true A)))) (C.take (j+1)) m l:=fun q=>by
    rw [et];exact⟨⟨a,b,c,d,G,by rw [aE (by omega)];exact V⟩,⟨X,by rw [aE D];exact Y,d5O L q⟩,⟨_,aH,tP K⟩,⟨T,n2,D,n4,n5⟩,fun q hq p=>(aE (by omega)).trans (fr q hq p)⟩
   cases hh:lI (C.take j) C[j].1 with
   |true=>
    refine eQ y (cX (by rw [K,if_pos hh])) (lG rfl (bf rfl (gJ y (oE _ _ _ _) ⟨(j+1,_,m,l),(by rfl),(by rfl),(by rfl),(by rfl),r,(by rfl),⟨i,skip (.inl hh)⟩,by dsimp only;omega⟩)))
   |false=>
    refine iV y (eL (by rw [K,if_neg (by rw [hh];decide)])) (dW (fun cv=>?_) (fun cv=>?_))
    ·refine aB V (jY rfl (gJ Y (oE eI C[j].1 C[j].2 X) (gJ ((aE D.symm).trans y) (oE _ _ _ _) ⟨(j+1,(g.set m (.map (cM eI (upM C[j].1 C[j].2 X)))).set l (.map (cM IV.bool (upM C[j].1 true A))),m,l),rfl,rfl,rfl,rfl,r,rfl,⟨i,?_⟩,by dsimp only;omega⟩)));show e1W id h _ (C.take (j+1)) m l;rw [et];exact⟨⟨a,b,c,d,G,by rw [aE (by omega),aE (by omega)];exact V⟩,⟨_,by rw [aE D];exact aH,d1L L hh cv⟩,⟨_,aH,tP K⟩,⟨T,n2,D,n4,n5⟩,fun q hq p=>(aE (by omega)).trans ((aE (by omega)).trans (fr q hq p))⟩
    ·exact gJ y (oE _ _ _ _) ⟨(j+1,_,m,l),(by rfl),(by rfl),(by rfl),(by rfl),r,(by rfl),⟨i,skip (.inr cv)⟩,by dsimp only;omega⟩
  ·have a0:C.take j=C:=h1H (by omega);rw [a0]at L;exact u g m X V ⟨Y,L⟩ ⟨T,n4⟩ fr
 ·exact u.elim
def e2B:=bB 56 e1X f8L
theorem e2C:aT env e2B:=aI g3X (f0Z)
def knS(h:Heap)(m:Nat)(kn:Int->Option Iv):Prop:= ∃es:List (Int×Iv),h.get m= .map (cM eI es)/\∀k,kG k es=kn k
def unS(h:Heap)(g:IV)(un:Int->Bool):Prop:=(g= .nilmap/\∀k,un k=false) \/ ∃(m:Nat)(i:List (Int×Bool)),g= .map m/\h.get m= .map (cM IV.bool i)/\∀k,un k=(kG k i).getD false
def e2D(xs:List IV)(h:Heap)(K:KT):Prop:=match xs with
 | [.ptr id 0,.int .i64 v]=> ∃(a b g:IV)(i:Nat)(kn:Int->Option Iv)(un:Int->Bool),h.get id= .cells [a,b,.map i,g]/\(knS h i kn/\unS h g un/\(un v=true->kn v=none))/\K (.tuple [eI ((kn v).getD aL),.bool (un v)]) h
 |_=>False
def e2E:=[iI (-9223372036854775808),iI 9223372036854775807]
def c9I:=IV.tuple [.agg e2E,IV.bool false]
def b8Y:=TypeDesc.int .i64
theorem g3Y(id:Nat)(v:Int)(h:Heap)(Q:KT):dF (aV e2B) env 106 dV bT bT [.ptr id 0,.int .i64 v] h Q=(
 aF h id fun r0=>a2N r0 3 (aF h id fun r1=>qY r1 2 fun(O:Nat)=>fV h O b8Y (iI v) (fun T=>a1B 2 T 0 fun G=>aK .i64 G 0 fun V=>aK .i64 G 1 fun L=>Q (.tuple [.agg [.int .i64 V,iI L],IV.bool false]) h) (Q c9I h)) fun(Y:Nat)=>fV h Y b8Y (iI v) (fun X=>iS X 0 fun K=>aM K (Q (.tuple [.agg e2E,IV.bool true]) h) (aF h id fun u=>qY u 2 fun(r:Nat)=>fV h r b8Y (iI v) (fun y=>a1B 2 y 0 fun g=>aK .i64 g 0 fun j=>aK .i64 g 1 fun p=>Q (.tuple [IV.agg [.int .i64 j,iI p],IV.bool false]) h) (Q c9I h))) (aF h id fun m=>qY m 2 fun(A:Nat)=>fV h A b8Y (iI v) (fun D=>a1B 2 D 0 fun i=>aK .i64 i 0 fun l=>aK .i64 i 1 fun z=>Q (.tuple [.agg [.int .i64 l,iI z],IV.bool false]) h) (Q c9I h))):=by kernel_rfl
theorem g3Z: ∀xs h Q,e2D xs h Q->aU env 106 xs h Q:=by
 intro xs h Q g;unfold e2D at g;split at g
 ·rename_i id v;obtain⟨a,b,mu,Z,kn,un,i,L,g⟩:=g;refine aS (e2C) (g3Y id v h Q) ?_;delta e2E c9I b8Y iI;obtain⟨⟨es,y,z⟩,T,O⟩:=L;have j:un v=false->fV h Z (.int .i64) (.int .i64 v) (fun V=>a1B 2 V 0 fun D=>aK .i64 D 0 fun X=>aK .i64 D 1 fun K=>Q (.tuple [.agg [.int .i64 X,.int .i64 K],.bool false]) h) (Q (.tuple [.agg [.int .i64 (-9223372036854775808),.int .i64 9223372036854775807],.bool false]) h):=fun u=>by
   rw [u]at g
   cases e:kn v with
   |some r=>
    rw [e]at g;exact eQ y (cX ((z v).trans e)) (a4A rfl rfl (bF rfl (bF rfl g)))
   |none=>
    rw [e]at g;exact iV y (eL ((z v).trans e)) g
  refine aB i ?_;rcases T with⟨rfl,Y⟩| ⟨m,p,rfl,A,G⟩
  ·exact d5I rfl (aB i (jY rfl (j (Y v))))
  ·refine d5J rfl ?_
   cases e:kG v p with
   |some x=>
    refine eQ A (cX e) (lG rfl ?_);have l:un v=x:=by rw [G,e];rfl
    cases x with
    |true=>
     refine bt rfl ?_;rw [l,O l]at g;exact g
    |false=>exact bf rfl (aB i (jY rfl (j l)))
   |none=>
    exact iV A (eL e) (aB i (jY rfl (j (by rw [G,e];rfl))))
 ·exact g.elim
def e2F:=bB 106 e2D e2B
theorem e2G:aT env e2F:=aI g3Z (e2C)
abbrev KnT:=Int->Option Iv
abbrev UnT:=Int->Bool
def AzS(h:Heap)(l:List Nd)(i:Nat)(g:IV)(kn:KnT)(un:UnT):Prop:=LOk l/\(∀n∈l,bJ n.im)/\(knS h i kn/\i<h.next)/\(unS h g un/\∀m,g= .map m->m<h.next)/\KOk kn/\∀v,un v=true->kn v=none
def ivI(id:Nat)(l:List Nd)(i:Nat)(g:IV)(kn:KnT)(un:UnT)(h:Heap):Inv':=hJ (Nat×Heap×Nat×Nat×List Iv×List Bool) (fun x=>[(0,.v (.ptr id 0)),(4,.v (.hslice x.2.2.1 0 l.length 2)),(5,.v (.hslice x.2.2.2.1 0 l.length 1)),(27,.v (.vslice none 0 (l).length 3 ((l).flatMap cN))),(28,.v (.int .i64 (l.length:Int))),(29,.v (.int .i64 (x.1:Int)))]) (fun _=>[]) (fun x=>x.2.1) (fun x=>IVg l kn un x.1 x.2.1 x.2.2.1 x.2.2.2.1 x.2.2.2.2.1 x.2.2.2.2.2 h/\True) (fun x=>l.length-x.1)
def e2H(xs:List IV)(h:Heap)(K:KT):Prop:=match xs with
 | [.ptr id 0]=> ∃(l:List Nd)(p:Nat)(m:IV)(kn:KnT)(un:UnT),(h.get id= .cells [.vslice none 0 (l).length 3 ((l).flatMap cN),.vslice none 0 (aG l).length 1 ((aG l).map (IV.int .i64)),.map p,m]/\id<h.next)/\AzS h l p m kn un/\∀(h2:Heap)(g i:Nat),h2.get g= .cells ((rG l kn).flatMap cR)->h2.get i= .cells ((uG l un).map IV.bool)->(h.next<=g/\g<h2.next/\h.next<=i/\i<h2.next/\g≠i)->(∀j,j<h.next->h2.get j=h.get j)->K (.tuple [.hslice g 0 l.length 2,.hslice i 0 l.length 1]) h2
 |_=>False
def jQ(x:Nat×Heap×Nat×Nat×List Iv×List Bool):=(0:Nat)+(x.1:Int).toNat*2+2
def eY(x:Nat×Heap×Nat×Nat×List Iv×List Bool):=x.2.2.1
def rB(x:Nat×Heap×Nat×Nat×List Iv×List Bool):=(0:Nat)+(x.1:Int).toNat*2
def dS(x:Nat×Heap×Nat×Nat×List Iv×List Bool)(g:List IV):=x.2.1.set (eY x) (IObj.cells (List.take (rB x) g++ [iI (-9223372036854775808),iI 9223372036854775807]++List.drop (jQ x) g))
def a7E(x:Nat×Heap×Nat×Nat×List Iv×List Bool)(u j:List IV)(r g i p l m:Int):=(dS x u).set (eY x) (IObj.cells (List.take (rB x) j++ [iI ((mB r g i p l m).1),iI ((mB r g i p l m).2)]++List.drop (jQ x) j))
def jN(l:List Nd):=l.length
def nI(l:List Nd)(x:Nat×Heap×Nat×Nat×List Iv×List Bool):=decide (0<=(x.1:Int)) &&decide ((x.1:Int)< ((jN l):Int))
def gS(x:Nat×Heap×Nat×Nat×List Iv×List Bool):=x.2.2.2.1
def oH(x:Nat×Heap×Nat×Nat×List Iv×List Bool):=(0:Nat)+(x.1:Int).toNat*1+1
def e2I(h:Heap)(g:Nat):=((h.push IObj.free).push IObj.free).set (h.next) (IObj.cells (fF ((g:Int).toNat) [iI 0,iI 0]))
def a6D(x:Nat×Heap×Nat×Nat×List Iv×List Bool):=(0:Nat)+(x.1:Int).toNat*1
def d2N(ks:List Int)(j:Nat):=(ks.length-1)/ (2:Nat)+1+j
def b3E(g:Nat):=true&&decide (0< (g:Int))
def e2J(m l g j i:Int):=[iI ((oT m l g j i).1),iI ((oT m l g j i).2)]
def e8E(l:List Nd):=TV.v (.vslice none 0 (jN l) 3 (List.flatMap cN l))
def e2K(j g i l:Int):=[iI (min j i),iI (max g l)]
def f8M(l:List Nd)(ks:List Int)(j:Nat):=decide (0<=List.getD ks (d2N ks j) 0) &&decide (List.getD ks (d2N ks j) 0< ((jN l):Int))
def e8F(l:List Nd):=TV.v (.int .i64 ((jN l):Int))
def f8N(i:Int)(g:Int->Option Iv):=[iI ((Option.getD (g i) aL).1),iI ((Option.getD (g i) aL).2)]
def e8G(g:Nat):=true&&decide (1< (g:Int))
def e2L(x:Nat×Heap×Nat×Nat×List Iv×List Bool):=x.2.2.2.2
def f8O(l:List Nd)(ks:List Int)(j:Nat):=decide (0<=List.getD ks j 0) &&decide (List.getD ks j 0< ((jN l):Int))
def e2M(id:Nat):=TV.v (.ptr id 0)
def nE(h:Heap)(id:Nat)(kn:KnT)(l:List Nd)(un:UnT)(x:Nat×Heap×Nat×Nat×List Iv×List Bool)(i:Heap):Prop:= ∃(g:Nat×Heap×Nat×Nat×List Iv×List Bool),some (e2M id)=some (e2M id)/\some (TV.v (.hslice (eY x) 0 (jN l) 2))=some (TV.v (.hslice g.2.2.1 0 (jN l) 2))/\some (TV.v (.hslice (gS x) 0 (jN l) 1))=some (TV.v (.hslice g.2.2.2.1 0 (jN l) 1))/\some (e8E l)=some (e8E
 l)/\some (e8F l)=some (e8F l)/\tI (wW ((x.1:Int)+1))=tI (g.1:Int)/\i=g.2.1/\(IVg l kn un g.1 g.2.1 g.2.2.1 g.2.2.2.1 g.2.2.2.2.1 g.2.2.2.2.2 h/\True)/\l.length-g.1<l.length-x.1
theorem g4A(id:Nat)(l:List Nd)(mk:Nat)(mu:IV)(kn:KnT)(un:UnT)(h:Heap)(Q:KT):dF (aV e2F) env 57 dV (tK 4 (ivI id l mk mu kn un h)) bT [.ptr id 0] h Q=(
 aF ((h.push IObj.free).push IObj.free) id fun r0=>bH 3 r0 0 fun(i1:Option Nat)(e2 l3:Nat)(c4:List IV)=>aC (decide (0<=(l3:Int)) && (decide ((l3:Int)<=(l3:Int)) && (decide ((l3:Int)<=9223372036854775807) &&decide ((16:Int)*(l3:Int)<=140737488355328)))) (yY ((h.push IObj.free).push IObj.free) (h.next) (aF (e2I h l3) id fun r5=>bH 3 r5 0 fun(i6:Option Nat)(e7 l8:Nat)(c9:List IV)=>aC (!Nat.beq (h.next) id) (aC (decide ((0:Int)<=(l8:Int)) && (decide ((l8:Int)<=(l8:Int)) && (decide ((l8:Int)<=9223372036854775807) &&decide ((1:Int)*(l8:Int)<=140737488355328)))) (yY (e2I h l3) (h.next+1) (aF ((e2I h l3).set (h.next+1) (IObj.cells (fF ((l8:Int).toNat) [IV.bool false]))) id fun i5=>bH 3 i5 0 fun(i4:Option Nat)(j0 f3:Nat)(h6:List IV)=>(∃(x:Nat×Heap×Nat×Nat×List Iv×List Bool),some (e2M id)=some (e2M id)/\some (TV.v (.hslice (h.next) 0 ((l3:Int).toNat) 2))=some (TV.v (.hslice (eY x) 0 (jN l) 2))/\some (TV.v (.hslice (h.next+1) 0 ((l8:Int).toNat) 1))=some (TV.v (.hslice (gS x) 0 (jN l) 1))/\some (TV.v (.vslice i4 j0 f3 3 h6))=some (e8E l)/\tI (f3:Int)=some (e8F l)/\tI 0=tI (x.1:Int)/\Heap.set (e2I h l3) (h.next+1) (IObj.cells (fF ((l8:Int).toNat) [IV.bool false]))=x.2.1/\(IVg l kn un x.1 x.2.1 (eY x) (gS x) ((e2L x).1) ((e2L x).2) h/\True)/\True)/\∀(x:Nat×Heap×Nat×Nat×List Iv×List Bool)(b:FF),IVg l kn un x.1 x.2.1 (eY x) (gS x) ((e2L x).1) ((e2L x).2) h/\True->aM (decide ((x.1:Int)< ((jN l):Int))) (aC (nI l x) (aK .i64 (List.flatMap cN l) ((x.1:Int).toNat*3) fun i=>aK .i64 (List.flatMap cN l) ((x.1:Int).toNat*3+1) fun V=>bH 1 (List.flatMap cN l) ((x.1:Int).toNat*3+1+1) fun(j8:Option Nat)(j3 m:Nat)(p:List IV)=>aC (nI l x) (aF x.2.1 (eY x) fun g=>aC (Nat.ble (jQ x) g.length) (aF (dS x g) id fun i8=>bH 1 i8 1 fun(j2:Option Nat)(j1 h9:Nat)(g0:List IV)=>aC (decide (0<=(x.1:Int)) &&decide ((x.1:Int)< (h9:Int))) (aK .i64 g0 ((x.1:Int).toNat*1) fun(h0:Int)=>aM (h0 !=1) (nE h id kn l un x (dS x g)) (aM (i==1) (aC (nI l x) (aF (dS x g) (eY x) fun e1=>aC (Nat.ble (jQ x) e1.length) (nE h id kn l un x ((dS x g).set (eY x) (IObj.cells (List.take (rB x) e1++ [iI V,iI V]++List.drop (jQ x) e1)))))) (aM (i==3) (∃(a b mu:IV),∃(mk:Nat),∃(a1:Int->Option Iv),∃(a2:Int->Bool),(dS x g).get id=IObj.cells [a,b,IV.map mk,mu]/\(knS (dS x g) mk a1/\unS (dS x g) mu a2/\(a2 V=true->a1 V=none))/\aC (nI l x) (aF (dS x g) (eY x) fun a5=>aC (Nat.ble (jQ x) a5.length) (aC (nI l x) (aF ((dS x g).set (eY x) (IObj.cells (List.take (rB x) a5++(f8N V a1)++List.drop (jQ x) a5))) (gS x) fun d5=>aC (Nat.ble (oH x) d5.length) (nE h id kn l un x (((dS x g).set (eY x) (IObj.cells (List.take (rB x) a5++(f8N V a1)++List.drop (jQ x) a5))).set (gS x) (IObj.cells (List.take (a6D x) d5++ [IV.bool (a2 V)]++List.drop (oH x) d5)))))))) (aM (i==25) (aF (dS x g) id fun i0=>bH 3 i0 0 fun(j9:Option Nat)(j5 h8:Nat)(d2:List IV)=>aC (b3E m) (aK .i64 p 0 fun a9=>aC (decide (0<=a9) &&decide (a9< (h8:Int))) (aK .i64 d2 (a9.toNat*3) fun j7=>aK .i64 d2 (a9.toNat*3+1) fun e8=>bH 1 d2 (a9.toNat*3+1+1) fun(j6:Option Nat)(j4 g9:Nat)(g8:List IV)=> ∃(ks:List Int),∃(j:Nat),(g9=ks.length/\g8=List.map (IV.int .i64) ks/\V=(j:Int))/\(ks.length% (2:Nat)=1/\3<=ks.length/\ks.length<=40/\j<ks.length/ (2:Nat)/\0<=e8/\e8<=15)/\aC (f8O l ks j) (aF (dS x g) (eY x) fun e6=>aK .i64 e6 ((0:Nat)+(List.getD ks j 0).toNat*2) fun b2=>aK .i64 e6 ((0:Nat)+(List.getD ks j 0).toNat*2+1) fun b8=>aC (f8M l ks j) (aF (dS x g) (eY x) fun(f0:List IV)=>aK .i64 f0 ((0:Nat)+(List.getD ks (d2N ks j) 0).toNat*2) fun c3=>aK .i64 f0 ((0:Nat)+(List.getD ks (d2N ks j) 0).toNat*2+1) fun b5=>aC (f8O l ks j) (aF (dS x g) (gS x) fun g2=>iS g2 ((0:Nat)+(List.getD ks j 0).toNat*1) fun g1=>aM g1 (aC (nI l x) (aF (dS x g) (eY x) fun b0=>aC (Nat.ble (jQ x) b0.length) (aC (nI l x) (aF ((dS x g).set (eY x) (IObj.cells (List.take (rB x) b0++(e2K b2 b8 c3 b5)++List.drop (jQ x) b0))) (gS x) fun d4=>aC (Nat.ble (oH x) d4.length) (nE h id kn l un x (((dS x g).set (eY x) (IObj.cells (List.take (rB x) b0++(e2K b2 b8 c3 b5)++List.drop (jQ x) b0))).set (gS x) (IObj.cells (List.take (a6D x) d4++ [IV.bool true]++List.drop (oH x) d4)))))))) (aC (f8M l ks j) (aF (dS x g) (gS x) fun i9=>iS i9 ((0:Nat)+(List.getD ks (d2N ks j) 0).toNat*1) fun g4=>aC (nI l x) (aF (dS x g) (eY x) fun a4=>aC (Nat.ble (jQ x) a4.length) (aC (nI l x) (aF ((dS x g).set (eY x) (IObj.cells (List.take (rB x) a4++(e2K b2 b8 c3 b5)++List.drop (jQ x) a4))) (gS x) fun c7=>aC (Nat.ble (oH x) (c7.length)) (nE h id kn l un x (((dS x g).set (eY x) (IObj.cells (List.take (rB x) a4++(e2K b2 b8 c3 b5)++List.drop (jQ x) a4))).set (gS x) (IObj.cells (List.take (a6D x) c7++ [IV.bool g4]++List.drop (oH x) c7))))))))))))))) (aM (i==22) (aC (b3E m) (aK .i64 p 0 fun c2=>aC (decide (0<=c2) &&decide (c2< ((jN l):Int))) (aF (dS x g) (eY x) fun f4=>aK .i64 f4 ((0:Nat)+c2.toNat*2) fun K=>aK .i64 f4 ((0:Nat)+c2.toNat*2+1) fun D=>aC (e8G m) (aK .i64 p 1 fun c1=>aC (decide (0<=c1) &&decide (c1< ((jN l):Int))) (aF (dS x g) (eY x) fun f1=>aK .i64 f1 ((0:Nat)+c1.toNat*2) fun(L:Int)=>aK .i64 f1 ((0:Nat)+c1.toNat*2+1) fun A=>aC (true&&decide (2< (m:Int))) (aK .i64 p 2 fun b4=>aC (decide (0<=b4) &&decide (b4< ((jN l):Int))) (aF (dS x g) (eY x) fun f2=>aK .i64 f2 ((0:Nat)+b4.toNat*2) fun z=>aK .i64 f2 ((0:Nat)+b4.toNat*2+1) fun G=>aC (nI l x) (aF (dS x g) (eY x) fun y=>aC (Nat.ble (jQ x) (y.length)) (aC (b3E m) (aK .i64 p 0 fun d3=>aC (decide (0<=d3) &&decide (d3< ((jN l):Int))) (aF (a7E x g y K D L A z G) (gS x) fun f9=>iS f9 ((0:Nat)+d3.toNat*1) fun g7=>aM g7 (aC (nI l x) (aF (a7E x g y K D L A z G) (gS x) fun d7=>aC (Nat.ble (oH x) d7.length) (nE h id kn l un x ((a7E x g y K D L A z G).set (gS x) (IObj.cells (List.take (a6D x) d7++ [IV.bool true]++List.drop (oH x) d7)))))) (aC (e8G m) (aK .i64 p 1 fun e3=>aC (decide (0<=e3) &&decide (e3< ((jN l):Int))) (aF (a7E x g y K D L A z G) (gS x) fun h5=>iS h5 ((0:Nat)+e3.toNat*1) fun g5=>aM g5 (aC (nI l x) (aF (a7E x g y K D L A z G) (gS x) fun d9=>aC (Nat.ble (oH x) d9.length) (nE h id kn l un x ((a7E x g y K D L A z G).set (gS x) (IObj.cells (List.take (a6D x) d9++ [IV.bool true]++List.drop (oH x) d9)))))) (aC (true&&decide (2< (m:Int))) (aK .i64 p 2 fun d0=>aC (decide (0<=d0) &&decide (d0< ((jN l):Int))) (aF (a7E x g y K D L A z G) (gS x) fun i3=>iS i3 ((0:Nat)+d0.toNat*1) fun(i2:Bool)=>aC (nI l x) (aF (a7E x g y K D L A z G) (gS x) fun d8=>aC (Nat.ble (oH x) d8.length) (nE h id kn l un x ((a7E x g y K D L A z G).set (gS x) (IObj.cells (List.take (a6D x) d8++ [IV.bool i2]++List.drop (oH x) d8)))))))))))))))))))))) (aM (i==20) (aC (b3E m) (aK .i64 p 0 fun b6=>aC (decide (0<=b6) &&decide (b6< ((jN l):Int))) (aF (dS x g) (eY x) fun f7=>aK .i64 f7 ((0:Nat)+b6.toNat*(2:Nat)) fun b7=>aK .i64 f7 ((0:Nat)+b6.toNat*2+1) fun b3=>aC (b3E m) (aK .i64 p 0 fun c8=>aC (decide (0<=c8) &&decide (c8< ((jN l):Int))) (aF (dS x g) (gS x) fun(g6:List IV)=>iS g6 ((0:Nat)+c8.toNat*1) fun g3=>aC (nI l x) (aF (dS x g) (eY x) fun a3=>aC (Nat.ble (jQ x) a3.length) (aC (nI l x) (aF ((dS x g).set (eY x) (IObj.cells (List.take (rB x) a3++ [iI ((iun i b7 b3).1),iI ((iun i b7 b3).2)]++List.drop (jQ x) a3))) (gS x) fun d1=>aC (Nat.ble (oH x) d1.length) (nE h id kn l un x (((dS x g).set (eY x) (IObj.cells (List.take (rB x) a3++ [iI ((iun i b7 b3).1),iI ((iun i b7 b3).2)]++List.drop (jQ x) a3))).set (gS x) (IObj.cells (List.take (a6D x) d1++ [IV.bool g3]++List.drop (oH x) d1)))))))))))) (aM (i==21) (aC (b3E m) (aK .i64 p 0 fun b9=>aC (decide (0<=b9) &&decide (b9< ((jN l):Int))) (aF (dS x g) (eY x) fun e9=>aK .i64 e9 ((0:Nat)+b9.toNat*2) fun b1=>aK .i64 e9 ((0:Nat)+b9.toNat*2+1) fun c0=>aC (b3E m) (aK .i64 p 0 fun e4=>aC (decide (0<=e4) &&decide (e4< ((jN l):Int))) (aF (dS x g) (gS x) fun i7=>iS i7 ((0:Nat)+e4.toNat*1) fun h7=>aC (nI l x) (aF (dS x g) (eY x) fun(a8:List IV)=>aC (Nat.ble (jQ x) a8.length) (aC (nI l x) (aF ((dS x g).set (eY x) (IObj.cells (List.take (rB x) a8++ [iI ((iun i b1 c0).1),iI ((iun i b1 c0).2)]++List.drop (jQ x) a8))) (gS x) fun(d6:List IV)=>aC (Nat.ble (oH x) d6.length) (nE h id kn l un x (((dS x g).set (eY x) (IObj.cells (List.take (rB x) a8++ [iI ((iun i b1 c0).1),iI ((iun i b1 c0).2)]++List.drop (jQ x) a8))).set (gS x) (IObj.cells (List.take (a6D x) d6++ [IV.bool h7]++List.drop (oH x) d6)))))))))))) (aM (decide (i>=4)) (aM (decide (i<=19)) (aC (b3E m) (aK .i64 p 0 fun r=>aC (e8G m) (aK .i64 p 1 fun u=>aC (decide ((0:Int)<=r) &&decide (r< ((jN l):Int))) (aF (dS x g) (eY x) fun c6=>aK .i64 c6 ((0:Nat)+r.toNat*2) fun O=>aK .i64 c6 ((0:Nat)+r.toNat*2+1) fun T=>aC (decide ((0:Int)<=u) &&decide (u< ((jN l):Int))) (aF (dS x g) (eY x) fun c5=>aK .i64 c5 ((0:Nat)+u.toNat*2) fun X=>aK .i64 c5 ((0:Nat)+u.toNat*2+1) fun a0=>((bJ O/\bJ T)/\bJ X/\bJ a0)/\aC (decide (0<=r) &&decide (r< ((jN l):Int))) (aF (dS x g) (gS x) fun f5=>iS f5 ((0:Nat)+r.toNat*1) fun f6=>aM f6 (aC (nI l x) (aF (dS x g) (eY x) fun(Y:List IV)=>aC (Nat.ble (jQ x) Y.length) (aC (nI l x) (aF ((dS x g).set (eY x) (IObj.cells (List.take (rB x) Y++(e2J i O T X a0)++List.drop (jQ x) Y))) (gS x) fun a7=>aC (Nat.ble (oH x) a7.length) (nE h id kn l un x (((dS x g).set (eY x) (IObj.cells (List.take (rB x) Y++(e2J i O T X a0)++List.drop (jQ x) Y))).set (gS x) (IObj.cells (List.take (a6D x) a7++ [IV.bool true]++List.drop (oH x) a7)))))))) (aC (decide (0<=u) &&decide (u< ((jN l):Int))) (aF (dS x g) (gS x) fun f8=>iS f8 ((0:Nat)+u.toNat*1) fun e5=>aC (nI l x) (aF (dS x g) (eY x) fun Z=>aC (Nat.ble (jQ x) Z.length) (aC (nI l x) (aF ((dS x g).set (eY x) (IObj.cells (List.take (rB x) Z++(e2J i O T X a0)++List.drop (jQ x) Z))) (gS x) fun a6=>aC (Nat.ble (oH x) a6.length) (nE h id kn l un x (((dS x g).set (eY x) (IObj.cells (List.take (rB x) Z++(e2J i O T X a0)++List.drop (jQ x) Z))).set (gS x) (IObj.cells (List.take (a6D x) a6++ [IV.bool e5]++List.drop (oH x) a6))))))))))))))) (nE h id kn l un x (dS x g))) (nE h id kn l un x (dS x g)))))))))))))) (Q (.tuple [.hslice (eY x) 0 (jN l) 2,IV.hslice (gS x) 0 (jN l) 1]) x.2.1))))))):=by kernel_rfl
theorem g4B: ∀xs h Q,e2H xs h Q->aU env 57 xs h Q:=by
 intro xs h Q hk;unfold e2H at hk;split at hk
 ·rename_i id;obtain⟨l,mk,mu,kn,un,hb,hw,hk⟩:=hk;refine aS (e2G) (g4A id l mk mu kn un h Q) ?_;delta nE dS a7E nI jQ gS oH eY rB e2I a6D d2N b3E e2J jN e8E e2K f8M e8F f8N e8G e2L f8O e2M tI wW iI;have tn: ∀x:Nat,(x:Int).toNat=x:=h0Z
  obtain⟨hg,b3⟩:=hb;obtain⟨hL,f5,⟨g0,e8⟩,⟨f7,f0⟩,e4,d2⟩:=(show AzS h l mk mu kn un from hw);obtain⟨hl,f8⟩:=(show LOk l from hL);have p1:((h.push .free).push .free).get id=h.get id:=by rw [aJ (show id< (h.push .free).next from h1T b3),aJ b3]
  have p2:((h.push .free).push .free).get h.next= .free:=by rw [aJ (show h.next< (h.push .free).next from h1G _),aR]
  have p3:((h.push .free).push .free).get (h.next+1)= .free:=aR;have p4: ∀j,j<h.next->((h.push .free).push .free).get j=h.get j:=fun j hj=>by rw [aJ (show j< (h.push .free).next from h1T hj),aJ hj]
  have m1:h.next≠id:=h3H b3;have m2:h.next+1≠id:=by omega
  have m3:h.next≠h.next+1:=by omega
  have r: ∀{p:Prop}[Decidable p]{A:Prop},p->A->aC (true&&decide p) A:=fun h a=>aA (by rw [decide_eq_true h];rfl) a
  refine aB (p1.trans hg) (sA rfl (aA (by simp;omega) (jD p2 (aB ((aE m1.symm).trans (p1.trans hg)) (sA rfl (aA (by rw [zB.2 m1];rfl) (aA (by simp;omega) (jD ((aE m3.symm).trans p3) (aB ((aE m2.symm).trans ((aE m1.symm).trans (p1.trans hg))) (sA rfl ⟨⟨(0,(((h.push .free).push .free).set h.next (.cells (fF l.length [.int .i64 0,.int .i64 0]))).set (h.next+1) (.cells (fF l.length [.bool false])),h.next,h.next+1,List.replicate l.length (0,0),List.replicate l.length false),rfl,(by rw [tn]),(by rw [tn]),rfl,rfl,rfl,(by rw [tn]),⟨⟨⟨h1N _,by simp,by simp,rfl,rfl,fun q _=>?_⟩,⟨?_,?_⟩,⟨h1D _,h4E _,m3,by show h.next<h.next+1+1;omega,by show h.next+1<h.next+1+1;omega⟩,fun j hj=>?_⟩,trivial⟩,trivial⟩,?_⟩))))))))))
  ·rw [h1A,h8C];split<;>rfl
  ·dsimp only;rw [aE m3,aH,e6C]
  ·dsimp only;rw [aH,c1H]
  ·dsimp only;rw [aE (by omega),aE (by omega)];exact p4 j hj
  rintro⟨i,g,G,L,R,U⟩ _ ⟨hv,_⟩;dsimp only at hv⊢;have e6:=hv;obtain⟨⟨hi,c6,b7,b6,d5,d6⟩,⟨c8,d3⟩,⟨c1,c2,c3,c4,c5⟩,fr⟩:=e6;refine dW (fun c=>?_) (fun c=>?_)
  case refine_2=>
   obtain rfl:i=l.length:=by omega
   have a1:R=rG l kn:=by rw [h1H (by omega)]at b6;exact b6
   have a2:U=uG l un:=by rw [h1H (by omega)]at d5;exact d5
   exact hk g G L (by rw [<-a1];exact c8) (by rw [<-a2];exact d3) ⟨c1,c4,c2,c5,c3⟩ fr
  have a7:i<l.length:=by omega
  have D:0<=(i:Int)/\(i:Int)<l.length:=⟨by omega,by omega⟩;have T:l.length- (i+1)<l.length-i:=by omega
  have g3:=bD l;have hs:i< (aG l).length:=by omega
  have V:some (TV.v (IV.int IntKind.i64 (IntKind.i64.wrap ((i:Int)+1))))=some (TV.v (IV.int IntKind.i64 ((i+1:Nat):Int))):=by rw [h0X _ (by omega)];rfl
  refine aP D (a6X a7 (by rw [tn]) (aP D (aB c8 (aA (by rw [h1S,b5R,tn];omega) ?_))));have e0:List.take (0+(i:Int).toNat*2) (R.flatMap cR)++ [IV.int .i64 (-9223372036854775808),IV.int .i64 9223372036854775807]++List.drop (0+(i:Int).toNat*2+2) (R.flatMap cR)=(R.set i aL).flatMap cR:=by rw [tn,h1Q];exact f3C (by omega)
  rw [e0];generalize hg1:g.set G (IObj.cells ((R.set i aL).flatMap cR))=g1;have kR:g1.get G= .cells ((R.set i aL).flatMap cR):=by rw [<-hg1];exact aH
  have kU:g1.get L= .cells (U.map IV.bool):=by rw [<-hg1,aE (Ne.symm c3)];exact d3
  have kj: ∀j,j<h.next->g1.get j=h.get j:=fun j hj=>by rw [<-hg1,aE (by omega)];exact fr j hj
  have b0:=(kj id b3).trans hg;have c0:g1.next=g.next:=by rw [<-hg1];rfl
  have Z: ∀{X:List IV},(g1.set G (.cells X)).get L= .cells (U.map IV.bool):=fun{X} =>(aE (Ne.symm c3)).trans kU
  have a5:Nat.ble (0+(i:Int).toNat*2+2) ((R.set i aL).flatMap cR).length=true:=by rw [h1S,b5R,h3R,tn];omega
  have a3:Nat.ble (0+(i:Int).toNat*1+1) (U.map IV.bool).length=true:=by rw [h1S,h1P,tn];omega
  have a0: ∀a b:Int,List.take (0+i*2) ((R.set i aL).flatMap cR)++ [IV.int .i64 a,IV.int .i64 b]++List.drop (0+i*2+2) ((R.set i aL).flatMap cR)=(R.set i (a,b)).flatMap cR:=fun a b=>by rw [h1Q,f3C (by rw [h3R];omega),List.set_set]
  have a4: ∀b:Bool,List.take (0+i*1) (U.map IV.bool)++ [IV.bool b]++List.drop (0+i*1+1) (U.map IV.bool)=(U.set i b).map IV.bool:=fun b=>by rw [h1Q,h1W];exact e5Z (by omega)
  have d1:U.set i false=U:=d1Q (by omega) (d6 i (h1D _));have e9: ∀(X Y:IObj) j,j≠G->j≠L->((g1.set G X).set L Y).get j=g.get j:=fun X Y j a b=>by rw [aE b,aE a,<-hg1,aE a]
  have O: ∀(a b:Int)(u:Bool),(a,b)=rst l ((aG l).getD i 0) kn (R.set i aL) l[i]->u=ust l ((aG l).getD i 0) un U l[i]->IVg l kn un (i+1) ((g1.set G (.cells ((R.set i (a,b)).flatMap cR))).set L (.cells ((U.set i u).map IV.bool))) G L (R.set i (a,b)) (U.set i u) h:=fun a b u er eu=>
   hv.step a7 ((aE c3).trans aH) aH rfl rfl er eu c0 (e9 _ _)
  have c7: ∀(a b:Int),(a,b)=rst l ((aG l).getD i 0) kn (R.set i aL) l[i]->false=ust l ((aG l).getD i 0) un U l[i]->IVg l kn un (i+1) (g1.set G (.cells ((R.set i (a,b)).flatMap cR))) G L (R.set i (a,b)) U h:=fun a b er eu=>
   hv.step a7 aH ((aE (Ne.symm c3)).trans kU) rfl d1.symm er eu c0 (fun j x y=>by rw [aE x,<-hg1,aE x])
  have a9:aL=rst l ((aG l).getD i 0) kn (R.set i aL) l[i]->false=ust l ((aG l).getD i 0) un U l[i]->IVg l kn un (i+1) g1 G L (R.set i aL) U h:=fun er eu=>
   hv.step a7 kR kU rfl d1.symm er eu c0 (fun j x y=>by rw [<-hg1,aE x])
  refine aB b0 (sA rfl (aP ⟨by omega,by omega⟩ (jM hs (by rw [tn,h1W]) (aD (fun c1=>?_) (fun c1=>?_)))))
  ·rw [bne_iff_ne]at c1;have a6:(aG l).getD i 0≠1:=by rw [cQ hs];exact c1
   exact⟨(i+1,g1,G,L,R.set i aL,U),rfl,rfl,rfl,rfl,rfl,V,rfl,⟨a9 (by unfold rst;rw [if_pos a6]) (by unfold ust;rw [if_pos a6]),trivial⟩,T⟩
  rw [bne_eq_false_iff_eq]at c1;have a6:(aG l).getD i 0=1:=by rw [cQ hs];exact c1
  obtain⟨v1,v2⟩:=zJ a7 a6;have g4:=c1K a7 a6;have hr:rst l ((aG l).getD i 0) kn (R.set i aL) l[i]=if l[i].op=3 then(kn l[i].im).getD aL else if l[i].op=25 then ijn (gR (R.set i aL) (bO (tU l l[i]) l[i].im.toNat).f) (gR (R.set i aL) (bO (tU l l[i]) l[i].im.toNat).n)else ist (R.set i aL) l[i]:=by
   unfold rst
   rw [if_neg (fun q=>q a6)]
  have hu:ust l ((aG l).getD i 0) un U l[i]=if l[i].op=3 then un l[i].im else if l[i].op=25 then(gU U (bO (tU l l[i]) l[i].im.toNat).f||gU U (bO (tU l l[i]) l[i].im.toNat).n)else(decide (4<=l[i].op/\l[i].op<=22) &&l[i].ks.any (gU U)):=by
   unfold ust
   rw [if_neg (fun q=>q a6)]
  have kq: ∀j,j<l[i].ks.length->0<=l[i].ks.getD j 0/\l[i].ks.getD j 0< (l.length:Int):=fun j hj=>by
   have:=v1 _ (a4B (z:=0) hj);exact⟨this.1,by omega⟩
  have kr: ∀j,j<l[i].ks.length->0<=l[i].ks.getD j 0/\l[i].ks.getD j 0< ((R.set i aL).length:Int):=fun j hj=>by
   rw [h3R,c6];exact kq j hj
  have ku: ∀j,j<l[i].ks.length->0<=l[i].ks.getD j 0/\l[i].ks.getD j 0< (U.length:Int):=fun j hj=>by
   rw [b7];exact kq j hj
  by_cases o1:l[i].op=1
  ·have e1:(l[i].im,l[i].im)=rst l ((aG l).getD i 0) kn (R.set i aL) l[i]:=by
    rw [hr,if_neg (by omega),if_neg (by omega)];unfold ist
    rw [if_pos o1]
   have e2:false=ust l ((aG l).getD i 0) un U l[i]:=by
    rw [hu,if_neg (by omega),if_neg (by omega),decide_eq_false (by omega)];rfl
   rw [beq_iff_eq.2 o1];exact bt rfl (aP D (aB kR (aA a5 ⟨(i+1,g1.set G (.cells ((R.set i (l[i].im,l[i].im)).flatMap cR)),G,L,R.set i (l[i].im,l[i].im),U),rfl,rfl,rfl,rfl,rfl,V,(by rw [tn,a0]),⟨c7 _ _ e1 e2,trivial⟩,T⟩)))
  refine bf (beq_eq_false_iff_ne.2 o1) ?_
  by_cases o3:l[i].op=3
  ·have e1:((kn l[i].im).getD aL).1=((kn l[i].im).getD aL).1:=rfl;have e2:(((kn l[i].im).getD aL).1,((kn l[i].im).getD aL).2)=rst l ((aG l).getD i 0) kn (R.set i aL) l[i]:=by
    rw [hr,if_pos o3]
   have e3:un l[i].im=ust l ((aG l).getD i 0) un U l[i]:=by
    rw [hu,if_pos o3]
   obtain⟨es,s1,s2⟩:=g0;refine bt (beq_iff_eq.2 o3) ⟨_,_,mu,mk,kn,un,b0,⟨⟨es,(kj mk e8).trans s1,s2⟩,?_,d2 _⟩,aP D (aB kR (aA a5 (aP D (aB Z (aA a3 ⟨(i+1,(g1.set G (.cells ((R.set i (((kn l[i].im).getD aL).1,((kn l[i].im).getD aL).2)).flatMap cR))).set L (.cells ((U.set i (un l[i].im)).map IV.bool)),G,L,R.set i (((kn l[i].im).getD aL).1,((kn l[i].im).getD aL).2),U.set i (un l[i].im)),rfl,rfl,rfl,rfl,rfl,V,(by rw [tn,a0,a4]),⟨O _ _ _ e2 e3,trivial⟩,T⟩)))))⟩;rcases f7 with q| ⟨m,f6,q1,q2,q3⟩
   ·exact .inl q
   ·exact .inr ⟨m,f6,q1,(kj m (f0 m q1)).trans q2,q3⟩
  refine bf (beq_eq_false_iff_ne.2 o3) ?_
  by_cases o25:l[i].op=25
  ·rcases v2 with⟨_,q,hq,d8,q3,q4,q5,q6⟩| ⟨b8,_⟩
   case inr=>exact absurd o25 b8
   have b9:=sG q3;have e5:=b9.odd;have b5:=b9.im;have a8:q.toNat<l.length:=by omega
   have d4:tU l l[i]=l[q.toNat]:=by unfold tU;rw [hq];exact cQ a8
   rw [cQ a8]at e5 b5 q6;have d0:l[i].im.toNat<l[q.toNat].ks.length/2:=by omega
   have c9:=b5S (j:=l[i].im.toNat) b9 (by rw [cQ a8];exact d0);rw [cQ a8]at c9;obtain⟨f1,n1,_⟩:=c9;have e1:(min (gR (R.set i aL) (bO l[q.toNat] l[i].im.toNat).f).1 (gR (R.set i aL) (bO l[q.toNat] l[i].im.toNat).n).1,max (gR (R.set i aL) (bO l[q.toNat] l[i].im.toNat).f).2 (gR (R.set i aL) (bO l[q.toNat] l[i].im.toNat).n).2)=rst l ((aG l).getD i 0) kn (R.set i aL) l[i]:=by
    rw [hr,if_neg o3,if_pos o25,d4];rfl
   have e2:(gU U (bO l[q.toNat] l[i].im.toNat).f||gU U (bO l[q.toNat] l[i].im.toNat).n)=ust l ((aG l).getD i 0) un U l[i]:=by
    rw [hu,if_neg o3,if_pos o25,d4]
   have f2:0<=(bO l[q.toNat] l[i].im.toNat).f/\(bO l[q.toNat] l[i].im.toNat).f< (l.length:Int):=⟨f1.1,by omega⟩;have n2:0<=(bO l[q.toNat] l[i].im.toNat).n/\(bO l[q.toNat] l[i].im.toNat).n< (l.length:Int):=⟨n1.1,by omega⟩;have f3:0<=(bO l[q.toNat] l[i].im.toNat).f/\(bO l[q.toNat] l[i].im.toNat).f< ((R.set i aL).length:Int):=by rw [h3R,c6];exact f2
   have n3:0<=(bO l[q.toNat] l[i].im.toNat).n/\(bO l[q.toNat] l[i].im.toNat).n< ((R.set i aL).length:Int):=by rw [h3R,c6];exact n2
   have f4:0<=(bO l[q.toNat] l[i].im.toNat).f/\(bO l[q.toNat] l[i].im.toNat).f< (U.length:Int):=by rw [b7];exact f2
   have n4:0<=(bO l[q.toNat] l[i].im.toNat).n/\(bO l[q.toNat] l[i].im.toNat).n< (U.length:Int):=by rw [b7];exact n2
   have g2:l[i].ks.length=1:=by rw [hq];rfl
   have f9:l[i].ks.getD 0 0=q:=by rw [hq];rfl
   refine bt (beq_iff_eq.2 o25) (aB b0 (sA rfl (r (by omega) (a4G (by omega) rfl ?_))));rw [f9];refine aP ⟨d8.1,by omega⟩ (a6X a8 rfl ⟨l[q.toNat].ks,l[i].im.toNat,⟨rfl,rfl,by omega⟩,⟨by omega,by omega,f8 _ (h1B a8),d0,b5.1,b5.2⟩,?_⟩);refine aP f2 (aB kR (a1L f3 (by rw [h1Q];rfl) (aP n2 (aB kR (a1L n3 (by rw [h1Q];rfl) (aP f2 (aB kU (a4F f4 (by rw [h1Q,h1W];rfl) (aD (fun cu=>?_) (fun cu=>?_))))))))))
   ·rw [cu,h7A]at e2;exact aP D (aB kR (aA a5 (aP D (aB Z (aA a3 ⟨(i+1,(g1.set G (.cells ((R.set i (min (gR (R.set i aL) (bO l[q.toNat] l[i].im.toNat).f).1 (gR (R.set i aL) (bO l[q.toNat] l[i].im.toNat).n).1,max (gR (R.set i aL) (bO l[q.toNat] l[i].im.toNat).f).2 (gR (R.set i aL) (bO l[q.toNat] l[i].im.toNat).n).2)).flatMap cR))).set L (.cells ((U.set i (true)).map IV.bool)),G,L,R.set i (min (gR (R.set i aL) (bO l[q.toNat] l[i].im.toNat).f).1 (gR (R.set i aL) (bO l[q.toNat] l[i].im.toNat).n).1,max (gR (R.set i aL) (bO l[q.toNat] l[i].im.toNat).f).2 (gR (R.set i aL) (bO l[q.toNat] l[i].im.toNat).n).2),U.set i (true)),rfl,rfl,rfl,rfl,rfl,V,(by rw [tn,a0,a4]),⟨O _ _ _ e1 e2,trivial⟩,T⟩)))))
   ·rw [cu,h4S]at e2;exact aP n2 (aB kU (a4F n4 (by rw [h1Q,h1W];rfl) (aP D (aB kR (aA a5 (aP D (aB Z (aA a3 ⟨(i+1,(g1.set G (.cells ((R.set i (min (gR (R.set i aL) (bO l[q.toNat] l[i].im.toNat).f).1 (gR (R.set i aL) (bO l[q.toNat] l[i].im.toNat).n).1,max (gR (R.set i aL) (bO l[q.toNat] l[i].im.toNat).f).2 (gR (R.set i aL) (bO l[q.toNat] l[i].im.toNat).n).2)).flatMap cR))).set L (.cells ((U.set i (gU U (bO l[q.toNat] l[i].im.toNat).n)).map IV.bool)),G,L,R.set i (min (gR (R.set i aL) (bO l[q.toNat] l[i].im.toNat).f).1 (gR (R.set i aL) (bO l[q.toNat] l[i].im.toNat).n).1,max (gR (R.set i aL) (bO l[q.toNat] l[i].im.toNat).f).2 (gR (R.set i aL) (bO l[q.toNat] l[i].im.toNat).n).2),U.set i (gU U (bO l[q.toNat] l[i].im.toNat).n)),rfl,rfl,rfl,rfl,rfl,V,(by rw [tn,a0,a4]),⟨O _ _ _ e1 e2,trivial⟩,T⟩))))))))
  refine bf (beq_eq_false_iff_ne.2 o25) ?_;rcases v2 with⟨b8,_⟩| ⟨_,_,_,b1,_⟩
  case inl=>exact absurd b8 o25
  unfold ar at b1;have K:ust l ((aG l).getD i 0) un U l[i]=(decide (4<=l[i].op/\l[i].op<=22) &&l[i].ks.any (gU U)):=by rw [hu,if_neg o3,if_neg o25]
  have b2:rst l ((aG l).getD i 0) kn (R.set i aL) l[i]=ist (R.set i aL) l[i]:=by rw [hr,if_neg o3,if_neg o25]
  by_cases o22:l[i].op=22
  ·have d7:l[i].ks.length=3:=by
    rw [if_neg (by omega),if_neg (by omega),if_neg (by omega),if_pos (by omega)]at b1;omega
   have e1:((mB (gR (R.set i aL) (l[i].ks.getD 0 0)).1 (gR (R.set i aL) (l[i].ks.getD 0 0)).2 (gR (R.set i aL) (l[i].ks.getD 1 0)).1 (gR (R.set i aL) (l[i].ks.getD 1 0)).2 (gR (R.set i aL) (l[i].ks.getD 2 0)).1 (gR (R.set i aL) (l[i].ks.getD 2 0)).2).1,(mB (gR (R.set i aL) (l[i].ks.getD 0 0)).1 (gR (R.set i aL) (l[i].ks.getD 0 0)).2 (gR (R.set i aL) (l[i].ks.getD 1 0)).1 (gR (R.set i aL) (l[i].ks.getD 1 0)).2 (gR (R.set i aL) (l[i].ks.getD 2 0)).1 (gR (R.set i aL) (l[i].ks.getD 2 0)).2).2)=rst l ((aG l).getD i 0) kn (R.set i aL) l[i]:=by
    rw [b2];unfold ist
    rw [if_neg o1,if_pos o22];rfl
   rw [g5W d7,decide_eq_true (show 4<=l[i].op/\l[i].op<=22 by omega),h2G]at K;refine bt (beq_iff_eq.2 o22) (r (by omega) (a4G (by omega) rfl (aP (kq 0 (by omega)) (aB kR (a1L (kr 0 (by omega)) (by rw [h1Q]) (r (by omega) (a4G (by omega) rfl (aP (kq 1 (by omega)) (aB kR (a1L (kr 1 (by omega)) (by rw [h1Q]) (r (by omega) (a4G (by omega) rfl (aP (kq 2 (by omega)) (aB kR (a1L (kr 2 (by omega)) (by rw [h1Q]) (aP D (aB kR (aA a5 (r (by omega) (a4G (by omega) rfl (aP (kq 0 (by omega)) (aB Z (a4F (ku 0 (by omega)) (by rw [h1Q,h1W]) (aD (fun cu=>?_) (fun cu=>?_)))))))))))))))))))))))))
   ·rw [cu,h7A]at K;exact aP D (aB Z (aA a3 ⟨(i+1,(g1.set G (.cells ((R.set i ((mB (gR (R.set i aL) (l[i].ks.getD 0 0)).1 (gR (R.set i aL) (l[i].ks.getD 0 0)).2 (gR (R.set i aL) (l[i].ks.getD 1 0)).1 (gR (R.set i aL) (l[i].ks.getD 1 0)).2 (gR (R.set i aL) (l[i].ks.getD 2 0)).1 (gR (R.set i aL) (l[i].ks.getD 2 0)).2).1,(mB (gR (R.set i aL) (l[i].ks.getD 0 0)).1 (gR (R.set i aL) (l[i].ks.getD 0 0)).2 (gR (R.set i aL) (l[i].ks.getD 1 0)).1 (gR (R.set i aL) (l[i].ks.getD 1 0)).2 (gR (R.set i aL) (l[i].ks.getD 2 0)).1 (gR (R.set i aL) (l[i].ks.getD 2 0)).2).2)).flatMap cR))).set L (.cells ((U.set i (true)).map IV.bool)),G,L,R.set i ((mB (gR (R.set i aL) (l[i].ks.getD 0 0)).1 (gR (R.set i aL) (l[i].ks.getD 0 0)).2 (gR (R.set i aL) (l[i].ks.getD 1 0)).1 (gR (R.set i aL) (l[i].ks.getD 1 0)).2 (gR (R.set i aL) (l[i].ks.getD 2 0)).1 (gR (R.set i aL) (l[i].ks.getD 2 0)).2).1,(mB (gR (R.set i aL) (l[i].ks.getD 0 0)).1 (gR (R.set i aL) (l[i].ks.getD 0 0)).2 (gR (R.set i aL) (l[i].ks.getD 1 0)).1 (gR (R.set i aL) (l[i].ks.getD 1 0)).2 (gR (R.set i aL) (l[i].ks.getD 2 0)).1 (gR (R.set i aL) (l[i].ks.getD 2 0)).2).2),U.set i (true)),rfl,rfl,rfl,rfl,rfl,V,(by rw [tn,a0,a4]),⟨O _ _ _ e1 K.symm,trivial⟩,T⟩))
   ·rw [cu,h4S]at K;refine r (by omega) (a4G (by omega) rfl (aP (kq 1 (by omega)) (aB Z (a4F (ku 1 (by omega)) (by rw [h1Q,h1W]) (aD (fun b4=>?_) (fun b4=>?_))))))
    ·rw [b4,h7A]at K;exact aP D (aB Z (aA a3 ⟨(i+1,(g1.set G (.cells ((R.set i ((mB (gR (R.set i aL) (l[i].ks.getD 0 0)).1 (gR (R.set i aL) (l[i].ks.getD 0 0)).2 (gR (R.set i aL) (l[i].ks.getD 1 0)).1 (gR (R.set i aL) (l[i].ks.getD 1 0)).2 (gR (R.set i aL) (l[i].ks.getD 2 0)).1 (gR (R.set i aL) (l[i].ks.getD 2 0)).2).1,(mB (gR (R.set i aL) (l[i].ks.getD 0 0)).1 (gR (R.set i aL) (l[i].ks.getD 0 0)).2 (gR (R.set i aL) (l[i].ks.getD 1 0)).1 (gR (R.set i aL) (l[i].ks.getD 1 0)).2 (gR (R.set i aL) (l[i].ks.getD 2 0)).1 (gR (R.set i aL) (l[i].ks.getD 2 0)).2).2)).flatMap cR))).set L (.cells ((U.set i (true)).map IV.bool)),G,L,R.set i ((mB (gR (R.set i aL) (l[i].ks.getD 0 0)).1 (gR (R.set i aL) (l[i].ks.getD 0 0)).2 (gR (R.set i aL) (l[i].ks.getD 1 0)).1 (gR (R.set i aL) (l[i].ks.getD 1 0)).2 (gR (R.set i aL) (l[i].ks.getD 2 0)).1 (gR (R.set i aL) (l[i].ks.getD 2 0)).2).1,(mB (gR (R.set i aL) (l[i].ks.getD 0 0)).1 (gR (R.set i aL) (l[i].ks.getD 0 0)).2 (gR (R.set i aL) (l[i].ks.getD 1 0)).1 (gR (R.set i aL) (l[i].ks.getD 1 0)).2 (gR (R.set i aL) (l[i].ks.getD 2 0)).1 (gR (R.set i aL) (l[i].ks.getD 2 0)).2).2),U.set i (true)),rfl,rfl,rfl,rfl,rfl,V,(by rw [tn,a0,a4]),⟨O _ _ _ e1 K.symm,trivial⟩,T⟩))
    ·rw [b4,h4S]at K;exact r (by omega) (a4G (by omega) rfl (aP (kq 2 (by omega)) (aB Z (a4F (ku 2 (by omega)) (by rw [h1Q,h1W]) (aP D (aB Z (aA a3 ⟨(i+1,(g1.set G (.cells ((R.set i ((mB (gR (R.set i aL) (l[i].ks.getD 0 0)).1 (gR (R.set i aL) (l[i].ks.getD 0 0)).2 (gR (R.set i aL) (l[i].ks.getD 1 0)).1 (gR (R.set i aL) (l[i].ks.getD 1 0)).2 (gR (R.set i aL) (l[i].ks.getD 2 0)).1 (gR (R.set i aL) (l[i].ks.getD 2 0)).2).1,(mB (gR (R.set i aL) (l[i].ks.getD 0 0)).1 (gR (R.set i aL) (l[i].ks.getD 0 0)).2 (gR (R.set i aL) (l[i].ks.getD 1 0)).1 (gR (R.set i aL) (l[i].ks.getD 1 0)).2 (gR (R.set i aL) (l[i].ks.getD 2 0)).1 (gR (R.set i aL) (l[i].ks.getD 2 0)).2).2)).flatMap cR))).set L (.cells ((U.set i (gU U (l[i].ks.getD 2 0))).map IV.bool)),G,L,R.set i ((mB (gR (R.set i aL) (l[i].ks.getD 0 0)).1 (gR (R.set i aL) (l[i].ks.getD 0 0)).2 (gR (R.set i aL) (l[i].ks.getD 1 0)).1 (gR (R.set i aL) (l[i].ks.getD 1 0)).2 (gR (R.set i aL) (l[i].ks.getD 2 0)).1 (gR (R.set i aL) (l[i].ks.getD 2 0)).2).1,(mB (gR (R.set i aL) (l[i].ks.getD 0 0)).1 (gR (R.set i aL) (l[i].ks.getD 0 0)).2 (gR (R.set i aL) (l[i].ks.getD 1 0)).1 (gR (R.set i aL) (l[i].ks.getD 1 0)).2 (gR (R.set i aL) (l[i].ks.getD 2 0)).1 (gR (R.set i aL) (l[i].ks.getD 2 0)).2).2),U.set i (gU U (l[i].ks.getD 2 0))),rfl,rfl,rfl,rfl,rfl,V,(by rw [tn,a0,a4]),⟨O _ _ _ e1 K.symm,trivial⟩,T⟩)))))))
  refine bf (beq_eq_false_iff_ne.2 o22) ?_
  by_cases o20:l[i].op=20\/l[i].op=21
  ·have d9:l[i].ks.length=1:=by
    rw [if_neg (by omega),if_pos (by omega)]at b1;omega
   have e1:((iun l[i].op (gR (R.set i aL) (l[i].ks.getD 0 0)).1 (gR (R.set i aL) (l[i].ks.getD 0 0)).2).1,(iun l[i].op (gR (R.set i aL) (l[i].ks.getD 0 0)).1 (gR (R.set i aL) (l[i].ks.getD 0 0)).2).2)=rst l ((aG l).getD i 0) kn (R.set i aL) l[i]:=by
    rw [b2];unfold ist
    rw [if_neg o1,if_neg o22,if_pos o20];rfl
   rw [g5U d9,decide_eq_true (show 4<=l[i].op/\l[i].op<=22 by omega),h2G]at K;have go: ∀A B:Prop,A->aM (l[i].op==20) A (aM (l[i].op==21) A B):=fun A B a=>aD (fun _=>a) (fun c2=>aD (fun _=>a) (fun c3=>by rw [beq_eq_false_iff_ne]at c2 c3;rcases o20 with q|q<;>contradiction))
   refine go _ _ ?_;exact r (by omega) (a4G (by omega) rfl (aP (kq 0 (by omega)) (aB kR (a1L (kr 0 (by omega)) (by rw [h1Q]) (r (by omega) (a4G (by omega) rfl (aP (kq 0 (by omega)) (aB kU (a4F (ku 0 (by omega)) (by rw [h1Q,h1W]) (aP D (aB kR (aA a5 (aP D (aB Z (aA a3 ⟨(i+1,(g1.set G (.cells ((R.set i ((iun l[i].op (gR (R.set i aL) (l[i].ks.getD 0 0)).1 (gR (R.set i aL) (l[i].ks.getD 0 0)).2).1,(iun l[i].op (gR (R.set i aL) (l[i].ks.getD 0 0)).1 (gR (R.set i aL) (l[i].ks.getD 0 0)).2).2)).flatMap cR))).set L (.cells ((U.set i (gU U (l[i].ks.getD 0 0))).map IV.bool)),G,L,R.set i ((iun l[i].op (gR (R.set i aL) (l[i].ks.getD 0 0)).1 (gR (R.set i aL) (l[i].ks.getD 0 0)).2).1,(iun l[i].op (gR (R.set i aL) (l[i].ks.getD 0 0)).1 (gR (R.set i aL) (l[i].ks.getD 0 0)).2).2),U.set i (gU U (l[i].ks.getD 0 0))),rfl,rfl,rfl,rfl,rfl,V,(by rw [tn,a0,a4]),⟨O _ _ _ e1 K.symm,trivial⟩,T⟩)))))))))))))))
  refine bf (beq_eq_false_iff_ne.2 (fun q=>o20 (.inl q))) (bf (beq_eq_false_iff_ne.2 (fun q=>o20 (.inr q))) ?_)
  by_cases o4:4<=l[i].op/\l[i].op<=19
  ·have e7:l[i].ks.length=2:=by
    rw [if_neg (by omega),if_neg (by omega),if_pos (by omega)]at b1;omega
   have e1:((oT l[i].op (gR (R.set i aL) (l[i].ks.getD 0 0)).1 (gR (R.set i aL) (l[i].ks.getD 0 0)).2 (gR (R.set i aL) (l[i].ks.getD 1 0)).1 (gR (R.set i aL) (l[i].ks.getD 1 0)).2).1,(oT l[i].op (gR (R.set i aL) (l[i].ks.getD 0 0)).1 (gR (R.set i aL) (l[i].ks.getD 0 0)).2 (gR (R.set i aL) (l[i].ks.getD 1 0)).1 (gR (R.set i aL) (l[i].ks.getD 1 0)).2).2)=rst l ((aG l).getD i 0) kn (R.set i aL) l[i]:=by
    rw [b2];unfold ist
    rw [if_neg o1,if_neg o22,if_neg o20,if_pos o4];rfl
   rw [g5V e7,decide_eq_true (show 4<=l[i].op/\l[i].op<=22 by omega),h2G]at K;have rR: ∀j,j<l[i].ks.length->bJ (gR (R.set i aL) (l[i].ks.getD j 0)).1/\bJ (gR (R.set i aL) (l[i].ks.getD j 0)).2:=fun j hj=>by
    have a:=v1 _ (a4B (z:=0) hj);have b:=(a4E f5 e4 (l[i].ks.getD j 0).toNat (by omega)).2;have e:gR (R.set i aL) (l[i].ks.getD j 0)=(rG l kn).getD (l[i].ks.getD j 0).toNat (0,0):=by
     unfold gR
     rw [zO (by omega),<-g1J hi (by omega),<-b6,a1Y (by omega)]
    rw [e];exact b
   refine dW (fun _=>dW (fun _=>r (by omega) (a4G (by omega) rfl (r (by omega) (a4G (by omega) rfl (aP (kq 0 (by omega)) (aB kR (a1L (kr 0 (by omega)) (by rw [h1Q]) (aP (kq 1 (by omega)) (aB kR (a1L (kr 1 (by omega)) (by rw [h1Q]) (⟨⟨rR 0 (by omega),rR 1 (by omega)⟩,aP (kq 0 (by omega)) (aB kU (a4F (ku 0 (by omega)) (by rw [h1Q,h1W]) (aD (fun cu=>?_) (fun cu=>?_))))⟩))))))))))) (fun c2=>absurd o4.2 c2)) (fun c2=>absurd o4.1 c2)
   ·rw [cu,h7A]at K;exact aP D (aB kR (aA a5 (aP D (aB Z (aA a3 ⟨(i+1,(g1.set G (.cells ((R.set i ((oT l[i].op (gR (R.set i aL) (l[i].ks.getD 0 0)).1 (gR (R.set i aL) (l[i].ks.getD 0 0)).2 (gR (R.set i aL) (l[i].ks.getD 1 0)).1 (gR (R.set i aL) (l[i].ks.getD 1 0)).2).1,(oT l[i].op (gR (R.set i aL) (l[i].ks.getD 0 0)).1 (gR (R.set i aL) (l[i].ks.getD 0 0)).2 (gR (R.set i aL) (l[i].ks.getD 1 0)).1 (gR (R.set i aL) (l[i].ks.getD 1 0)).2).2)).flatMap cR))).set L (.cells ((U.set i (true)).map IV.bool)),G,L,R.set i ((oT l[i].op (gR (R.set i aL) (l[i].ks.getD 0 0)).1 (gR (R.set i aL) (l[i].ks.getD 0 0)).2 (gR (R.set i aL) (l[i].ks.getD 1 0)).1 (gR (R.set i aL) (l[i].ks.getD 1 0)).2).1,(oT l[i].op (gR (R.set i aL) (l[i].ks.getD 0 0)).1 (gR (R.set i aL) (l[i].ks.getD 0 0)).2 (gR (R.set i aL) (l[i].ks.getD 1 0)).1 (gR (R.set i aL) (l[i].ks.getD 1 0)).2).2),U.set i (true)),rfl,rfl,rfl,rfl,rfl,V,(by rw [tn,a0,a4]),⟨O _ _ _ e1 K.symm,trivial⟩,T⟩)))))
   ·rw [cu,h4S]at K;exact aP (kq 1 (by omega)) (aB kU (a4F (ku 1 (by omega)) (by rw [h1Q,h1W]) (aP D (aB kR (aA a5 (aP D (aB Z (aA a3 ⟨(i+1,(g1.set G (.cells ((R.set i ((oT l[i].op (gR (R.set i aL) (l[i].ks.getD 0 0)).1 (gR (R.set i aL) (l[i].ks.getD 0 0)).2 (gR (R.set i aL) (l[i].ks.getD 1 0)).1 (gR (R.set i aL) (l[i].ks.getD 1 0)).2).1,(oT l[i].op (gR (R.set i aL) (l[i].ks.getD 0 0)).1 (gR (R.set i aL) (l[i].ks.getD 0 0)).2 (gR (R.set i aL) (l[i].ks.getD 1 0)).1 (gR (R.set i aL) (l[i].ks.getD 1 0)).2).2)).flatMap cR))).set L (.cells ((U.set i (gU U (l[i].ks.getD 1 0))).map IV.bool)),G,L,R.set i ((oT l[i].op (gR (R.set i aL) (l[i].ks.getD 0 0)).1 (gR (R.set i aL) (l[i].ks.getD 0 0)).2 (gR (R.set i aL) (l[i].ks.getD 1 0)).1 (gR (R.set i aL) (l[i].ks.getD 1 0)).2).1,(oT l[i].op (gR (R.set i aL) (l[i].ks.getD 0 0)).1 (gR (R.set i aL) (l[i].ks.getD 0 0)).2 (gR (R.set i aL) (l[i].ks.getD 1 0)).1 (gR (R.set i aL) (l[i].ks.getD 1 0)).2).2),U.set i (gU U (l[i].ks.getD 1 0))),rfl,rfl,rfl,rfl,rfl,V,(by rw [tn,a0,a4]),⟨O _ _ _ e1 K.symm,trivial⟩,T⟩))))))))
  have e1:aL=rst l ((aG l).getD i 0) kn (R.set i aL) l[i]:=by
   rw [b2];unfold ist
   rw [if_neg o1,if_neg o22,if_neg o20,if_neg o4];rfl
  have e2:false=ust l ((aG l).getD i 0) un U l[i]:=by
   rw [K,decide_eq_false (by omega),h3Z]
  exact dW (fun c3=>dW (fun c4=>absurd ⟨c3,c4⟩ o4) (fun _=>⟨(i+1,g1,G,L,R.set i aL,U),rfl,rfl,rfl,rfl,rfl,V,rfl,⟨a9 e1 e2,trivial⟩,T⟩)) (fun _=>⟨(i+1,g1,G,L,R.set i aL,U),rfl,rfl,rfl,rfl,rfl,V,rfl,⟨a9 e1 e2,trivial⟩,T⟩)
 ·exact hk.elim
def e2N:=bB 57 e2H e2F
theorem e2O:aT env e2N:=aI g4B (e2G)
def e2P(xs:List IV)(h:Heap)(K:KT):Prop:=match xs with
 | [.ptr id 0,.agg [.int .i64 v,.int .i64 f,.int .i64 n,.int .i64 d],.agg [.int .i64 a,.int .i64 b],.hslice iR 0 len 2]=> ∃(l:List Nd)(x y z:IV)(R:List Iv),(h.get id= .cells [.vslice none 0 (l).length 3 ((l).flatMap cN),x,y,z]/\h.get iR= .cells (R.flatMap cR)/\R.length=l.length/\len=l.length)/\(∀i,i<l.length->(R.getD i (0,0)).1<=(R.getD i (0,0)).2/\dB (R.getD i (0,0)))/\(0<=d/\d<l.length/\(aG l).getD d.toNat 0=1/\l.length<=100000)/\K (.tuple [eI (mC l ⟨v,f,n,d⟩ (a,b) R).1,.bool (mC l ⟨v,f,n,d⟩ (a,b) R).2]) h
 |_=>False
def a0D:=IV.tuple [.agg [.int .i64 0,iI 0],IV.bool false]
def yK(a b:Int):=IV.tuple [.agg [.int .i64 a,iI b],IV.bool true]
def lM(g:Int):=g==17
def d2O(len:Nat)(g:Int):=decide (0<=g) &&decide (g< (len:Int))
def d2P(len:Nat)(g:Int):=decide (0<=g) &&decide (g< (len:Int))
def d2Q(len:Nat)(g:Int):=decide (0<=g) &&decide (g< (len:Int))
def e2Q(g:Int):=(0:Nat)+g.toNat*2+1
def e2R(g:Int):=(0:Nat)+g.toNat*2+1
def e2S(g:Int):=(0:Nat)+g.toNat*2+1
def e8H(g:Nat):=true&&decide (0< (g:Int))
def e8I(g:Nat):=true&&decide (1< (g:Int))
def a7F(g:Int):=g==19
def e8J(g:Int):=wW (g-1)
def c4I(i g:Int):=(upB g (lM i)).1
def c4J(i g:Int):=(frB g (lM i)).1
def e8K(g:Int):=wW (g-1)
def c4K(i g:Int):=(upB g (lM i)).1
def c4L(i g:Int):=(frB g (lM i)).1
def e8L(g:Int):=wW (g-1)
def c4M(i g:Int):=(upB g (lM i)).1
def c4N(i g:Int):=(frB g (lM i)).1
def e8M(g:Int):=wW (g-1)
def c4O(i g:Int):=(upB g (lM i)).1
def c4P(i g:Int):=(frB g (lM i)).1
def e8N(g:Int):=wW (g-1)
def c4Q(i g:Int):=(upB g (lM i)).1
def a6E(i g:Int):=(frB g (lM i)).1
def c9J(g:Int):=wW (g-1)
def a6F(i g:Int):=(upB g (lM i)).1
def a6G(i g:Int):=(frB g (lM i)).1
theorem g4C(id:Nat)(v f n d a b:Int)(m len:Nat)(h:Heap)(Q:KT):dF (aV e2N) env 60 dV bT bT [.ptr id 0,.agg [.int .i64 v,.int .i64 f,.int .i64 n,.int .i64 d],.agg [.int .i64 a,.int .i64 b],.hslice m 0 len 2] h Q=(
 aF h id fun r0=>bH 3 r0 0 fun(i1:Option Nat)(e2 l3:Nat)(c4:List IV)=>aC (decide (0<=d) &&decide (d< (l3:Int))) (aK .i64 c4 (d.toNat*3) fun g=>aK .i64 c4 (d.toNat*3+1) fun(n6:Int)=>bH 1 c4 (d.toNat*3+1+1) fun(i7:Option Nat)(e8 l9:Nat)(Z:List IV)=>aM (g !=17) (aM (g !=18) (aM (g !=19) (Q (yK a b) h) (aC (e8H l9) (aK .i64 Z 0 fun u=>aC (e8I l9) (aK .i64 Z 1 fun l=>aM (a7F g) (aM (u !=n) (Q (yK a b) h) (aC (d2O len l) (aF h m fun a6=>aK .i64 a6 ((0:Nat)+l.toNat*2+0) fun a7=>aM (decide (a7<0)) (Q (yK a b) h) (aM (a7F g) (aC (d2O len l) (aF h m fun b3=>aK .i64 b3 (e2Q l) fun a5=>Q (.tuple [.agg [.int .i64 ((cP a b 0 (e8J a5)).1),iI ((cP a b 0 (e8J a5)).2)],IV.bool (dU a b 0 (e8J a5))]) h)) (aM (u==n) (aC (d2O len l) (aF h m fun b4=>aK .i64 b4 (e2Q l) fun K=>bJ K/\aM (!Prod.snd (upB K (lM g))) (Q a0D h) (Q (.tuple [.agg [.int .i64 ((cP a b ((c4I g K).1) ((c4I g K).2)).1),iI ((cP a b ((c4I g K).1) ((c4I g K).2)).2)],IV.bool (dU a b ((c4I g K).1) ((c4I g K).2))]) h))) (aM (l==n) (aC (decide (0<=u) &&decide (u< (len:Int))) (aF h m fun b5=>aK .i64 b5 ((0:Nat)+u.toNat*2+0) fun z=>bJ z/\aM (!Prod.snd (frB z (lM g))) (Q a0D h) (Q (.tuple [.agg [.int .i64 ((cP a b ((c4J g z).1) ((c4J g z).2)).1),iI ((cP a b ((c4J g z).1) ((c4J g z).2)).2)],IV.bool (dU a b ((c4J g z).1) ((c4J g z).2))]) h))) (Q (yK a b) h))))))) (aM (a7F g) (aC (d2O len l) (aF h m fun c6=>aK .i64 c6 (e2Q l) fun a1=>Q (.tuple [.agg [.int .i64 ((cP a b 0 (e8K a1)).1),iI ((cP a b 0 (e8K a1)).2)],IV.bool (dU a b 0 (e8K a1))]) h)) (aM (u==n) (aC (d2O len l) (aF h m fun c5=>aK .i64 c5 (e2Q l) fun L=>bJ L/\aM (!Prod.snd (upB L (lM g))) (Q a0D h) (Q (.tuple [.agg [.int .i64 ((cP a b ((c4K g L).1) ((c4K g L).2)).1),iI ((cP a b ((c4K g L).1) ((c4K g L).2)).2)],IV.bool (dU a b ((c4K g L).1) ((c4K g L).2))]) h))) (aM (l==n) (aC (decide (0<=u) &&decide (u< (len:Int))) (aF h m fun c1=>aK .i64 c1 ((0:Nat)+u.toNat*2+0) fun y=>bJ y/\aM (!Prod.snd (frB y (lM g))) (Q a0D h) (Q (.tuple [.agg [iI ((cP a b ((c4L g y).1) ((c4L g y).2)).1),iI ((cP a b ((c4L g y).1) ((c4L g y).2)).2)],IV.bool (dU a b ((c4L g y).1) ((c4L g y).2))]) h))) (Q (yK a b) h)))))))) (aC (e8H l9) (aK .i64 Z 0 fun r=>aC (e8I l9) (aK .i64 Z 1 fun j=>aM (a7F g) (aM (r !=n) (Q (yK a b) h) (aC (d2P len j) (aF h m fun a9=>aK .i64 a9 ((0:Nat)+j.toNat*2+0) fun(b6:Int)=>aM (decide (b6<0)) (Q (yK a b) h) (aM (a7F g) (aC (d2P len j) (aF h m fun b9=>aK .i64 b9 (e2R j) fun a2=>Q (.tuple [.agg [.int .i64 ((cP a b 0 (e8L a2)).1),iI ((cP a b 0 (e8L a2)).2)],IV.bool (dU a b 0 (e8L a2))]) h)) (aM (r==n) (aC (d2P len j) (aF h m fun b8=>aK .i64 b8 (e2R j) fun O=>bJ O/\aM (!Prod.snd (upB O (lM g))) (Q a0D h) (Q (.tuple [.agg [.int .i64 ((cP a b ((c4M g O).1) ((c4M g O).2)).1),iI ((cP a b ((c4M g O).1) ((c4M g O).2)).2)],IV.bool (dU a b ((c4M g O).1) ((c4M g O).2))]) h))) (aM (j==n) (aC (decide (0<=r) &&decide (r< (len:Int))) (aF h m fun b2=>aK .i64 b2 ((0:Nat)+r.toNat*2+0) fun T=>bJ T/\aM (!Prod.snd (frB T (lM g))) (Q a0D h) (Q (.tuple [.agg [.int .i64 ((cP a b ((c4N g T).1) ((c4N g T).2)).1),iI ((cP a b ((c4N g T).1) ((c4N g T).2)).2)],IV.bool (dU a b ((c4N g T).1) ((c4N g T).2))]) h))) (Q (yK a b) h))))))) (aM (a7F g) (aC (d2P len j) (aF h m fun c0=>aK .i64 c0 (e2R j) fun a3=>Q (.tuple [.agg [.int .i64 ((cP a b 0 (e8M a3)).1),iI ((cP a b 0 (e8M a3)).2)],IV.bool (dU a b 0 (e8M a3))]) h)) (aM (r==n) (aC (d2P len j) (aF h m fun b0=>aK .i64 b0 (e2R j) fun D=>bJ D/\aM (!Prod.snd (upB D (lM g))) (Q a0D h) (Q (.tuple [.agg [.int .i64 ((cP a b ((c4O g D).1) ((c4O g D).2)).1),iI ((cP a b ((c4O g D).1) ((c4O g D).2)).2)],IV.bool (dU a b ((c4O g D).1) ((c4O g D).2))]) h))) (aM (j==n) (aC (decide (0<=r) &&decide (r< (len:Int))) (aF h m fun d0=>aK .i64 d0 ((0:Nat)+r.toNat*2+0) fun X=>bJ X/\aM (!Prod.snd (frB X (lM g))) (Q a0D h) (Q (.tuple [.agg [.int .i64 ((cP a b ((c4P g X).1) ((c4P g X).2)).1),iI ((cP a b ((c4P g X).1) ((c4P g X).2)).2)],IV.bool (dU a b ((c4P g X).1) ((c4P g X).2))]) h))) (Q (yK a b) h)))))))) (aC (e8H l9) (aK .i64 Z 0 fun p=>aC (e8I l9) (aK .i64 Z 1 fun i=>aM (a7F g) (aM (p !=n) (Q (yK a b) h) (aC (d2Q len i) (aF h m fun a8=>aK .i64 a8 ((0:Nat)+i.toNat*2+0) fun b1=>aM (decide (b1<0)) (Q (yK a b) h) (aM (a7F g) (aC (d2Q len i) (aF h m fun b7=>aK .i64 b7 (e2S i) fun a4=>Q (.tuple [.agg [.int .i64 ((cP a b 0 (e8N a4)).1),iI ((cP a b 0 (e8N a4)).2)],IV.bool (dU a b 0 (e8N a4))]) h)) (aM (p==n) (aC (d2Q len i) (aF h m fun c3=>aK .i64 c3 (e2S i) fun A=>bJ A/\aM (!Prod.snd (upB A (lM g))) (Q a0D h) (Q (.tuple [.agg [.int .i64 ((cP a b ((c4Q g A).1) ((c4Q g A).2)).1),iI ((cP a b ((c4Q g A).1) ((c4Q g A).2)).2)],IV.bool (dU a b ((c4Q g A).1) ((c4Q g A).2))]) h))) (aM (i==n) (aC (decide (0<=p) &&decide (p< (len:Int))) (aF h m fun c8=>aK .i64 c8 ((0:Nat)+p.toNat*2+0) fun G=>bJ G/\aM (!Prod.snd (frB G (lM g))) (Q a0D h) (Q (.tuple [.agg [.int .i64 ((cP a b ((a6E g G).1) ((a6E g G).2)).1),iI ((cP a b ((a6E g G).1) ((a6E g G).2)).2)],IV.bool (dU a b ((a6E g G).1) ((a6E g G).2))]) h))) (Q (yK a b) h))))))) (aM (a7F g) (aC (d2Q len i) (aF h m fun c7=>aK .i64 c7 (e2S i) fun a0=>Q (.tuple [.agg [.int .i64 ((cP a b 0 (c9J a0)).1),iI ((cP a b 0 (c9J a0)).2)],IV.bool (dU a b 0 (c9J a0))]) h)) (aM (p==n) (aC (d2Q len i) (aF h m fun c2=>aK .i64 c2 (e2S i) fun V=>bJ V/\aM (!Prod.snd (upB V (lM g))) (Q a0D h) (Q (.tuple [.agg [.int .i64 ((cP a b ((a6F g V).1) ((a6F g V).2)).1),iI ((cP a b ((a6F g V).1) ((a6F g V).2)).2)],IV.bool (dU a b ((a6F g V).1) ((a6F g V).2))]) h))) (aM (i==n) (aC (decide (0<=p) &&decide (p< (len:Int))) (aF h m fun c9=>aK .i64 c9 ((0:Nat)+p.toNat*2+0) fun Y=>bJ Y/\aM (!Prod.snd (frB Y (lM g))) (Q a0D h) (Q (.tuple [.agg [.int .i64 ((cP a b ((a6G g Y).1) ((a6G g Y).2)).1),iI ((cP a b ((a6G g Y).1) ((a6G g Y).2)).2)],IV.bool (dU a b ((a6G g Y).1) ((a6G g Y).2))]) h))) (Q (yK a b) h))))))))):=by kernel_rfl
theorem g4D: ∀xs h Q,e2P xs h Q->aU env 60 xs h Q:=by
 intro xs h Q g;unfold e2P at g;split at g
 ·rename_i id v f n d a b iR len;obtain⟨l,x,y,z,R,⟨hg,r,a2,Z⟩,hR,hd,g⟩:=g;refine aS (e2O) (g4C id v f n d a b iR len h Q) ?_;delta a0D yK lM d2O d2P d2Q e2Q e2R e2S e8H e8I a7F e8J c4I c4J e8K c4K c4L e8L c4M c4N e8M c4O c4P e8N c4Q a6E c9J a6F a6G wW iI;have tn: ∀x:Nat,(x:Int).toNat=x:=h0Z
  have O:d.toNat<l.length:=by omega
  obtain⟨h1,h2⟩:=zJ O hd.2.2.1;have a1:=hd.2.2.2;have hD:l.getD d.toNat default=l[d.toNat]:=cQ O;have K: ∀q:Int,(X:0<=q/\q<l.length)->gR R q=R[q.toNat]'(by omega)/\True/\bJ (gR R q).1/\bJ (gR R q).2:=fun q X=>⟨cQ (by omega),trivial,(hR q.toNat (by omega)).2⟩
  have m: ∀q:Int,(X:0<=q/\q<l.length)->(R.flatMap cR)[0+q.toNat*2+0]?=some (.int .i64 (gR R q).1)/\(R.flatMap cR)[0+q.toNat*2+1]?=some (.int .i64 (gR R q).2):=fun q X=>by
   rw [(K q X).1,h1Q];exact a3X (show q.toNat<R.length by omega)
  have i: ∀{p:Prop}[Decidable p]{A:Prop},p->A->aC (true&&decide p) A:=fun h a=>aA (by rw [decide_eq_true h];rfl) a
  refine aB hg (sA rfl (aP ⟨hd.1,by omega⟩ (a6X O rfl ?_)));unfold mC at g;dsimp only at g;rw [hD]at g;have Y:(l[d.toNat].op=17\/l[d.toNat].op=18\/l[d.toNat].op=19)->l[d.toNat].ks.length=2:=fun o=>by
   rcases h2 with⟨a3,_⟩| ⟨_,_,_,ha,_⟩
   ·omega
   ·unfold ar at ha;rw [if_neg (by omega),if_neg (by omega),if_pos (by omega)]at ha;omega
  by_cases o17:l[d.toNat].op=17\/l[d.toNat].op=18\/l[d.toNat].op=19
  case neg=>
   rw [if_pos ⟨fun q=>o17 (.inl q),fun q=>o17 (.inr (.inl q)),fun q=>o17 (.inr (.inr q))⟩]at g;refine aD (fun _=>aD (fun _=>aD (fun _=>g) (fun c=>?_)) (fun c=>?_)) (fun c=>?_)
   ·rw [bne_eq_false_iff_eq]at c;exact absurd (.inr (.inr c)) o17
   ·rw [bne_eq_false_iff_eq]at c;exact absurd (.inr (.inl c)) o17
   ·rw [bne_eq_false_iff_eq]at c;exact absurd (.inl c) o17
  have a0:=Y o17;have V:0<l[d.toNat].ks.length:=by omega
  have T:1<l[d.toNat].ks.length:=by omega
  have L:=h1 _ (h1B V);have D:=h1 _ (h1B T);have e0:l[d.toNat].ks.getD 0 0=l[d.toNat].ks[0]:=cQ V;have G:l[d.toNat].ks.getD 1 0=l[d.toNat].ks[1]:=cQ T;replace L:0<=l[d.toNat].ks[0]/\l[d.toNat].ks[0]< (l.length:Int):=⟨L.1,by omega⟩;replace D:0<=l[d.toNat].ks[1]/\l[d.toNat].ks[1]< (l.length:Int):=⟨D.1,by omega⟩;rcases o17 with o|o|o
  ·rw [o]at g⊢;rw [if_neg (by decide),if_neg (by decide)]at g;refine(bf rfl (i (by omega) (jM V rfl (i (by omega) (jM T rfl (bf rfl (bf rfl (aD (fun c=>?_) (fun c=>?_)))))))))
   ·rw [beq_iff_eq]at c;rw [if_pos (e0.trans c)]at g;refine aP ⟨D.1,by omega⟩ (aB r (bF (m l[d.toNat].ks[1] D).2 ⟨(K l[d.toNat].ks[1] D).2.2.2,?_⟩))
    cases u:(upB (gR R l[d.toNat].ks[1]).2 ((17:Int)==17)).2 with
    |true=>
     rw [G,u,if_pos rfl]at g;exact bf rfl g
    |false=>
     rw [G,u,if_neg (by decide)]at g;exact bt rfl g
   ·rw [beq_eq_false_iff_ne]at c;rw [if_neg (fun q=>c (e0.symm.trans q))]at g;refine aD (fun j=>?_) (fun j=>?_)
    ·rw [beq_iff_eq]at j;rw [if_pos (G.trans j)]at g;refine aP ⟨L.1,by omega⟩ (aB r (bF (m l[d.toNat].ks[0] L).1 ⟨(K l[d.toNat].ks[0] L).2.2.1,?_⟩))
     cases u:(frB (gR R l[d.toNat].ks[0]).1 ((17:Int)==17)).2 with
     |true=>
      rw [e0,u,if_pos rfl]at g;exact bf rfl g
     |false=>
      rw [e0,u,if_neg (by decide)]at g;exact bt rfl g
    ·rw [beq_eq_false_iff_ne]at j;rw [if_neg (fun q=>j (G.symm.trans q))]at g;exact g
  ·rw [o]at g⊢;rw [if_neg (by decide),if_neg (by decide)]at g;refine(bt rfl (bf rfl (i (by omega) (jM V rfl (i (by omega) (jM T rfl (bf rfl (bf rfl (aD (fun c=>?_) (fun c=>?_))))))))))
   ·rw [beq_iff_eq]at c;rw [if_pos (e0.trans c)]at g;refine aP ⟨D.1,by omega⟩ (aB r (bF (m l[d.toNat].ks[1] D).2 ⟨(K l[d.toNat].ks[1] D).2.2.2,?_⟩))
    cases u:(upB (gR R l[d.toNat].ks[1]).2 ((18:Int)==17)).2 with
    |true=>
     rw [G,u,if_pos rfl]at g;exact bf rfl g
    |false=>
     rw [G,u,if_neg (by decide)]at g;exact bt rfl g
   ·rw [beq_eq_false_iff_ne]at c;rw [if_neg (fun q=>c (e0.symm.trans q))]at g;refine aD (fun j=>?_) (fun j=>?_)
    ·rw [beq_iff_eq]at j;rw [if_pos (G.trans j)]at g;refine aP ⟨L.1,by omega⟩ (aB r (bF (m l[d.toNat].ks[0] L).1 ⟨(K l[d.toNat].ks[0] L).2.2.1,?_⟩))
     cases u:(frB (gR R l[d.toNat].ks[0]).1 ((18:Int)==17)).2 with
     |true=>
      rw [e0,u,if_pos rfl]at g;exact bf rfl g
     |false=>
      rw [e0,u,if_neg (by decide)]at g;exact bt rfl g
    ·rw [beq_eq_false_iff_ne]at j;rw [if_neg (fun q=>j (G.symm.trans q))]at g;exact g
  ·rw [o]at g⊢;rw [if_neg (by decide),if_pos rfl]at g;refine bt rfl (bt rfl (bf rfl (i (by omega) (jM V rfl (i (by omega) (jM T rfl (bt rfl (aD (fun c=>?_) (fun c=>?_)))))))))
   ·rw [bne_iff_ne]at c;rw [if_pos (.inl (fun q=>c (e0.symm.trans q)))]at g;exact g
   ·rw [bne_eq_false_iff_eq]at c;refine aP ⟨D.1,by omega⟩ (aB r (bF (m l[d.toNat].ks[1] D).1 ?_));refine dW (fun j=>?_) (fun j=>?_)
    ·rw [if_pos (.inr (by rw [G];exact j))]at g;exact g
    ·rw [if_neg (fun q=>q.elim (fun q=>q (e0.trans c)) (fun q=>j (by rw [G]at q;exact q))),G]at g;refine bt rfl (aP ⟨D.1,by omega⟩ (aB r (bF (m l[d.toNat].ks[1] D).2 ?_)));exact g
 ·exact g.elim
def e2T:=bB 60 e2P e2N
theorem e2U:aT env e2T:=aI g4D (e2O)
def f8P(xs:List IV)(h:Heap)(K:KT):Prop:=match xs with
 | [.agg [.int .i64 a,.int .i64 b],.ptr s 0,.ptr w 0]=> ∃o:Option Iv,vH h s w o/\s≠w/\∀h2:Heap,vH h2 s w (joG o (a,b))->(∀j,j≠s->j≠w->h2.get j=h.get j)->h2.next=h.next->K (.tuple []) h2
 |_=>False
theorem g9F(a b:Int)(s w:Nat)(h:Heap)(Q:KT):dF (aV e2T) env 101 dV bT bT [.agg [.int .i64 a,.int .i64 b],.ptr s 0,.ptr w 0] h Q=(
 aF h s fun r0=>iS r0 0 fun u=>aM u (aF h w fun l=>aK .i64 l 0 fun j=>aK .i64 l 1 fun r=>aF h w fun g=>aC (Nat.ble 2 g.length) (aF (h.set w (IObj.cells (iI (min j a)::iI (max r b)::List.drop 2 g))) s fun p=>aC (Nat.ble 1 p.length) (Q (.tuple []) ((h.set w (IObj.cells (iI (min j a)::iI (max r b)::List.drop 2 g))).set s (IObj.cells (IV.bool true::List.drop 1 p)))))) (aF h w fun i=>aC (Nat.ble 2 i.length) (aF (h.set w (IObj.cells (iI a::iI b::List.drop 2 i))) s fun m=>aC (Nat.ble 1 m.length) (Q (.tuple []) ((h.set w (IObj.cells (iI a::iI b::List.drop 2 i))).set s (IObj.cells (IV.bool true::List.drop 1 m))))))):=by kernel_rfl
theorem g9G: ∀xs h Q,f8P xs h Q->aU env 101 xs h Q:=by
 intro xs h Q i;unfold f8P at i;split at i
 ·rename_i a b s w;obtain⟨o,A,g,i⟩:=i;refine aS (e2U) (g9F a b s w h Q) ?_;delta iI;obtain⟨q,p,l,u⟩:=A;refine aB l (lG rfl (aD (fun c=>?_) (fun c=>?_)))
  ·have r:joG o (a,b)=some (min q.1 a,max q.2 b):=by
    cases o with
    |none=>cases c
    |some z=>rw [u z rfl];rfl
   rw [r]at i;exact aB p (bF rfl (bF rfl (aB p (aA rfl (aB ((aE g).trans l) (aA rfl (i _ ⟨(min q.1 a,max q.2 b),(aE g.symm).trans aH,aH,fun z m=>(h1M m).symm⟩ (fun j x y=>(aE x).trans (aE y)) rfl)))))))
  ·have r:joG o (a,b)=some (a,b):=by
    cases o with
    |none=>rfl
    |some z=>cases c
   rw [r]at i;exact aB p (aA rfl (aB ((aE g).trans l) (aA rfl (i _ ⟨(a,b),(aE g.symm).trans aH,aH,fun z m=>(h1M m).symm⟩ (fun j x y=>(aE x).trans (aE y)) rfl))))
 ·exact i.elim
def f8Q:=bB 101 f8P e2T
theorem f1B:aT env f8Q:=aI g9G (e2U)
def f8R(xs:List IV)(h:Heap)(K:KT):Prop:=match xs with
 | [.agg [.int .i64 a,.int .i64 b],.ptr s 0,.ptr r 0,.ptr w 0]=> ∃(o:Option Iv)(m:Nat),vH h s w o/\h.get r= .cells [.int .i64 (m:Int)]/\K (eI (pO o m (a,b))) h
 |_=>False
theorem g9H(a b:Int)(s r w:Nat)(h:Heap)(Q:KT):dF (aV f8Q) env 103 dV bT bT [.agg [.int .i64 a,.int .i64 b],.ptr s 0,.ptr r 0,.ptr w 0] h Q=(
 aF h s fun r0=>iS r0 0 fun y=>aM y (aF h r fun m=>aK .i64 m 0 fun j=>aM (decide (j>3)) (aF h w fun g=>aK .i64 g 0 fun p=>aK .i64 g 1 fun u=>aF h w fun i=>aK .i64 i 0 fun z=>aK .i64 i 1 fun l=>Q (.agg [.int .i64 (wlo p (min z a)),iI (whi u (max l b))]) h) (Q (.agg [.int .i64 a,iI b]) h)) (Q (.agg [.int .i64 a,iI b]) h)):=by kernel_rfl
theorem g9I: ∀xs h Q,f8R xs h Q->aU env 103 xs h Q:=by
 intro xs h Q g;unfold f8R at g;split at g
 ·rename_i a b s r w;obtain⟨o,m,A,u,g⟩:=g;refine aS (f1B) (g9H a b s r w h Q) ?_;delta iI;obtain⟨q,j,l,y⟩:=A;refine aB l (lG rfl (aD (fun c=>?_) (fun c=>?_)))
  ·cases o with
   |none=>cases c
   |some z=>
    obtain rfl:z=q:=y z rfl;refine aB u (bF rfl (dW (fun p=>?_) (fun p=>?_)))
    ·have i:pO (some z) m (a,b)=(wlo z.1 (min z.1 a),whi z.2 (max z.2 b)):=by
      unfold pO
      dsimp only;rw [if_pos (by omega)]
     rw [i]at g;exact aB j (bF rfl (bF rfl (aB j (bF rfl (bF rfl g)))))
    ·have i:pO (some z) m (a,b)=(a,b):=by
      unfold pO
      dsimp only;rw [if_neg (by omega)]
     rw [i]at g;exact g
  ·cases o with
   |none=>exact g
   |some z=>cases c
 ·exact g.elim
def f8S:=bB 103 f8R f8Q
theorem f1C:aT env f8S:=aI g9I (f1B)
def g9J(id:Nat)(l:List Nd)(g i:Nat)(kn:KnT)(un:UnT)(v f n d:Int)(r:Nat)(h:Heap):Inv':=hJ (Heap×UpN) (fun x=>[(0,.v (.ptr id 0)),(4,.l 4 0),(5,.v (.ptr x.2.i5 0)),(7,.v (.hslice x.2.iR 0 l.length 2)),(8,.v (.hslice x.2.iU 0 l.length 1)),(9,.v (.ptr x.2.i9 0)),(10,.v (.ptr x.2.i10 0))]) (fun x=>[(4,[.int .i64 v,.int .i64 f,.int .i64 n,.int .i64 d])]) (fun x=>x.1) (fun x=>UpS l kn un v r h x.1 x.2 x.1.next/\True) (fun _=>0)
def g9K(id:Nat)(l:List Nd)(g i:Nat)(kn:KnT)(un:UnT)(v f n d:Int)(r:Nat)(h:Heap):Inv':=hJ (Heap×UpN×Nat) (fun x=>[(0,.v (.ptr id 0)),(4,.l 4 0),(5,.v (.ptr x.2.1.i5 0)),(7,.v (.hslice x.2.1.iR 0 l.length 2)),(8,.v (.hslice x.2.1.iU 0 l.length 1)),(9,.v (.ptr x.2.1.i9 0)),(10,.v (.ptr x.2.1.i10 0)),(11,.v (.ptr x.2.1.i11 0)),(12,.v (.ptr x.2.1.i12 0)),(13,.v (.func (.func 101) [] [.ptr x.2.1.i12 0,.ptr x.2.1.i11 0])),(14,.v (.func (.func 103) [] [.ptr x.2.1.i10 0,.ptr x.2.1.i5 0,.ptr x.2.1.i9 0]))]) (fun x=>[(4,[.int .i64 v,.int .i64 f,.int .i64 n,.int .i64 d])]) (fun x=>x.1) (fun x=>UpS l kn un v r h x.1 x.2.1 x.2.2/\UpM x.1 x.2.1 x.2.2 (j1G l kn un v f r)) (fun _=>0)
def g4E(id:Nat)(l:List Nd)(g i:Nat)(kn:KnT)(un:UnT)(v f n d:Int)(r:Nat)(h:Heap):Inv':=hJ (Heap×UpN×Nat) (fun x=>[(0,.v (.ptr id 0)),(4,.l 4 0),(5,.v (.ptr x.2.1.i5 0)),(7,.v (.hslice x.2.1.iR 0 l.length 2)),(8,.v (.hslice x.2.1.iU 0 l.length 1)),(9,.v (.ptr x.2.1.i9 0)),(10,.v (.ptr x.2.1.i10 0)),(11,.v (.ptr x.2.1.i11 0)),(12,.v (.ptr x.2.1.i12 0)),(13,.v (.func (.func 101) [] [.ptr x.2.1.i12 0,.ptr x.2.1.i11 0])),(14,.v (.func (.func 103) [] [.ptr x.2.1.i10 0,.ptr x.2.1.i5 0,.ptr x.2.1.i9 0])),(15,.l 15 0),(16,.v (.bool (p2G l kn un v f n d r).2))]) (fun x=>[(4,[.int .i64 v,.int .i64 f,.int .i64 n,.int .i64 d]),(15,[.int .i64 (p2G l kn un v f n d r).1.1,.int .i64 (p2G l kn un v f n d r).1.2])]) (fun x=>x.1) (fun x=>UpS l kn un v r h x.1 x.2.1 x.2.2/\UpM x.1 x.2.1 x.2.2 (j1G l kn un v f r)/\gU (uG l un) n=false) (fun _=>0)
def g4F(id:Nat)(l:List Nd)(g i:Nat)(kn:KnT)(un:UnT)(v f n d:Int)(r:Nat)(h:Heap):Inv':=hJ (Heap×UpN×Nat) (fun x=>[(0,.v (.ptr id 0)),(4,.l 4 0),(9,.v (.ptr x.2.1.i9 0)),(10,.v (.ptr x.2.1.i10 0)),(11,.v (.ptr x.2.1.i11 0)),(12,.v (.ptr x.2.1.i12 0))]) (fun x=>[(4,[.int .i64 v,.int .i64 f,.int .i64 n,.int .i64 d])]) (fun x=>x.1) (fun x=>UpS l kn un v r h x.1 x.2.1 x.2.2/\UpM x.1 x.2.1 x.2.2 (sH l kn un ⟨v,f,n,d⟩ r)) (fun _=>0)
def f8T(xs:List IV)(h:Heap)(K:KT):Prop:=match xs with
 | [.ptr id 0,.agg [.int .i64 v,.int .i64 f,.int .i64 n,.int .i64 d],.int .i64 q]=> ∃(l:List Nd)(g i:Nat)(kn:KnT)(un:UnT)(r:Nat),(q=(r:Int)/\h.get id= .cells [.vslice none 0 (l).length 3 ((l).flatMap cN),.vslice none 0 (aG l).length 1 ((aG l).map (IV.int .i64)),.map g,.map i]/\id<h.next)/\AzS h l g (.map i) kn un/\g≠i/\LvS l f n d/\(tV l kn un ⟨v,f,n,d⟩ r=none-> ∀h2:Heap,(∀j,j<h.next->h2.get j=h.get j)->h.next<=h2.next->K (.bool false) h2)/\(∀y,tV l kn un ⟨v,f,n,d⟩ r=some y-> ∀h2:Heap,knS h2 g (zN kn v y)->unS h2 (.map i) (fun w=>if w=v then false else un w)->(∀j,j<h.next->j≠g->j≠i->h2.get j=h.get j)->h.next<=h2.next->K (.bool true) h2)
 |_=>False
def vY:=IObj.cells [iI 0,iI 0]
def a1Q:=IObj.cells [IV.bool false]
def b9A(h2:Heap):=(h2.push IObj.free).push IObj.free
def b3F(h2:Heap):=h2.next+1
def e2V(h2:Heap):=((b9A h2).set (h2.next) vY).set (b3F h2) a1Q
def a7G(g i:Int)(j:List IV):=IObj.cells (iI g::iI i::List.drop 2 j)
def b3G(v f n d:Int):=[iI v,iI f,iI n,iI d]
def b9B(i:Bool)(g:List IV):=IObj.cells (IV.bool i::List.drop 1 g)
def b3H:=TV.l 4 0
def b3I(id:Nat):=TV.v (.ptr id 0)
def f8U(h2:Heap)(g:List IV):=(e2V h2).set (h2.next) (IObj.cells (iI 0::iI 0::List.drop 2 g))
def d2R:=TypeDesc.int .i64
def e8O(r:Nat)(h:Heap):=h.push (IObj.cells [iI (r:Int)])
def uA(l:List Nd):=l.length
def f8V:=IV.agg [.int .i64 0,iI 0]
def c4R:=IV.bool false
def f8W(h2:Heap)(i j:Int)(g:List IV):=(e2V h2).set (h2.next) (IObj.cells (iI i::iI j::List.drop 2 g))
def d2S(v:Int):=iI v
def e8P:=Fn.func (101:FuncId)
def e8Q:=Fn.func (103:FuncId)
def e2W(d f n v:Int)(h h2:Heap)(m j id r:Nat)(kn:KnT)(l i:List Nd)(un:UnT)(p:Heap):Prop:= ∃(g:Heap×UpN),some (b3I id)=some (b3I id)/\some b3H=some b3H/\some (TV.v (.ptr (h.next) 0))=some (TV.v (.ptr (UpN.i5 g.2) 0))/\some (TV.v (.hslice m 0 i.length 2))=some (TV.v (.hslice (UpN.iR g.2) 0 (uA l) 2))/\some (TV.v (.hslice j 0 i.length 1))=some (TV.v (.hslice
 (UpN.iU g.2) 0 (uA l) 1))/\some (TV.v (.ptr (h2.next) 0))=some (TV.v (.ptr (UpN.i9 g.2) 0))/\some (TV.v (.ptr (b3F h2) 0))=some (TV.v (.ptr (UpN.i10 g.2) 0))/\some (b3G v f n d)=some (b3G v f n d)/\p=g.1/\(UpS l kn un v r h g.1 g.2 (g.1.next)/\True)/\True
def e2X(d f n v:Int)(h:Heap)(id r:Nat)(kn:KnT)(l:List Nd)(un:UnT)(x:Heap×UpN)(i:Heap):Prop:= ∃(g:Heap×UpN×Nat),some (b3I id)=some (b3I id)/\some b3H=some b3H/\some (TV.v (.ptr (UpN.i5 x.2) 0))=some (TV.v (.ptr (UpN.i5 g.2.1) 0))/\some (TV.v (.hslice (UpN.iR x.2) 0 (uA l) 2))=some (TV.v (.hslice (UpN.iR g.2.1) 0 (uA l) 2))/\some (TV.v (.hslice (UpN.iU x.2) 0 (uA
 l) 1))=some (TV.v (.hslice (UpN.iU g.2.1) 0 (uA l) 1))/\some (TV.v (.ptr (UpN.i9 x.2) 0))=some (TV.v (.ptr (UpN.i9 g.2.1) 0))/\some (TV.v (.ptr (UpN.i10 x.2) 0))=some (TV.v (.ptr (UpN.i10 g.2.1) 0))/\some (TV.v (.ptr (x.1.next) 0))=some (TV.v (.ptr (UpN.i11 g.2.1) 0))/\some (TV.v
 (.ptr (x.1.next+1) 0))=some (TV.v (.ptr (UpN.i12 g.2.1) 0))/\some (TV.v (.func (Fn.func 101) [] [IV.ptr (x.1.next+1) 0,IV.ptr (x.1.next) 0]))=some (TV.v (.func e8P [] [IV.ptr (UpN.i12 g.2.1) 0,IV.ptr (UpN.i11 g.2.1) 0]))/\some (TV.v (.func (Fn.func 103)
 [] [IV.ptr (UpN.i10 x.2) 0,IV.ptr (UpN.i5 x.2) 0,IV.ptr (UpN.i9 x.2) 0]))=some (TV.v (.func e8Q [] [IV.ptr (UpN.i10 g.2.1) 0,IV.ptr (UpN.i5 g.2.1) 0,IV.ptr (UpN.i9 g.2.1) 0]))/\some (b3G v f n d)=some (b3G v f n d)/\i=g.1/\(UpS l kn un v r h g.1 g.2.1 g.2.2/\UpM g.1 g.2.1 g.2.2
 (j1G l kn un v f r))/\True
def c9K(d f n v:Int)(h:Heap)(id r:Nat)(kn:KnT)(l:List Nd)(un:UnT)(x:Heap×UpN×Nat)(j:Bool)(i:List IV):Prop:= ∃(g:Heap×UpN×Nat),some (b3I id)=some (b3I id)/\some b3H=some b3H/\some (TV.v (.ptr (UpN.i5 x.2.1) 0))=some (TV.v (.ptr (UpN.i5 g.2.1) 0))/\some (TV.v (.hslice (UpN.iR x.2.1) 0 (uA l) 2))=some (TV.v (.hslice (UpN.iR g.2.1) 0 (uA l) 2))/\some (TV.v (.hslice (UpN.iU x.2.1)
 0 (uA l) 1))=some (TV.v (.hslice (UpN.iU g.2.1) 0 (uA l) 1))/\some (TV.v (.ptr (UpN.i9 x.2.1) 0))=some (TV.v (.ptr (UpN.i9 g.2.1) 0))/\some (TV.v (.ptr (UpN.i10 x.2.1) 0))=some (TV.v (.ptr (UpN.i10 g.2.1) 0))/\some (TV.v (.ptr (UpN.i11 x.2.1) 0))=some (TV.v (.ptr (UpN.i11 g.2.1) 0))
 /\some (TV.v (.ptr (UpN.i12 x.2.1) 0))=some (TV.v (.ptr (UpN.i12 g.2.1) 0))/\some (TV.v (.func e8P [] [IV.ptr (UpN.i12 x.2.1) 0,IV.ptr (UpN.i11 x.2.1) 0]))=some (TV.v (.func e8P [] [IV.ptr (UpN.i12 g.2.1) 0,IV.ptr (UpN.i11 g.2.1) 0]))/\some (TV.v (.func e8Q [] [IV.ptr (UpN.i10 x.2.1) 0,
 IV.ptr (UpN.i5 x.2.1) 0,IV.ptr (UpN.i9 x.2.1) 0]))=some (TV.v (.func e8Q [] [IV.ptr (UpN.i10 g.2.1) 0,IV.ptr (UpN.i5 g.2.1) 0,IV.ptr (UpN.i9 g.2.1) 0]))/\some (TV.l 15 0)=some (TV.l 15 0)/\some (TV.v (.bool (j)))=some (TV.v (.bool ((p2G l kn un v f n d r).2)))/\some (b3G v f
 n d)=some (b3G v f n d)/\some (i)=some [iI (((p2G l kn un v f n d r).1).1),iI (((p2G l kn un v f n d r).1).2)]/\x.1=g.1/\(UpS l kn un v r h g.1 g.2.1 g.2.2/\UpM g.1 g.2.1 g.2.2 (j1G l kn un v f r)/\gU (uG l un) n=false)/\True
def c9L(d f n v:Int)(h:Heap)(id r:Nat)(kn:KnT)(l:List Nd)(un:UnT)(x:Heap×UpN×Nat)(i:Heap):Prop:= ∃(g:Heap×UpN×Nat),some (b3I id)=some (b3I id)/\some b3H=some b3H/\some (TV.v (.ptr (UpN.i9 x.2.1) 0))=some (TV.v (.ptr (UpN.i9 g.2.1) 0))/\some (TV.v (.ptr (UpN.i10 x.2.1) 0))=some (TV.v (.ptr (UpN.i10 g.2.1) 0))/\some (TV.v (.ptr (UpN.i11 x.2.1) 0))=some (TV.v (.ptr (UpN.i11
 g.2.1) 0))/\some (TV.v (.ptr (UpN.i12 x.2.1) 0))=some (TV.v (.ptr (UpN.i12 g.2.1) 0))/\some (b3G v f n d)=some (b3G v f n d)/\i=g.1/\(UpS l kn un v r h g.1 g.2.1 g.2.2/\UpM g.1 g.2.1 g.2.2 (sH l kn un (LV.mk v f n d) r))/\True
theorem g9L(id:Nat)(l:List Nd)(mk mU:Nat)(kn:KnT)(un:UnT)(v f n d:Int)(r:Nat)(h:Heap)(Q:KT):dF (aV f8S) env 55 dV bT (icS (icA 4 (g9J id l mk mU kn un v f n d r h) (icA 9 (g9K id l mk mU kn un v f n d r h) (icA 13 (g4E id l mk mU kn un v f n d r h) (icA 15 (g4F id l mk mU kn un v f n d r h) bT))))) [.ptr id 0,.agg [.int .i64 v,.int .i64 f,.int .i64 n,.int .i64 d],.int .i64 (r:Int)] h Q=(
 (∃(g:List Nd),∃(mk:Nat),∃(mu:IV),∃(a4:Int->Option Iv),∃(a2:Int->Bool),((e8O r h).get id=IObj.cells [IV.vslice none 0 g.length 3 (List.flatMap cN g),IV.vslice none 0 ((aG g).length) 1 (List.map (IV.int .i64) (aG g)),IV.map mk,mu]/\id<h.next+1)/\AzS (e8O r h) g mk mu a4 a2/\∀(h2:Heap)(iR iU:Nat),h2.get iR=IObj.cells (List.flatMap cR (rG g a4))->Heap.get h2 iU=IObj.cells (List.map IV.bool (uG g a2))->Heap.next h+1<=iR/\iR<h2.next/\Heap.next h+1<=iU/\iU<h2.next/\iR≠iU->(∀(j:Nat),j<h.next+1->Heap.get h2 j=(e8O r h).get j)->aF (b9A h2) id fun r0=>qY r0 2 fun(i1:Nat)=>fV (b9A h2) i1 d2R (d2S v) (fun r2=>a1B 2 r2 0 fun x3=>aK .i64 x3 0 fun n4=>aK .i64 x3 1 fun n5=>yY (b9A h2) (h2.next) (yY ((b9A h2).set (h2.next) vY) (b3F h2) (aF (e2V h2) (h2.next) fun r6=>aC (Nat.ble 2 (r6.length)) (aF (f8W h2 n4 n5 r6) (b3F h2) fun r7=>aC (Nat.ble 1 r7.length) (e2W d f n v h h2 iR iU id r kn l g un ((f8W h2 n4 n5 r6).set (b3F h2) (IObj.cells (IV.bool true::List.drop 1 r7)))))))) (yY (b9A h2) (h2.next) (yY ((b9A h2).set (h2.next) vY) (b3F h2) (aF (e2V h2) (h2.next) fun r8=>aC (Nat.ble 2 r8.length) (aF (f8U h2 r8) (b3F h2) fun r9=>aC (Nat.ble 1 r9.length) (e2W d f n v h h2 iR iU id r kn l g un ((f8U h2 r8).set (b3F h2) (IObj.cells (IV.bool false::List.drop 1 r9)))))))))/\(∀(x:Heap×UpN)(b:FF),UpS l kn un v r h x.1 x.2 (x.1.next)/\True->aF ((x.1.push IObj.free).push IObj.free) (UpN.i9 x.2) fun b6=>aK .i64 b6 0 fun L=>aK .i64 b6 1 fun K=>aF ((x.1.push IObj.free).push IObj.free) (UpN.i10 x.2) fun b9=>iS b9 0 fun X=>yY ((x.1.push IObj.free).push IObj.free) ((x.1).next) (yY (((x.1.push IObj.free).push IObj.free).set (x.1.next) vY) (x.1.next+1) (aF ((((x.1.push IObj.free).push IObj.free).set (x.1.next) vY).set (x.1.next+1) a1Q) (x.1.next) fun u=>aC (Nat.ble 2 u.length) (aY (((((x.1.push IObj.free).push IObj.free).set (x.1.next) vY).set (x.1.next+1) a1Q).set (x.1.next) (a7G L K u)) (UpN.i10 x.2) 0=aY ((x.1.push IObj.free).push IObj.free) (UpN.i10 x.2) 0/\aF (((((x.1.push IObj.free).push IObj.free).set (x.1.next) vY).set (x.1.next+1) a1Q).set (x.1.next) (a7G L K u)) (x.1.next+1) fun T=>aC (Nat.ble 1 T.length) (aC (decide (0<=f) &&decide (f< ((uA l):Int))) (aF ((((((x.1.push IObj.free).push IObj.free).set (x.1.next) vY).set (x.1.next+1) a1Q).set (x.1.next) (a7G L K u)).set (x.1.next+1) (b9B X T)) (UpN.iU x.2) fun c1=>iS c1 ((0:Nat)+f.toNat*1) fun d6=>aM (!d6) (aC (decide (0<=f) &&decide (f< ((uA l):Int))) (aF ((((((x.1.push IObj.free).push IObj.free).set (x.1.next) vY).set (x.1.next+1) a1Q).set (x.1.next) (a7G L K u)).set ((x.1).next+1) (b9B X T)) (UpN.iR x.2) fun b4=>aK .i64 b4 ((0:Nat)+f.toNat*2) fun a7=>aK .i64 b4 ((0:Nat)+f.toNat*2+1) fun b5=> ∃(o:Option Iv),∃(m:Nat),vH ((((((x.1.push IObj.free).push IObj.free).set (x.1.next) vY).set (x.1.next+1) a1Q).set (x.1.next) (a7G L K u)).set (x.1.next+1) (b9B X T)) (UpN.i10 x.2) (UpN.i9 x.2) o/\Heap.get ((((((x.1.push IObj.free).push IObj.free).set (x.1.next) vY).set (x.1.next+1) a1Q).set (x.1.next) (a7G L K u)).set (x.1.next+1) (b9B X T)) (UpN.i5 x.2)=IObj.cells [iI (m:Int)]/\∃(b1:Option Iv),vH ((((((x.1.push IObj.free).push IObj.free).set (x.1.next) vY).set (x.1.next+1) a1Q).set (x.1.next) (a7G L K u)).set (x.1.next+(1:Nat)) (b9B X T)) (x.1.next+1) (x.1.next) b1/\Heap.next x.1+1≠Heap.next x.1/\∀(h2:Heap),vH h2 (x.1.next+1) (x.1.next) (joG b1 ((pO o m (a7,b5)).1,(pO o m (a7,b5)).2))->(∀(j:Nat),j≠Heap.next x.1+1->j≠Heap.next x.1->Heap.get h2 j=((((((x.1.push IObj.free).push IObj.free).set (x.1.next) vY).set (x.1.next+1) a1Q).set (x.1.next) (a7G L K u)).set (x.1.next+1) (b9B X T)).get j)->Heap.next h2=(Heap.reserve._f x.1 Nat.zero PUnit.unit).next+1+1->e2X d f n v h id r kn l un x h2)) (e2X d f n v h id r kn l un x ((((((x.1.push IObj.free).push IObj.free).set (x.1.next) vY).set (x.1.next+1) a1Q).set (x.1.next) (a7G L K u)).set (x.1.next+1) (b9B X T)))))))))/\(∀(x:Heap×UpN×Nat)(b:FF),UpS l kn un v r h (x.1) x.2.1 x.2.2/\UpM x.1 x.2.1 x.2.2 (j1G l kn un v f r)->aC (decide (0<=n) &&decide (n< ((uA l):Int))) (aF x.1 (UpN.iU x.2.1) fun e8=>iS e8 ((0:Nat)+n.toNat*1) fun e7=>aM (!e7) (aC (decide (0<=n) &&decide (n< ((uA l):Int))) (aF x.1 (UpN.iR x.2.1) fun a6=>aK .i64 a6 ((0:Nat)+n.toNat*2) fun A=>aK .i64 a6 ((0:Nat)+n.toNat*2+1) fun p=> ∃(o:Option Iv),∃(m:Nat),vH x.1 (UpN.i10 x.2.1) (UpN.i9 x.2.1) o/\Heap.get x.1 (UpN.i5 x.2.1)=IObj.cells [iI (m:Int)]/\(aF (x.1) (UpN.i5 x.2.1) fun d8=>aK .i64 d8 0 fun e6=>aM (decide (e6<=12)) (aC (decide (0<=d) &&decide (d< ((uA l):Int))) (aF x.1 (UpN.iU x.2.1) fun c7=>iS c7 ((0:Nat)+d.toNat*1) fun e5=>aM (!e5) (∃(g:List Nd),∃(c0 y z:IV),∃(R:List Iv),(x.1.get id=IObj.cells [IV.vslice none 0 g.length 3 (List.flatMap cN g),c0,y,z]/\Heap.get x.1 (UpN.iR (x.2.1))=IObj.cells (List.flatMap cR R)/\R.length=g.length/\l.length=g.length)/\(∀(i:Nat),i<g.length->Prod.fst (List.getD R i ((0:Int),(0:Int)))<=Prod.snd (List.getD R i ((0:Int),(0:Int)))/\dB (List.getD R i ((0:Int),(0:Int))))/\(0<=d/\d< (g.length:Int)/\List.getD (aG g) d.toNat 0=1/\g.length<=100000)/\c9K d f n v h id r kn l un x ((mC g (LV.mk v f n d) ((pO o m (A,p)).1,(pO o m (A,p)).2) R).2) [iI (((mC g (LV.mk v f n d) ((pO o m (A,p)).1,(pO o m (A,p)).2) R).1).1),iI (((mC g (LV.mk v f n d) ((pO o m (A,p)).1,(pO o m (A,p)).2) R).1).2)]) (c9K d f n v h id r kn l un x true [iI ((pO o m (A,p)).1),iI ((pO o m (A,p)).2)]))) (c9K d f n v h id r kn l un x true [iI ((pO o m (A,p)).1),iI ((pO o m (A,p)).2)]))/\∀(x:Heap×UpN×Nat)(b:FF),UpS l kn un v r h x.1 (x.2.1) x.2.2/\UpM x.1 x.2.1 x.2.2 (j1G l kn un v f r)/\gU (uG l un) n=false->aM ((p2G l kn un v f n d r).2) (∃(o:Option Iv),vH x.1 (UpN.i12 x.2.1) (UpN.i11 x.2.1) o/\UpN.i12 x.2.1≠UpN.i11 x.2.1/\∀(h2:Heap),vH h2 (UpN.i12 x.2.1) (UpN.i11 x.2.1) (joG o (((p2G l kn un v f n d r).1).1,((p2G l kn un v f n d r).1).2))->(∀(j:Nat),j≠UpN.i12 ((x.2).1)->j≠UpN.i11 x.2.1->Heap.get h2 j=x.1.get j)->Heap.next h2=x.1.next->c9L d f n v h id r kn l un x h2) (c9L d f n v h id r kn l un x x.1))) (c9L d f n v h id r kn l un x x.1)))/\(∀(x:Heap×UpN×Nat)(b:FF),UpS l kn un v r h x.1 x.2.1 x.2.2/\UpM x.1 x.2.1 x.2.2 (sH l kn un (LV.mk v f n d) r)->aF x.1 (UpN.i12 x.2.1) fun d4=>iS d4 0 fun e9=>aM (!e9) (Q c4R x.1) (aF x.1 (UpN.i10 x.2.1) fun c3=>iS c3 0 fun e2=>aM e2 (aF x.1 (UpN.i11 x.2.1) fun a8=>aK .i64 a8 0 fun e3=>aK .i64 a8 1 fun e1=>aF x.1 (UpN.i9 x.2.1) fun b0=>aK .i64 b0 0 fun d3=>aK .i64 b0 1 fun d2=>aM (e3==d3&& (e1==d2&&true)) (Q c4R x.1) (aF x.1 id fun d7=>qY d7 2 fun(D:Nat)=>aF x.1 id fun c2=>qY c2 3 fun(Z:Nat)=>aF x.1 (UpN.i11 x.2.1) fun b2=>aK .i64 b2 0 fun c8=>aK .i64 b2 1 fun e4=>b4N x.1 D d2R (d2S v) f8V fun(f2:IV)(d1:Nat)(O:List (IV×IV))=>(x.1.set D (IObj.map O)).get (UpN.i11 x.2.1)=x.1.get (UpN.i11 x.2.1)/\a0M (x.1.set D (IObj.map O)) D (d1:Int) (IV.agg [.int .i64 c8,iI e4]) fun(a0:List (IV×IV))=>b4N ((x.1.set D (IObj.map O)).set D (IObj.map a0)) Z d2R (d2S v) c4R fun(f1:IV)(c6:Nat)(a5:List (IV×IV))=>a0M (((x.1.set D (IObj.map O)).set D (IObj.map a0)).set Z (IObj.map a5)) Z (c6:Int) c4R fun(b7:List (IV×IV))=>Q (.bool true) ((((x.1.set D (IObj.map O)).set D (IObj.map a0)).set Z (IObj.map a5)).set Z (IObj.map b7)))) (aF x.1 id fun(b8:List IV)=>qY b8 2 fun(G:Nat)=>aF x.1 id fun d0=>qY d0 3 fun(Y:Nat)=>aF x.1 (UpN.i11 x.2.1) fun a9=>aK .i64 a9 0 fun d5=>aK .i64 a9 1 fun d9=>b4N x.1 G d2R (d2S v) f8V fun(f0:IV)(c5:Nat)(V:List (IV×IV))=>(x.1.set G (IObj.map V)).get (UpN.i11 x.2.1)=x.1.get (UpN.i11 x.2.1)/\a0M (x.1.set G (IObj.map V)) G (c5:Int) (IV.agg [.int .i64 d5,iI d9]) fun(a1:List (IV×IV))=>b4N ((x.1.set G (IObj.map V)).set G (IObj.map a1)) Y d2R (d2S v) c4R fun(f3:IV)(c9:Nat)(a3:List (IV×IV))=>a0M (((x.1.set G (IObj.map V)).set G (IObj.map a1)).set Y (IObj.map a3)) Y (c9:Int) c4R fun(b3:List (IV×IV))=>Q (.bool true) ((((x.1.set G (IObj.map V)).set G (IObj.map a1)).set Y (IObj.map a3)).set Y (IObj.map b3)))))/\True):=by kernel_rfl
theorem g9M: ∀xs h Q,f8T xs h Q->aU env 55 xs h Q:=by
 intro xs h Q hk;unfold f8T at hk;split at hk
 ·rename_i id v f n d q;obtain⟨l,mk,K,kn,un,r,⟨rfl,hb⟩,hw,u,b8,a8,b4⟩:=hk;refine aS (f1C) (g9L id l mk K kn un v f n d r h Q) ?_;delta e2W e2X c9K c9L vY e2V a7G b3G a1Q b9B b9A b3H b3I f8U d2R b3F e8O uA f8V c4R f8W d2S e8P e8Q iI;obtain⟨hg,O⟩:=hb;have c9:=hw;obtain⟨hL,b2,⟨c8,L⟩,⟨c1,b9⟩,a7,b0⟩:=(show AzS h l mk (.map K) kn un from hw);have Z:K<h.next:=b9 K rfl;obtain⟨b6,k1,k2⟩:=c8;obtain⟨m',c7,e',u2,u3⟩: ∃(m:Nat)(es:List (Int×Bool)),IV.map K= .map m/\h.get m= .map (cM IV.bool es)/\∀k,un k=(kG k es).getD false:=by
   rcases c1 with⟨q,_⟩|q
   ·cases q
   ·exact q
  obtain rfl:K=m':=by cases e';rfl
  obtain⟨lf,ln,ld⟩:=(show LvS l f n d from b8);have a6:=lH l kn;have a2:=f3D l un;refine⟨⟨l,mk,.map K,kn,un,⟨(aJ O).trans hg,h1T O⟩,⟨hL,b2,⟨⟨b6,(aJ L).trans k1,k2⟩,h1T L⟩,⟨.inr ⟨K,c7,rfl,(aJ Z).trans u2,u3⟩,fun m hm=>by cases hm;exact h1T Z⟩,a7,b0⟩,fun h2 iR iU eR eU ⟨n1,n2,n3,n4,n5⟩ fr=>?_⟩,?_,?_,?_⟩
  ·have a3: ∀j,j<h.next->((h2.push .free).push .free).get j=h.get j:=fun j A=>by
    rw [aJ (show j< (h2.push .free).next by show j<h2.next+1;omega),aJ (by omega),fr j (by omega),aJ A]
   have p2:((h2.push .free).push .free).get h2.next= .free:=by rw [aJ (show h2.next< (h2.push .free).next from h1G _),aR]
   have p3:((h2.push .free).push .free).get (h2.next+1)= .free:=aR;have D:h2.next≠h2.next+1:=by omega
   have fin: ∀q:Iv,(∀z,kn v=some z->z=q)->UpS l kn un v r h (xN h2 q.1 q.2 (kn v).isSome) ⟨h.next,iR,iU,h2.next,h2.next+1,0,0⟩ (xN h2 q.1 q.2 (kn v).isSome).next:=fun q hq=>
    ⟨(xO n2).trans eR,(xO n4).trans eU,(xO (show h.next<h2.next by omega)).trans ((fr _ (h1G _)).trans aR),b5W hq,⟨by show h.next<=iR;omega,by show h.next<=iU;omega,h1D _,by show h.next<=h2.next;omega,by show h.next<=h2.next+1;omega⟩,⟨by show iR<h2.next+2;omega,by show iU<h2.next+2;omega,by show h.next<h2.next+2;omega,by show h2.next<h2.next+2;omega,by show h2.next+1<h2.next+2;omega,h1D _⟩,fun j A=>(xO (by omega)).trans ((fr j (by omega)).trans (aJ A))⟩
   refine aB ((a3 id O).trans hg) (jY rfl ?_)
   cases e:kn v with
   |some q=>
    rw [e]at fin;exact eQ ((a3 mk L).trans k1) (cX ((k2 v).trans e)) (a4A rfl rfl (bF rfl (bF rfl (jD p2 (jD ((aE D.symm).trans p3) (aB ((aE D).trans aH) (aA rfl (aB ((aE D.symm).trans aH) (aA rfl ⟨(xN h2 q.1 q.2 true,⟨h.next,iR,iU,h2.next,h2.next+1,0,0⟩),rfl,rfl,rfl,rfl,rfl,rfl,rfl,rfl,rfl,⟨fin q (fun z hz=>(h1M hz).symm),trivial⟩,trivial⟩)))))))))
   |none=>
    rw [e]at fin;exact iV ((a3 mk L).trans k1) (eL ((k2 v).trans e)) (jD p2 (jD ((aE D.symm).trans p3) (aB ((aE D).trans aH) (aA rfl (aB ((aE D.symm).trans aH) (aA rfl ⟨(xN h2 0 0 false,⟨h.next,iR,iU,h2.next,h2.next+1,0,0⟩),rfl,rfl,rfl,rfl,rfl,rfl,rfl,rfl,rfl,⟨fin (0,0) (fun z hz=>by cases hz),trivial⟩,trivial⟩))))))
  ·rintro⟨g,x⟩ _ ⟨p,_⟩;have i:=(show UpS l kn un v r h g x g.next from p);obtain⟨l1,l2,l3,l4,l5,_⟩:=i.lt;obtain⟨q,w1,s1,e1⟩:=i.old;have pp: ∀j,j<g.next->((g.push .free).push .free).get j=g.get j:=fun j A=>by
    rw [aJ (show j< (g.push .free).next from h1T A),aJ A]
   have p2:((g.push .free).push .free).get g.next= .free:=by rw [aJ (show g.next< (g.push .free).next from h1G _),aR]
   have p3:((g.push .free).push .free).get (g.next+1)= .free:=aR;have D:g.next≠g.next+1:=by omega
   have G:=b5W (g:=g) e1;have gl: ∀j,j<g.next->(xN g q.1 q.2 (kn v).isSome).get j=g.get j:=fun j A=>xO A
   have a0: ∀b5 b3,UpS l kn un v r h (xN g q.1 q.2 (kn v).isSome) ⟨x.i5,x.iR,x.iU,x.i9,x.i10,b5,b3⟩ g.next:=fun b5 b3=>by
    have:=i.mono (g2:=xN g q.1 q.2 (kn v).isSome) gl (show g.next<=g.next+2 by omega);exact⟨this.R,this.U,this.r5,this.old,this.ge,this.lt,this.fr⟩
   refine aB ((pp _ l4).trans w1) (bF rfl (bF rfl (aB ((pp _ l5).trans s1) (lG rfl (jD p2 (jD ((aE D.symm).trans p3) (aB ((aE D).trans aH) (aA rfl ⟨?_,aB ((aE D.symm).trans aH) (aA rfl ?_)⟩))))))))
   ·unfold aY
    rw [aE (by(try dsimp only);omega),aE (by(try dsimp only);omega),aE (by(try dsimp only);omega)]
   refine aP lf (aB ((gl _ l2).trans i.U) (a4F (by rw [a2];exact lf) (by rw [h1Q,h1W]) (aD (fun c=>?_) (fun c=>?_))))
   ·rw [h2K]at c;have ej:j1G l kn un v f r=joG (kn v) (pO (kn v) r (gR (rG l kn) f)):=if_neg (by rw [c];decide);refine aP lf (aB ((gl _ l1).trans i.R) (a1L (by rw [a6];exact lf) (by rw [h1Q]) ⟨kn v,r,a0 0 0|>.old,(gl _ l3).trans i.r5,kn v,G,D.symm,fun h3 ho fr nx=>⟨(h3,⟨x.i5,x.iR,x.iU,x.i9,x.i10,g.next,g.next+1⟩,g.next),rfl,rfl,rfl,rfl,rfl,rfl,rfl,rfl,rfl,rfl,rfl,rfl,rfl,⟨(a0 g.next (g.next+1)).mono (fun j A=>fr j (by(try dsimp only);omega) (by(try dsimp only);omega)) (h6V nx.symm),by dsimp only;rw [ej];exact ho,⟨h1D _,h4E _,by rw [nx];show g.next<g.next+2;omega,by rw [nx];show g.next+1<g.next+2;omega,D.symm⟩⟩,trivial⟩⟩))
   ·rw [h3A]at c;have ej:j1G l kn un v f r=kn v:=if_pos c;exact⟨(xN g q.1 q.2 (kn v).isSome,⟨x.i5,x.iR,x.iU,x.i9,x.i10,g.next,g.next+1⟩,g.next),rfl,rfl,rfl,rfl,rfl,rfl,rfl,rfl,rfl,rfl,rfl,rfl,rfl,⟨a0 g.next (g.next+1),by dsimp only;rw [ej];exact G,⟨h1D _,h4E _,by show g.next<g.next+2;omega,by show g.next+1<g.next+2;omega,D.symm⟩⟩,trivial⟩
  ·rintro⟨g,x,b⟩ _ ⟨p,y⟩;have i:=(show UpS l kn un v r h g x b from p);have T:=(show UpM g x b (j1G l kn un v f r)from y);have eu:=d5Q l kn un v f n d r;have b1:g.get id=h.get id:=i.fr id O;refine aP ln (aB i.U (a4F (by rw [a2];exact ln) (by rw [h1Q,h1W]) (aD (fun c=>?_) (fun c=>?_))))
   ·rw [h2K]at c;rw [if_neg (by rw [c];decide)]at eu;refine aP ln (aB i.R (a1L (by rw [a6];exact ln) (by rw [h1Q]) ⟨kn v,r,i.old,i.r5,⟨?_,?_⟩⟩))
    ·refine aB i.r5 (bF rfl (dW (fun c2=>?_) (fun c2=>?_)))
     ·refine aP ⟨ld.1,ld.2.1⟩ (aB i.U (a4F (by rw [a2];exact⟨ld.1,ld.2.1⟩) (by rw [h1Q,h1W]) (aD (fun c3=>?_) (fun c3=>?_))))
      ·rw [h2K]at c3;have Y:p2G l kn un v f n d r=mC l ⟨v,f,n,d⟩ (pO (kn v) r (gR (rG l kn) n)) (rG l kn):=if_pos ⟨by omega,c3⟩;exact⟨l,_,_,_,rG l kn,⟨b1.trans hg,i.R,a6,rfl⟩,a4E b2 a7,⟨ld.1,ld.2.1,ld.2.2,hL.1⟩,⟨(g,x,b),rfl,rfl,rfl,rfl,rfl,rfl,rfl,rfl,rfl,rfl,rfl,rfl,(by rw [Y]),rfl,(by rw [Y]),rfl,⟨p,y,c⟩,trivial⟩⟩
      ·rw [h3A]at c3;have Y:p2G l kn un v f n d r=(pO (kn v) r (gR (rG l kn) n),true):=if_neg (fun q=>by rw [c3]at q;cases q.2);exact⟨(g,x,b),rfl,rfl,rfl,rfl,rfl,rfl,rfl,rfl,rfl,rfl,rfl,rfl,(by rw [Y]),rfl,(by rw [Y]),rfl,⟨p,y,c⟩,trivial⟩
     ·have Y:p2G l kn un v f n d r=(pO (kn v) r (gR (rG l kn) n),true):=if_neg (fun q=>by have:=q.1;omega);exact⟨(g,x,b),rfl,rfl,rfl,rfl,rfl,rfl,rfl,rfl,rfl,rfl,rfl,rfl,(by rw [Y]),rfl,(by rw [Y]),rfl,⟨p,y,c⟩,trivial⟩
    ·rintro⟨g,x,b⟩ _ ⟨p,y,_⟩;have i:=(show UpS l kn un v r h g x b from p);have T:=(show UpM g x b (j1G l kn un v f r)from y);obtain⟨l1,l2,l3,l4,l5,l6⟩:=i.lt;obtain⟨g1,g2,g3,g4,g5⟩:=T.ge;refine aD (fun c4=>?_) (fun c4=>?_)
     ·rw [if_pos c4]at eu;exact⟨j1G l kn un v f r,T.now,g5,fun h3 ho fr nx=>⟨(h3,x,b),rfl,rfl,rfl,rfl,rfl,rfl,rfl,rfl,⟨i.mono (fun j A=>fr j (by(try dsimp only);omega) (by(try dsimp only);omega)) (h6V nx.symm),by dsimp only;rw [eu];exact ho,⟨g1,g2,by rw [nx];exact g3,by rw [nx];exact g4,g5⟩⟩,trivial⟩⟩
     ·rw [if_neg (by rw [c4];decide)]at eu;exact⟨(g,x,b),rfl,rfl,rfl,rfl,rfl,rfl,rfl,rfl,⟨p,by dsimp only;rw [eu];exact T.now,T.ge⟩,trivial⟩
   ·rw [h3A]at c;rw [if_pos c]at eu;exact⟨(g,x,b),rfl,rfl,rfl,rfl,rfl,rfl,rfl,rfl,⟨p,by dsimp only;rw [eu];exact T.now,T.ge⟩,trivial⟩
  ·refine⟨?_,trivial⟩;rintro⟨g,x,b⟩ _ ⟨p,y⟩;have i:=(show UpS l kn un v r h g x b from p);have T:=(show UpM g x b (sH l kn un ⟨v,f,n,d⟩ r)from y);obtain⟨l1,l2,l3,l4,l5,l6⟩:=i.lt;obtain⟨g1,g2,g3,g4,g5⟩:=T.ge;obtain⟨o1,o2,o3,o4,o5⟩:=i.ge;have V:=(i.fr id O).trans hg;have gk:=i.fr mk L;have gu:=i.fr K Z;have X:h.next<=g.next:=by omega
   obtain⟨q,w1,s1,e1⟩:=T.now;refine aB s1 (lG rfl (aD (fun c=>?_) (fun c=>?_)))
   ·refine a8 ?_ g i.fr X;unfold tV
    cases e:sH l kn un ⟨v,f,n,d⟩ r with
    |none=>rfl
    |some z=>rw [e]at c;cases c
   ·have a1:sH l kn un ⟨v,f,n,d⟩ r=some q:=by
     cases e:sH l kn un ⟨v,f,n,d⟩ r with
     |none=>rw [e]at c;cases c
     |some z=>rw [e1 z e]
    obtain⟨q2,w2,s2,e2⟩:=i.old;refine aB s2 (lG rfl (aD (fun c5=>?_) (fun c5=>?_)))
    ·have a9:kn v=some q2:=by
      cases e:kn v with
      |none=>rw [e]at c5;cases c5
      |some z=>rw [e2 z e]
     refine aB w1 (bF rfl (bF rfl (aB w2 (bF rfl (bF rfl (aD (fun c6=>?_) (fun c6=>?_)))))))
     ·refine a8 ?_ g i.fr X;simp only [h1L,h0Y,beq_iff_eq]at c6;unfold tV
      rw [a1];show(if kn v=some q then none else some q)=none;rw [if_pos (by rw [a9];exact congrArg some (Prod.ext c6.1.symm c6.2.symm))]
     ·have hu:tV l kn un ⟨v,f,n,d⟩ r=some q:=by
       unfold tV
       rw [a1];show(if kn v=some q then none else some q)=some q;rw [if_neg (fun z=>by rw [a9,h0V]at z;subst z;simp at c6)]
      exact aB V (jY rfl (aB V (jY rfl (aB w1 (bF rfl (bF rfl (tO (e:=eI) q (gk.trans k1) (fun v0 n0 b7 hn he=>⟨aE (by(try dsimp only);omega),qI aH hn he (tO (e:=IV.bool) false ((aE u.symm).trans ((aE u.symm).trans (gu.trans u2))) (fun v1 n2 c0 a4 a5=>qI aH a4 a5 (b4 q hu _ ⟨_,(aE u).trans ((aE u).trans aH),fun k=>by rw [qH,k2 k];rfl⟩ (.inr ⟨K,_,rfl,aH,fun k=>by show(if k=v then false else un k)=_;rw [qH,u3 k];split<;>rfl⟩) (fun j A a b=>(aE b).trans ((aE b).trans ((aE a).trans ((aE a).trans (i.fr j A))))) X)))⟩))))))))
    ·have hu:tV l kn un ⟨v,f,n,d⟩ r=some q:=by
      unfold tV
      rw [a1];show(if kn v=some q then none else some q)=some q;rw [if_neg (fun z=>by rw [z]at c5;cases c5)]
     exact aB V (jY rfl (aB V (jY rfl (aB w1 (bF rfl (bF rfl (tO (e:=eI) q (gk.trans k1) (fun v0 n0 b7 hn he=>⟨aE (by(try dsimp only);omega),qI aH hn he (tO (e:=IV.bool) false ((aE u.symm).trans ((aE u.symm).trans (gu.trans u2))) (fun v1 n2 c0 a4 a5=>qI aH a4 a5 (b4 q hu _ ⟨_,(aE u).trans ((aE u).trans aH),fun k=>by rw [qH,k2 k];rfl⟩ (.inr ⟨K,_,rfl,aH,fun k=>by show(if k=v then false else un k)=_;rw [qH,u3 k];split<;>rfl⟩) (fun j A a b=>(aE b).trans ((aE b).trans ((aE a).trans ((aE a).trans (i.fr j A))))) X)))⟩))))))))
 ·exact hk.elim
def f8X:=bB 55 f8T f8S
theorem f1D:aT env f8X:=aI g9M (f1C)
theorem b9C(i:Option Nat)(e n:Nat)(c:List IV):nZ Go.Proofs.Tryz.prog 49 (.vslice i e n 3 c)= .vslice none 0 n 3 c:=by kernel_rfl
theorem b9D{h g:Heap}{m:Nat}{kn:KnT}(a:knS h m kn)(e:g.get m=h.get m):knS g m kn:=by
 obtain⟨i,j,l⟩:=a;exact⟨i,e.trans j,l⟩
theorem b9E{h g:Heap}{i:IV}{un:UnT}(a:unS h i un)(e: ∀m,i= .map m->g.get m=h.get m):unS g i un:=by
 rcases a with a| ⟨m,r,j,l,p⟩
 ·exact .inl a
 ·exact .inr ⟨m,r,j,(e m j).trans l,p⟩
def In1(l:List Nd)(g:Heap)(i:Nat):Prop:=g.get 2= .cells [.vslice none 0 (l).length 3 ((l).flatMap cN),.vslice none 0 (aG l).length 1 ((aG l).map (IV.int .i64)),.map 0,.map 1]/\g.get 0= .map []/\(∃es:List (Int×Bool),g.get 1= .map (cM IV.bool es)/\∀k,(kG k es).getD false=((aO l).take i).any (fun x=>decide (x.v=k)))/\3<=g.next
def InS(l:List Nd)(g:Heap)(kn:KnT):Prop:=g.get 2= .cells [.vslice none 0 (l).length 3 ((l).flatMap cN),.vslice none 0 (aG l).length 1 ((aG l).map (IV.int .i64)),.map 0,.map 1]/\knS g 0 kn/\unS g (.map 1) (unG (aO l) kn)/\3<=g.next
def RdN(l:List Nd)(n:Nat):Prop:= ∀m,m<n->(fM l (aO l) m).2=true
def in1(l:List Nd):Inv':=hJ (Nat×Heap) (fun x=>[(3,.v (.ptr 2 0)),(4,.v (.vslice none 0 (aO l).length 4 ((aO l).flatMap zK))),(32,.v (.vslice none 0 (aO l).length 4 ((aO l).flatMap zK))),(33,.v (.int .i64 ((aO l).length:Int))),(34,.v (.int .i64 (x.1:Int)))]) (fun _=>[]) (fun x=>x.2) (fun x=>x.1<=(aO l).length/\In1 l x.2 x.1) (fun x=>(aO l).length-x.1)
def in2(l:List Nd):Inv':=hJ (Nat×Heap) (fun x=>[(3,.v (.ptr 2 0)),(4,.v (.vslice none 0 (aO l).length 4 ((aO l).flatMap zK))),(7,.v (.int .i64 ((x.1+1:Nat):Int))),(8,.v (.bool (fM l (aO l) x.1).2))]) (fun _=>[]) (fun x=>x.2) (fun x=>RdN l x.1/\InS l x.2 (fM l (aO l) x.1).1) (fun x=>(13+3*(aO l).length-x.1)*2000000)
def in3(l:List Nd):Inv':=hJ (Nat×Nat×Heap) (fun x=>[(3,.v (.ptr 2 0)),(4,.v (.vslice none 0 (aO l).length 4 ((aO l).flatMap zK))),(7,.v (.int .i64 ((x.1+1:Nat):Int))),(8,.v (.bool (((aO l).take x.2.1).foldl (xM l (aO l) (x.1+1)) ((fM l (aO l) x.1).1,false)).2)),(48,.v (.vslice none 0 (aO l).length 4 ((aO l).flatMap zK))),(49,.v (.int .i64 ((aO l).length:Int))),(50,.v (.int .i64 (x.2.1:Int)))]) (fun _=>[]) (fun x=>x.2.2)
 (fun x=>(RdN l (x.1+1)/\x.2.1<=(aO l).length)/\InS l x.2.2 (((aO l).take x.2.1).foldl (xM l (aO l) (x.1+1)) ((fM l (aO l) x.1).1,false)).1) (fun x=>(13+3*(aO l).length-x.1)*2000000+((aO l).length-x.2.1))
def in4(l:List Nd):Inv':=hJ (Nat×Nat×Heap×IV) (fun x=>[(3,.v (.ptr 2 0)),(4,.v (.vslice none 0 (aO l).length 4 ((aO l).flatMap zK))),(11,.v x.2.2.2),(59,.v (.vslice none 0 (aO l).length 4 ((aO l).flatMap zK))),(60,.v (.int .i64 ((aO l).length:Int))),(61,.v (.int .i64 (x.2.1:Int)))]) (fun _=>[]) (fun x=>x.2.2.1)
 (fun x=>(RdN l x.1/\(fM l (aO l) x.1).2=false)/\x.2.1<=(aO l).length/\InS l x.2.2.1 (fM l (aO l) x.1).1/\OvC nS 3 3 x.2.2.1 x.2.2.2 (qJ ((aO l).take x.2.1) (fM l (aO l) x.1).1)) (fun x=>(aO l).length-x.2.1)
def e2Y(xs:List IV)(h:Heap)(K:KT):Prop:=match xs with
 | [.agg [g0,g1,.vslice none e0 n 3 c,g3,g4]]=> ∃l:List Nd,(n=l.length/\c=l.flatMap cN)/\(bL g0=true/\bL g1=true/\bL g3=true/\bL g4=true)/\LOk l/\(∀n∈l,bJ n.im)/\∀N,(∀m,m<N->(fM l (aO l) m).2=true)->(fM l (aO l) N).2=false->K (.vslice none 0 (qJ (aO l) (fM l (aO l) N).1).length 3 ((qJ (aO l) (fM l (aO l) N).1).flatMap nS)) h
 |_=>False
def yL(l:List Nd):=List.flatMap zK (aO l)
def b3J(l:List Nd):=(aO l).length
def kK(l:List Nd):=TV.v (.vslice none 0 (b3J l) 4 (yL l))
def d2T:=IV.int .i64
def b3K(l:List Nd):=[IV.vslice none 0 l.length 3 (List.flatMap cN l),IV.vslice none 0 ((aG l).length) 1 (List.map d2T (aG l)),IV.map 0,IV.map 1]
def a1R(l:List Nd):=TV.v (.int .i64 ((b3J l):Int))
def uB:=TV.v (.ptr 2 0)
def f8Y(g:List Nd):=TV.v (.vslice none 0 ((aO g).length) 4 (List.flatMap zK (aO g)))
def c4S:=IV.map 1
def e8R:=TV.v (.int .i64 0)
def e2Z:=TypeDesc.int .i64
def f8Z(g:Int):=[iI g,iI 0,iI 0]
def e3A(h2:Heap)(l:List Nd)(i:Nat×Nat×Heap)(j:Bool):Prop:= ∃(g:Nat×Nat×Heap),some uB=some uB/\some (kK l)=some (kK l)/\tI (↑(i.1+1):Int)=tI (↑(g.1+1):Int)/\some (TV.v (.bool (j)))=some (TV.v (.bool ((List.foldl (xM l (aO l) (g.1+1)) ((fM l (aO l) g.1).1,false) (List.take g.2.1 (aO l))).2)))
 /\some (kK l)=some (kK l)/\some (a1R l)=some (a1R l)/\tI (wW ((i.2.1:Int)+1))=tI (g.2.1:Int)/\h2=g.2.2/\(((∀(m:Nat),m<g.1+1->Prod.snd (fM l (aO l) m)=true)/\g.2.1<=List.length (aO l))/\Heap.get g.2.2 2=IObj.cells (b3K l)/\knS g.2.2 (0:
 Nat) ((List.foldl (xM l (aO l) (g.1+1)) ((fM l (aO l) g.1).1,false) (List.take g.2.1 (aO l))).1)/\unS g.2.2 c4S (unG (aO l) ((List.foldl (xM l (aO l) (g.1+1)) ((fM l (aO l) g.1).1,false) (List.take g.2.1 (aO l))).1))/\3<=Heap.next g.2.2)
 /\((13:Nat)+3*(aO l).length-g.1)*2000000+((aO l).length-g.2.1)< ((13:Nat)+3*(aO l).length-i.1)*2000000+((aO l).length-i.2.1)
def a9X(l:List Nd)(x:Nat×Nat×Heap×IV)(j:IV)(i:Heap):Prop:= ∃(g:Nat×Nat×Heap×IV),some uB=some uB/\some (kK l)=some (kK l)/\some (TV.v (j))=some (TV.v g.2.2.2)/\some (kK l)=some (kK l)/\some (a1R l)=some (a1R l)/\tI (wW ((x.2.1:Int)+1))=tI (g.2.1:Int)/\i=g.2.2.1/\(((∀(m:Nat),m<g.1->Prod.snd (fM
 l (aO l) m)=true)/\Prod.snd (fM l (aO l) g.1)=false)/\g.2.1<=List.length (aO l)/\(g.2.2.1.get 2=IObj.cells (b3K l)/\knS g.2.2.1 0 ((fM l (aO l) g.1).1)/\unS g.2.2.1 c4S (unG (aO l) ((fM l (aO l) g.1).1))/\3<=Heap.next g.2.2.1)
 /\OvC nS 3 3 g.2.2.1 g.2.2.2 (qJ (List.take g.2.1 (aO l)) ((fM l (aO l) g.1).1)))/\List.length (aO l)-g.2.1< (aO l).length-x.2.1
theorem g4G(l:List Nd)(g0 g1 g3 g4:IV)(e0:Nat)(h:Heap)(Q:KT):dF (aV f8X) env 23 dV (icA 5 (in1 l) (icA 10 (in2 l) (icA 1000014 (in3 l) (tK 21 (in4 l))))) bT [.agg [g0,g1,.vslice none e0 (l).length 3 ((l).flatMap cN),g3,g4]] h Q=(
 aC (aN [IV.agg [g0,g1,IV.vslice none 0 l.length 3 (List.flatMap cN l),g3,g4]]) (∃(z:List Nd),(l.length=z.length/\List.flatMap cN l=List.flatMap cN z)/\LOk z/\∃(p:List Nd),(l.length=p.length/\List.flatMap cN l=List.flatMap cN p)/\((aG z).length=p.length/\List.map d2T (aG z)=List.map d2T (aG p))/\LOk p/\(∃(x:Nat×Heap),some (TV.v (.ptr ((0:Nat)+1+1) 0))=some uB/\some (f8Y p)=some (kK l)/\some (f8Y p)=some (kK l)/\some (TV.v (iI (↑((aO p).length):Int)))=some (a1R l)/\some e8R=tI (x.1:Int)/\Heap.mk (PT.node (PT.node PT.nil (some (IObj.map [])) PT.nil) (some (IObj.map [])) (PT.node PT.nil (some (IObj.cells [IV.vslice none 0 l.length 3 (List.flatMap cN l),IV.vslice none 0 ((aG z).length) 1 (List.map d2T (aG z)),IV.map 0,IV.map ((0:Nat)+1)])) PT.nil)) ((0:Nat)+1+1+1)=x.2/\(x.1<=List.length (aO l)/\Heap.get (x.2) 2=IObj.cells (b3K l)/\Heap.get x.2 0=IObj.map []/\(∃(O:List (Int×Bool)),x.2.get 1=IObj.map (cM IV.bool O)/\∀(k:Int),Option.getD (kG k O) false=List.any (List.take x.1 (aO l)) fun(x:M14.LV)=>decide (LV.v x=k))/\3<=Heap.next x.2)/\True)/\∀(x:Nat×Heap)(b:FF),x.1<=List.length (aO l)/\In1 l x.2 x.1->aM (decide ((x.1:Int)< ((b3J l):Int))) (aC (decide (0<=(x.1:Int)) &&decide ((x.1:Int)< ((b3J l):Int))) (aK .i64 (yL l) ((x.1:Int).toNat*4) fun n0=>aK .i64 (yL l) ((x.1:Int).toNat*4+1) fun n1=>aK .i64 (yL l) ((x.1:Int).toNat*4+1+1) fun(n2:Int)=>aK .i64 (yL l) ((x.1:Int).toNat*4+1+1+1) fun n3=>aF x.2 2 fun r4=>qY r4 3 fun(i5:Nat)=>kS x.2 i5 e2Z (iI n0) (IV.bool true) fun(b6:List (IV×IV))=> ∃(g:Nat×Heap),some uB=some uB/\some (kK l)=some (kK l)/\some (kK l)=some (kK l)/\some (a1R l)=some (a1R l)/\tI (wW ((x.1:Int)+1))=tI ((g.1):Int)/\Heap.set x.2 i5 (IObj.map b6)=g.2/\(g.1<=List.length (aO l)/\Heap.get g.2 2=IObj.cells (b3K l)/\Heap.get g.2 0=IObj.map []/\(∃(O:List (Int×Bool)),g.2.get 1=IObj.map (cM IV.bool O)/\∀(k:Int),Option.getD (kG k O) false=List.any (List.take g.1 (aO l)) fun(x:M14.LV)=>decide (LV.v x=k))/\3<=Heap.next g.2)/\List.length (aO l)-g.1< (aO l).length-x.1)) ((∃(g:Nat×Heap),some uB=some uB/\some (kK l)=some (kK l)/\tI 1=tI (↑(g.1+1):Int)/\some (TV.v (.bool true))=some (TV.v (.bool ((fM l (aO l) g.1).2)))/\x.2=g.2/\((∀(m:Nat),m<g.1->Prod.snd (fM l (aO l) m)=true)/\Heap.get g.2 2=IObj.cells (b3K l)/\knS g.2 0 ((fM l (aO l) g.1).1)/\unS g.2 c4S (unG (aO l) ((fM l (aO l) g.1).1))/\3<=Heap.next g.2)/\True)/\∀(x:Nat×Heap)(b:FF),RdN l x.1/\InS l x.2 ((fM l (aO l) x.1).1)->aM ((fM l (aO l) x.1).2) (∃(M:Nat),(∃(g:Nat×Nat×Heap),some uB=some uB/\some (kK l)=some (kK l)/\tI (↑(x.1+(1:Nat)):Int)=tI (↑(g.1+1):Int)/\some (TV.v (.bool false))=some (TV.v (.bool ((List.foldl (xM l (aO l) (g.1+1)) ((fM l (aO l) g.1).1,false) (List.take g.2.1 (aO l))).2)))/\some (kK l)=some (kK l)/\some (a1R l)=some (a1R l)/\some e8R=tI (g.2.1:Int)/\x.2=g.2.2/\(((∀(m:Nat),m<g.1+1->Prod.snd (fM l (aO l) m)=true)/\g.2.1<=List.length (aO l))/\Heap.get g.2.2 2=IObj.cells (b3K l)/\knS g.2.2 0 ((List.foldl (xM l (aO l) (g.1+1)) ((fM l (aO l) g.1).1,false) (List.take g.2.1 (aO l))).1)/\unS g.2.2 c4S (unG (aO l) ((List.foldl (xM l (aO l) (g.1+1)) ((fM l (aO l) g.1).1,false) (List.take g.2.1 (aO l))).1))/\3<=Heap.next g.2.2)/\((13:Nat)+3*(aO l).length-g.1)*2000000+((aO l).length-g.2.1)<=M)/\∀(g:Nat×Nat×Heap)(b:FF),(RdN l (g.1+1)/\g.2.1<=List.length (aO l))/\InS l g.2.2 ((List.foldl (xM l (aO l) (g.1+1)) ((fM l (aO l) g.1).1,false) (List.take g.2.1 (aO l))).1)->((13:Nat)+3*(aO l).length-g.1)*2000000+((aO l).length-g.2.1)<=M->aM (decide ((g.2.1:Int)< ((b3J l):Int))) (aC (decide (0<=(g.2.1:Int)) &&decide ((g.2.1:Int)< ((b3J l):Int))) (aK .i64 (yL l) ((g.2.1:Int).toNat*4) fun V=>aK .i64 (yL l) (((g.2.1):Int).toNat*4+1) fun n8=>aK .i64 (yL l) ((g.2.1:Int).toNat*4+1+1) fun n9=>aK .i64 (yL l) ((g.2.1:Int).toNat*4+1+1+(1:Nat)) fun D=> ∃(u:List Nd),∃(T L:Nat),∃(kn:Int->Option Iv),∃(un:Int->Bool),∃(r:Nat),((↑(g.1+1):Int)=(r:Int)/\Heap.get g.2.2 2=IObj.cells [IV.vslice none 0 u.length 3 (List.flatMap cN u),IV.vslice none 0 ((aG u).length) 1 (List.map d2T (aG u)),IV.map T,IV.map L]/\2<g.2.2.next)/\AzS g.2.2 u T (IV.map L) kn un/\T≠L/\LvS u n8 n9 D/\(tV u kn un (LV.mk V n8 n9 D) r=none-> ∀(h2:Heap),(∀(j:Nat),j<g.2.2.next->Heap.get h2 j=g.2.2.get j)->Heap.next g.2.2<=Heap.next h2->e3A h2 l g ((List.foldl (xM l (aO l) (g.1+1)) ((fM l (aO l) g.1).1,false) (List.take g.2.1 (aO l))).2))/\∀(y:Iv),tV u kn un (LV.mk V n8 n9 D) r=some y-> ∀(h2:Heap),knS h2 T (zN kn V y)->(unS h2 (IV.map L) fun w=>if w=V then false else un w)->(∀(j:Nat),j< ((g.2).2).next->j≠T->j≠L->Heap.get h2 j=g.2.2.get j)->Heap.next g.2.2<=Heap.next h2->e3A h2 l g true)) (∃(i:Nat×Heap),some uB=some uB/\some (kK l)=some (kK l)/\tI (wW ((↑(g.1+1):Int)+1))=tI (↑(i.1+1):Int)/\some (TV.v (.bool ((List.foldl (xM l (aO l) (g.1+1)) ((fM l (aO l) g.1).1,false) (List.take g.2.1 (aO l))).2)))=some (TV.v (.bool ((fM l (aO l) i.1).2)))/\g.2.2=i.2/\((∀(m:Nat),m<i.1->Prod.snd (fM l (aO l) m)=true)/\Heap.get i.2 2=IObj.cells (b3K l)/\knS i.2 0 ((fM l (aO l) (i.1)).1)/\unS i.2 c4S (unG (aO l) ((fM l (aO l) i.1).1))/\3<=Heap.next i.2)/\((13:Nat)+3*(aO l).length-i.1)*2000000< ((13:Nat)+3*(aO l).length-x.1)*2000000)) ((∃(g:Nat×Nat×Heap×IV),some uB=some uB/\some (kK l)=some (kK l)/\some (TV.v IV.nilslice)=some (TV.v g.2.2.2)/\some (kK l)=some (kK l)/\some (a1R l)=some (a1R l)/\some e8R=tI (g.2.1:Int)/\x.2=g.2.2.1/\(((∀(m:Nat),m<g.1->Prod.snd (fM l (aO l) m)=true)/\Prod.snd (fM l (aO l) g.1)=false)/\g.2.1<=List.length (aO l)/\(g.2.2.1.get 2=IObj.cells (b3K l)/\knS g.2.2.1 0 ((fM l (aO l) g.1).1)/\unS g.2.2.1 c4S (unG (aO l) ((fM l (aO l) g.1).1))/\3<=Heap.next g.2.2.1)/\OvC nS 3 3 g.2.2.1 g.2.2.2 (qJ (List.take g.2.1 (aO l)) ((fM l (aO l) g.1).1)))/\True)/\∀(x:Nat×Nat×Heap×IV)(b:FF),(RdN l x.1/\Prod.snd (fM l (aO l) x.1)=false)/\Prod.fst x.2<=List.length (aO l)/\InS l x.2.2.1 ((fM l (aO l) x.1).1)/\OvC nS 3 3 x.2.2.1 x.2.2.2 (qJ (List.take x.2.1 (aO l)) ((fM l (aO l) (x.1)).1))->aM (decide ((x.2.1:Int)< ((b3J l):Int))) (aC (decide (0<=(x.2.1:Int)) &&decide ((x.2.1:Int)< ((b3J l):Int))) (aK .i64 (yL l) ((x.2.1:Int).toNat*4) fun(A:Int)=>aK .i64 (yL l) ((x.2.1:Int).toNat*4+1) fun d5=>aK .i64 (yL l) ((x.2.1:Int).toNat*4+1+1) fun d4=>aK .i64 (yL l) ((↑((x.2).1):Int).toNat*4+1+1+1) fun d3=>aF x.2.2.1 2 fun a6=>qY a6 3 fun(b1:Nat)=>fV x.2.2.1 b1 e2Z (iI A) (fun a8=>iS a8 0 fun d0=>aM (!d0) (aF x.2.2.1 2 fun b0=>qY b0 2 fun(a0:Nat)=>fV x.2.2.1 a0 e2Z (iI A) (fun c5=>a1B 2 c5 0 fun G=>aK .i64 G 0 fun X=>aK .i64 G 1 fun b3=>qT x.2.2.1 3 24 x.2.2.2 1 [iI A,iI X,iI b3] fun(d2 b7 a4:Nat)(a9:List IV)(c1:Heap)=>a9X l x (IV.vslice (some d2) b7 a4 3 a9) c1) (qT x.2.2.1 3 24 x.2.2.2 1 (f8Z A) fun(d1 Y b8:Nat)(a3:List IV)(c3:Heap)=>a9X l x (IV.vslice (some d1) Y b8 3 a3) c3)) (a9X l x x.2.2.2 x.2.2.1)) (aF x.2.2.1 2 fun a5=>qY a5 2 fun(Z:Nat)=>fV x.2.2.1 Z e2Z (iI A) (fun(b9:List IV)=>a1B 2 b9 0 fun K=>aK .i64 K 0 fun a7=>aK .i64 K 1 fun a2=>qT x.2.2.1 3 24 x.2.2.2 1 [iI A,iI a7,iI a2] fun(c9 a1 b2:Nat)(b5:List IV)(c6:Heap)=>a9X l x (IV.vslice (some c9) a1 b2 3 b5) c6) (qT x.2.2.1 3 24 x.2.2.2 1 (f8Z A) fun(c7 c0 c8:Nat)(b4:List IV)(c2:Heap)=>a9X l x (IV.vslice (some c7) c0 c8 3 b4) c2)))) (aC (aN [nZ Proofs.Tryz.prog 49 x.2.2.2]) (Q (eZ [nZ Proofs.Tryz.prog 49 x.2.2.2]) h)))))):=by kernel_rfl
theorem g4H: ∀xs h Q,e2Y xs h Q->aU env 23 xs h Q:=by
 intro xs h Q hk;unfold e2Y at hk;split at hk
 ·rename_i g0 g1 e0 n c g3 g4;obtain⟨l,⟨rfl,rfl⟩,hp,hL,a5,hk⟩:=hk;refine aS (f1D) (g4G l g0 g1 g3 g4 e0 h Q) ?_;delta e3A a9X kK b3K a1R uB yL f8Y c4S e8R e2Z f8Z b3J d2T tI wW iI;have T: ∀x:Nat,(x:Int).toNat=x:=h0Z
  obtain⟨p0,p1,p3,p4⟩:=hp;have c1:=(show LOk l from hL).1;have c3:=b1J l;have b6:=bD l;refine aA (by simp only [aN,bL,gI,p0,p1,p3,p4,h1L,h5U]) ⟨l,⟨rfl,rfl⟩,hL,l,⟨rfl,rfl⟩,⟨b6,rfl⟩,hL,⟨(0,_),(by rfl),(by rfl),(by rfl),(by rfl),(by rfl),(by rfl),⟨h1N _,(by rfl),(by rfl),⟨[],(by rfl),fun _=>(by rfl)⟩,h1D _⟩,trivial⟩,?_⟩;rintro⟨i,g⟩ _ ⟨hi,b8⟩;obtain⟨g2,g0,⟨es,g1,ge⟩,gn⟩:=(show In1 l g i from b8);dsimp only at hi⊢;refine dW (fun c=>?_) (fun c=>?_)
  ·have p:i< (aO l).length:=by omega
   refine aP ⟨by omega,by omega⟩ (bF (by rw [T];exact gN p 0 (by decide)) (bF (by rw [T];exact gN p 1 (by decide)) (bF (by rw [T];exact gN p 2 (by decide)) (bF (by rw [T];exact gN p 3 (by decide)) (?_)))));refine aB g2 (jY rfl (gJ g1 (oE _ _ _ _) ⟨(i+1,_),(by rfl),(by rfl),(by rfl),(by rfl),(by rw [h0X _ (by omega)];rfl),(by rfl),⟨p,?_⟩,by dsimp only;omega⟩));refine⟨(aE (by decide)).trans g2,(aE (by decide)).trans g0,⟨_,aH,fun k=>?_⟩,gn⟩;rw [qH];dsimp only;rw [List.take_succ_eq_append_getElem p,List.any_append,<-ge k]
   by_cases e:k=(aO l)[i].v
   ·rw [if_pos e];simp [e]
   ·rw [if_neg e];simp only [h7K,List.any_nil,h5E];rw [decide_eq_false (fun q=>e q.symm),h5E]
  have b5:(aO l).take i=aO l:=h1H (by omega);rw [b5]at ge;refine⟨⟨(0,g),rfl,rfl,rfl,rfl,rfl,⟨fun m Z=>absurd Z (h4Q _),g2,⟨[],g0,fun _=>rfl⟩,.inr ⟨1,es,rfl,g1,fun k=>?_⟩,gn⟩,trivial⟩,?_⟩
  ·rw [ge k];show(_&&true)=_;rw [h1L]
  rintro⟨n,g⟩ _ ⟨b7,b1⟩;have hR:=(show RdN l n from b7);obtain⟨g2,gk,gu,gn⟩:=(show InS l g (fM l (aO l) n).1 from b1);dsimp only;refine aD (fun c=>?_) (fun c=>?_)
  ·have b2:RdN l (n+1):=fun m Z=>by
    rcases h2D m n with q|q
    ·exact hR m q
    ·obtain rfl:m=n:=by omega
     exact c
   have hb:=a8X (l:=l) (vs:=aO l) (n:=n) (fun m Z=>b2 m (by omega));refine⟨(13+3*(aO l).length-n)*2000000+(aO l).length,⟨(n,0,g),rfl,rfl,rfl,rfl,rfl,rfl,rfl,rfl,⟨⟨b2,h1N _⟩,g2,gk,gu,gn⟩,by dsimp only;omega⟩,?_⟩;rintro⟨D,j,g3⟩ _ ⟨⟨X,hj⟩,G⟩ hM;dsimp only at X hj hM⊢;have c0:=a8X (l:=l) (vs:=aO l) (n:=D) (fun m Z=>(show RdN l (D+1)from X) m (by omega));obtain⟨k2,kk,ku,L⟩:=(show InS l g3 _ from G);have a9:=b1I a5 D;have b4:=b1H a5 (vs:=aO l) (r:=D+1) ((aO l).take j) ((fM l (aO l) D).1,false) (fun x hx=>b1G (h4X hx)) a9;generalize ha:((aO l).take j).foldl (xM l (aO l) (D+1)) ((fM l (aO l) D).1,false)=a at*
   refine dW (fun cj=>?_) (fun cj=>?_)
   ·have p:j< (aO l).length:=by omega
    have u:((aO l).take (j+1)).foldl (xM l (aO l) (D+1)) ((fM l (aO l) D).1,false)=xM l (aO l) (D+1) a (aO l)[j]:=by
     rw [List.take_succ_eq_append_getElem p,h7M,ha];rfl
    refine aP ⟨by omega,by omega⟩ (bF (by rw [T];exact gN p 0 (by decide)) (bF (by rw [T];exact gN p 1 (by decide)) (bF (by rw [T];exact gN p 2 (by decide)) (bF (by rw [T];exact gN p 3 (by decide)) (?_)))));refine⟨l,0,1,a.1,unG (aO l) a.1,D+1,⟨rfl,k2,by omega⟩,⟨hL,a5,⟨kk,by omega⟩,⟨ku,fun m Z=>by cases Z;omega⟩,b4,fun v hv=>d5V hv⟩,by decide,b1G (h1B p),fun hu h3 fr nx=>?_,fun y hu h3 e1 A fr nx=>?_⟩
    ·have e:=a4H (r:=D+1) (x:=(aO l)[j]) hu;rw [e]at u;exact⟨(D,j+1,h3),rfl,rfl,rfl,(by rw [u]),rfl,rfl,(by rw [h0X _ (by omega)];rfl),rfl,⟨⟨X,p⟩,(fr 2 (by omega)).trans k2,(by dsimp only;rw [u];exact b9D kk (fr 0 (by omega))),(by dsimp only;rw [u];exact b9E ku (fun m Z=>by cases Z;exact fr 1 (by omega))),h2F L nx⟩,by dsimp only;omega⟩
    ·have e:=(a4I (r:=D+1) (x:=(aO l)[j]) hu).1;rw [e]at u;exact⟨(D,j+1,h3),rfl,rfl,rfl,(by rw [u]),rfl,rfl,(by rw [h0X _ (by omega)];rfl),rfl,⟨⟨X,p⟩,(fr 2 (by omega) (by decide) (by decide)).trans k2,(by dsimp only;rw [u];exact e1),(by dsimp only;rw [u];dsimp only;rw [e6J];exact A),h2F L nx⟩,by dsimp only;omega⟩
   ·have a7:(aO l).take j=aO l:=h1H (by omega);rw [a7]at ha;have hr:fM l (aO l) (D+1)=a:=ha;refine⟨(D+1,g3),rfl,rfl,(by rw [h0X _ (by omega)];rfl),(by rw [hr]),rfl,⟨X,k2,(by dsimp only;rw [hr];exact kk),(by dsimp only;rw [hr];exact ku),L⟩,by dsimp only;omega⟩
  ·refine⟨⟨(n,0,g,.nilslice),rfl,rfl,rfl,rfl,rfl,rfl,rfl,⟨⟨hR,c⟩,h1N _,⟨g2,gk,gu,gn⟩,.inl ⟨rfl,rfl⟩⟩,trivial⟩,?_⟩;rintro⟨N,j,g3,ov⟩ _ ⟨⟨a0,hN⟩,hj,G,Y⟩;dsimp only at a0 hN hj Y⊢;obtain⟨k2,kk,ku,L⟩:=(show InS l g3 _ from G);refine dW (fun cj=>?_) (fun cj=>?_)
   ·have p:j< (aO l).length:=by omega
    have ho:=c6W ((aO l).take j) (fM l (aO l) N).1;rw [h1Y]at ho;have O:=d1T ((aO l).take j) (fM l (aO l) N).1 (aO l)[j];rw [<-List.take_succ_eq_append_getElem p]at O;have b0:some (TV.v (IV.int IntKind.i64 (IntKind.i64.wrap ((j:Int)+1))))=some (TV.v (IV.int IntKind.i64 ((j+1:Nat):Int))):=by rw [h0X _ (by omega)];rfl
    refine aP ⟨by omega,by omega⟩ (bF (by rw [T];exact gN p 0 (by decide)) (bF (by rw [T];exact gN p 1 (by decide)) (bF (by rw [T];exact gN p 2 (by decide)) (bF (by rw [T];exact gN p 3 (by decide)) (?_)))));have a8:(aO l).any (fun x=>decide (x.v=(aO l)[j].v))=true:=i1W.2 ⟨_,h1B p,decide_eq_true rfl⟩;have a3:unG (aO l) (fM l (aO l) N).1 (aO l)[j].v=((fM l (aO l) N).1 (aO l)[j].v).isNone:=by
     unfold unG
     rw [a8,h2G]
    obtain⟨b3,q1,q2⟩:=kk;obtain⟨m',a4,q3,q4,q5⟩: ∃(m:Nat)(es:List (Int×Bool)),IV.map 1= .map m/\g3.get m= .map (cM IV.bool es)/\∀k,unG (aO l) (fM l (aO l) N).1 k=(kG k es).getD false:=by
     rcases ku with⟨z,_⟩|z
     ·cases z
     ·exact z
    obtain rfl:1=m':=by cases q3;rfl
    refine aB k2 (jY rfl ?_)
    cases e:(fM l (aO l) N).1 (aO l)[j].v with
    |none=>
     rw [e]at a3 O;have A:kG (aO l)[j].v a4=some true:=by
      have:=q5 (aO l)[j].v;rw [a3]at this
      cases z:kG (aO l)[j].v a4 with
      |none=>rw [z]at this;cases this
      |some w=>rw [z]at this;exact congrArg some this.symm
     rw [h3V]at O;exact eQ q4 (cX A) (lG rfl (bf rfl ⟨(N,j+1,g3,ov),rfl,rfl,rfl,rfl,rfl,b0,rfl,⟨⟨a0,hN⟩,p,G,by dsimp only;rw [O];exact Y⟩,by dsimp only;omega⟩))
    |some r=>
     rw [e]at a3 O;have app: ∀(K:Nat->Nat->Nat->List IV->Heap->Prop),(∀i2 A l2 c2 (V:Heap),(∃x_1:Nat×Nat×Heap×IV,x_1=(N,j+1,V,.vslice (some i2) A l2 3 c2)/\InS l V (fM l (aO l) N).1/\OvC nS 3 3 V (.vslice (some i2) A l2 3 c2) (qJ ((aO l).take (j+1)) (fM l (aO l) N).1))->K i2 A l2 c2 V)->qT g3 3 24 ov 1 [.int .i64 (aO l)[j].v,.int .i64 r.1,.int .i64 r.2] K:=fun K hK=>by
      refine Y.app (x:=((aO l)[j].v,r)) rfl (by omega) L fun i2 A l2 c2 V b9 fr nx=>hK _ _ _ _ _ ⟨_,rfl,⟨(fr 2 (by decide)).trans k2,b9D ⟨b3,q1,q2⟩ (fr 0 (by decide)),b9E ku (fun m Z=>by cases Z;exact fr 1 (by decide)),h2F L nx⟩,by rw [O];exact b9⟩
     have A:(kG (aO l)[j].v a4).getD false=false:=by rw [<-q5,a3];rfl
     have fin: ∀(i2 A l2:Nat)(c2:List IV)(V:Heap),(∃x_1:Nat×Nat×Heap×IV,x_1=(N,j+1,V,.vslice (some i2) A l2 3 c2)/\InS l V (fM l (aO l) N).1/\OvC nS 3 3 V (.vslice (some i2) A l2 3 c2) (qJ ((aO l).take (j+1)) (fM l (aO l) N).1))->(∃x_1:Nat×Nat×Heap×IV,some (TV.v (.ptr 2 0))=some (TV.v (.ptr 2 0))/\some (TV.v (.vslice none 0 (aO l).length 4 ((aO l).flatMap zK)))=some (TV.v (.vslice none 0 (aO l).length 4 ((aO l).flatMap zK)))/\some (TV.v (.vslice (some i2) A l2 3 c2))=some (TV.v x_1.2.2.2)/\some (TV.v (.vslice none 0 (aO l).length 4 ((aO l).flatMap zK)))=some (TV.v (.vslice none 0 (aO l).length 4 ((aO l).flatMap zK)))/\some (TV.v (.int .i64 ((aO l).length:Int)))=some (TV.v (.int .i64 ((aO l).length:Int)))/\some (TV.v (.int .i64 (IntKind.i64.wrap ((j:Int)+1))))=some (TV.v (.int .i64 (x_1.2.1:Int)))/\V=x_1.2.2.1/\((RdN l x_1.1/\(fM l (aO l) x_1.1).2=false)/\x_1.2.1<=(aO l).length/\InS l x_1.2.2.1 (fM l (aO l) x_1.1).1/\OvC nS 3 3 x_1.2.2.1 x_1.2.2.2 (qJ ((aO l).take x_1.2.1) (fM l (aO l) x_1.1).1))/\(aO l).length-x_1.2.1< (aO l).length-j):=fun i2 A l2 c2 V ⟨_,rfl,a1,a2⟩=>⟨(N,j+1,V,.vslice (some i2) A l2 3 c2),rfl,rfl,rfl,rfl,rfl,b0,rfl,⟨⟨a0,hN⟩,p,a1,a2⟩,by dsimp only;omega⟩
     cases z:kG (aO l)[j].v a4 with
     |none=>exact iV q4 (eL z) (aB k2 (jY rfl (eQ q1 (cX ((q2 _).trans e)) (a4A rfl rfl (bF rfl (bF rfl (app _ fin)))))))
     |some w=>
      rw [z]at A;obtain rfl:w=false:=A;exact eQ q4 (cX z) (lG rfl (bt rfl (aB k2 (jY rfl (eQ q1 (cX ((q2 _).trans e)) (a4A rfl rfl (bF rfl (bF rfl (app _ fin)))))))))
   ·have a7:(aO l).take j=aO l:=h1H (by omega);rw [a7]at Y;have a6:=hk N a0 hN;rcases Y with⟨rfl,e⟩| ⟨io,rfl,_⟩
    ·rw [show nZ Go.Proofs.Tryz.prog 49 .nilslice= .vslice none 0 0 3 [] by kernel_rfl];rw [e]at a6;exact aA rfl a6
    ·rw [b9C];refine aA ?_ a6;simp only [aN,bL,h1L];exact oY _
 ·exact hk.elim
def e3B:=bB 23 e2Y f8X
theorem e3C:aT env e3B:=aI g4H (f1D)
def e3E:=e3B
theorem e3F:aT env e3E:=e3C
structure IdN where
 m:Nat
 iR:Nat
 m8:Nat
def IdS(l:List Nd)(C:IvC)(g:Heap)(x:IdN):Prop:=g.get 0= .cells [.vslice none 0 (l).length 3 ((l).flatMap cN),.vslice none 0 (aG l).length 1 ((aG l).map (IV.int .i64)),.map x.m,.nilmap]/\g.get x.iR= .cells ((rG l (lP C)).flatMap cR)/\(x.iR≠x.m8/\0≠x.m8/\x.m8<g.next/\x.iR<g.next/\0<g.next)
def id1(l:List Nd)(C:IvC):Inv':=hJ (Nat×Heap×IdN) (fun x=>[(1,.v (.vslice none 0 C.length 3 (C.flatMap nS))),(5,.v (.ptr 0 0)),(6,.v (.hslice x.2.2.iR 0 l.length 2)),(8,.v (.map x.2.2.m8)),(40,.v (.vslice none 0 (aO l).length 4 ((aO l).flatMap zK))),(41,.v (.int .i64 ((aO l).length:Int))),(42,.v (.int .i64 (x.1:Int)))]) (fun _=>[]) (fun x=>x.2.1) (fun x=>x.1<=(aO l).length/\IdS l C x.2.1 x.2.2/\∃es:List (Int×LV),x.2.1.get x.2.2.m8= .map (cM eV es)/\∀k,kG k es=vrG ((aO l).take x.1) k) (fun x=>(aO l).length-x.1)
def id2(l:List Nd)(C:IvC):Inv':=hJ (Nat×Heap×IdN×Nat) (fun x=>[(1,.v (.vslice none 0 C.length 3 (C.flatMap nS))),(5,.v (.ptr 0 0)),(6,.v (.hslice x.2.2.1.iR 0 l.length 2)),(8,.v (.map x.2.2.1.m8)),(11,.v (.map x.2.2.2)),(52,.v (.vslice none 0 C.length 3 (C.flatMap nS))),(53,.v (.int .i64 (C.length:Int))),(54,.v (.int .i64 (x.1:Int)))]) (fun _=>[]) (fun x=>x.2.1)
 (fun x=>(x.1<=C.length/\a7B l C x.1=true)/\IdS l C x.2.1 x.2.2.1/\(∃es:List (Int×LV),x.2.1.get x.2.2.1.m8= .map (cM eV es)/\∀k,kG k es=vrG (aO l) k)/\(∃es:List (Int×Bool),x.2.1.get x.2.2.2= .map (cM IV.bool es)/\∀k,kG k es=if lI (C.take x.1) k=true then some true else none)/\(x.2.2.2≠0/\x.2.2.2≠x.2.2.1.iR/\x.2.2.2≠x.2.2.1.m8)) (fun x=>C.length-x.1)
def f9B(xs:List IV)(h:Heap)(K:KT):Prop:=match xs with
 | [.agg [g0,g1,.vslice none e0 n 3 c,g3,g4],.vslice none e1 n1 3 c1]=> ∃(l:List Nd)(C:IvC),(n=l.length/\c=l.flatMap cN/\n1=C.length/\c1=C.flatMap nS)/\(bL g0=true/\bL g1=true/\bL g3=true/\bL g4=true)/\LOk l/\(∀n∈l,bJ n.im)/\((∀p∈C,dB p.2)/\C.length<=1099511627776)/\K (.bool (e6L l C)) h
 |_=>False
def a0E(C:IvC):=TV.v (.vslice none 0 C.length 3 (List.flatMap nS C))
def a0F(g:Nat×Heap×IdN×Nat):=g.2.2.1
def b3L:=TV.v (.ptr 0 0)
def e8S(l:List Nd):=TV.v (.vslice none 0 ((aO l).length) 4 (List.flatMap zK (aO l)))
def rC(l:List Nd):=l.length
def f9C(l g:List Nd):=[IV.vslice none 0 (rC l) 3 (List.flatMap cN l),IV.vslice none 0 ((aG g).length) 1 (List.map (IV.int .i64) (aG g)),IV.nilmap,IV.nilmap]
def f9D(g:List Nd)(R:List Iv):=(∀(i:Nat),i<g.length->Prod.fst (List.getD R i ((0:Int),(0:Int)))<=Prod.snd (List.getD R i ((0:Int),(0:Int)))/\dB (List.getD R i ((0:Int),(0:Int))))
def b9F:=TypeDesc.int .i64
def e3H(C:IvC):=TV.v (.int .i64 (C.length:Int))
abbrev f9E(g:Int)(i:List Nd):=0<=g/\g< (i.length:Int)/\List.getD (aG i) g.toNat 0=1/\i.length<=100000
def e8T(l:List Nd):=TV.v (.int .i64 (↑((aO l).length):Int))
def e3I(l:List Nd):=List.map (IV.int .i64) (aG l)
def b3M:=IV.bool false
def c4T:=Int×M14.LV
def c4U(g:Int):=iI g
def b9G(g:Nat×Heap×IdN×Nat):=g.2.1
def b9H(C:IvC)(l:List Nd)(x:Nat×Heap×IdN×Nat)(j:Heap):Prop:= ∃(g:Nat×Heap×IdN×Nat),some (a0E C)=some (a0E C)/\some b3L=some b3L/\some (TV.v (.hslice (IdN.iR x.2.2.1) 0 (rC l) 2))=some (TV.v (.hslice (IdN.iR (a0F g)) 0 (rC l) 2))/\some (TV.v (.map (IdN.m8 x.2.2.1)))=some (TV.v (.map (IdN.m8 (a0F g))))/\some (TV.v (.map x.2.2.2))
 =some (TV.v (.map g.2.2.2))/\some (a0E C)=some (a0E C)/\some (e3H C)=some (e3H C)/\tI (wW ((x.1:Int)+1))=tI (g.1:Int)/\j=g.2.1/\((g.1<=C.length/\a7B l C g.1=true)/\((b9G g).get 0=IObj.cells [IV.vslice none 0 (rC l) 3 (List.flatMap cN l),IV.vslice
 none 0 ((aG l).length) 1 (e3I l),IV.map (IdN.m (a0F g)),IV.nilmap]/\Heap.get (b9G g) (IdN.iR (a0F g))=IObj.cells (List.flatMap cR (rG l (lP C)))/\IdN.iR (a0F g)≠IdN.m8 (a0F g)/\(0:Nat)≠IdN.m8 (a0F g)/\IdN.m8 (a0F g)< (b9G g).next/\IdN.iR (a0F g)<Heap.next
 (b9G g)/\0< (b9G g).next)/\(∃(i:List c4T),(b9G g).get (IdN.m8 (a0F g))=IObj.map (cM eV i)/\∀(k:Int),kG k i=vrG (aO l) k)/\(∃(i:List (Int×Bool)),(b9G g).get g.2.2.2=IObj.map (cM IV.bool i)/\∀(k:Int),kG k i=if lI (List.take g.1 C)
 k=true then some true else none)/\g.2.2.2≠0/\g.2.2.2≠IdN.iR (a0F g)/\g.2.2.2≠IdN.m8 (a0F g))/\C.length-g.1<C.length-x.1
theorem g9O(l:List Nd)(C:IvC)(g0 g1 g3 g4:IV)(e0 e1:Nat)(h:Heap)(Q:KT):dF (aV e3E) env 24 dV (icA 7 (id1 l C) (tK 13 (id2 l C))) bT [.agg [g0,g1,.vslice none e0 (l).length 3 ((l).flatMap cN),g3,g4],.vslice none e1 C.length 3 (C.flatMap nS)] h Q=(
 aC (aN [IV.agg [g0,g1,IV.vslice none 0 (rC l) 3 (List.flatMap cN l),g3,g4],IV.vslice none 0 C.length 3 (List.flatMap nS C)]) (∃(X:List Nd),(l.length=X.length/\List.flatMap cN l=List.flatMap cN X)/\LOk X/\∃(Z:List (Int×Iv)),∃(a b:IV),∃(c d:IV),(C.length=Z.length/\List.flatMap nS C=List.flatMap nS Z)/\(IObj.cells (f9C l X)=IObj.cells [a,b,c,d]/\(0:Nat)<0+1/\Z.length<=1152921504606846976)/\∀(h2:Heap)(m:Nat)(A:List (Int×Iv)),h2.get 0=IObj.cells [a,b,IV.map m,d]->(h2.get m=IObj.map (cM eI A)/\∀(k:Int),kG k A=lP Z k)->(0:Nat)+1<=m/\m<h2.next->(∀(j:Nat),j<0+1->j≠0->Heap.get h2 j=(Heap.mk (PT.node PT.nil (some (IObj.cells (f9C l X))) PT.nil) ((0:Nat)+1)).get j)-> ∃(D:List Nd),∃(mk:Nat),∃(mu:IV),∃(kn:Int->Option Iv),∃(un:Int->Bool),(h2.get 0=IObj.cells [IV.vslice none 0 D.length 3 (List.flatMap cN D),IV.vslice none 0 ((aG D).length) 1 (List.map (IV.int .i64) (aG D)),IV.map mk,mu]/\0<h2.next)/\AzS h2 D mk mu kn un/\∀(u:Heap)(iR iU:Nat),u.get iR=IObj.cells (List.flatMap cR (rG D kn))->Heap.get u iU=IObj.cells (List.map IV.bool (uG D un))->Heap.next h2<=iR/\iR<u.next/\Heap.next h2<=iU/\iU<u.next/\iR≠iU->(∀(j:Nat),j<h2.next->Heap.get u j=h2.get j)->aF (u.push (IObj.map [])) 0 fun r0=>bH 1 r0 1 fun(i1:Option Nat)(e2 l3:Nat)(c4:List IV)=> ∃(K:List Nd),(l.length=K.length/\List.flatMap cN l=List.flatMap cN K)/\(l3=K.length/\c4=List.map (IV.int .i64) (aG K))/\LOk K/\(∃(x:Nat×Heap×IdN),some (a0E C)=some (a0E C)/\some b3L=some b3L/\some (TV.v (IV.hslice iR 0 D.length 2))=some (TV.v (.hslice (IdN.iR x.2.2) 0 (rC l) 2))/\some (TV.v (.map (u.next)))=some (TV.v (.map (IdN.m8 x.2.2)))/\some (TV.v (.vslice none 0 ((aO K).length) 4 (List.flatMap zK (aO K))))=some (e8S l)/\tI (↑((aO K).length):Int)=some (e8T l)/\tI 0=tI (x.1:Int)/\Heap.push u (IObj.map [])=x.2.1/\(x.1<=List.length (aO l)/\(x.2.1.get 0=IObj.cells [IV.vslice none 0 (rC l) 3 (List.flatMap cN l),IV.vslice none 0 ((aG l).length) 1 (e3I l),IV.map (IdN.m x.2.2),IV.nilmap]/\Heap.get (x.2.1) (IdN.iR x.2.2)=IObj.cells (List.flatMap cR (rG l (lP C)))/\IdN.iR x.2.2≠IdN.m8 x.2.2/\(0:Nat)≠IdN.m8 x.2.2/\IdN.m8 x.2.2<x.2.1.next/\IdN.iR ((x.2).2)<x.2.1.next/\0<x.2.1.next)/\∃(A:List c4T),x.2.1.get (IdN.m8 x.2.2)=IObj.map (cM eV A)/\∀(k:Int),kG k A=vrG (List.take x.1 (aO l)) k)/\True)/\∀(x:Nat×Heap×IdN)(b:FF),(x.1<=List.length (aO l)/\IdS l C x.2.1 x.2.2/\∃(A:List c4T),x.2.1.get (IdN.m8 x.2.2)=IObj.map (cM eV A)/\∀(k:Int),kG k A=vrG (List.take x.1 (aO l)) k)->aM (decide (((x.1):Int)< (↑((aO l).length):Int))) (aC (decide (0<=(x.1:Int)) &&decide ((x.1:Int)< (↑((aO l).length):Int))) (aK .i64 (List.flatMap zK (aO l)) ((x.1:Int).toNat*4) fun n5=>aK .i64 (List.flatMap zK (aO l)) ((x.1:Int).toNat*4+1) fun n6=>aK .i64 (List.flatMap zK (aO l)) ((x.1:Int).toNat*4+1+1) fun n7=>aK .i64 (List.flatMap zK (aO l)) ((x.1:Int).toNat*(4:Nat)+1+1+1) fun n8=>kS x.2.1 (IdN.m8 x.2.2) b9F (iI n5) (IV.agg [.int .i64 n5,iI n6,iI n7,iI n8]) fun(b6:List (IV×IV))=> ∃(g:Nat×Heap×IdN),some (a0E C)=some (a0E C)/\some b3L=some b3L/\some (TV.v (.hslice (IdN.iR x.2.2) 0 (rC l) 2))=some (TV.v (.hslice (IdN.iR g.2.2) 0 (rC l) 2))/\some (TV.v (.map (IdN.m8 x.2.2)))=some (TV.v (.map (IdN.m8 g.2.2)))/\some (e8S l)=some (e8S l)/\some (e8T l)=some (e8T l)/\tI (wW ((x.1:Int)+1))=tI (g.1:Int)/\Heap.set ((x.2).1) (IdN.m8 x.2.2) (IObj.map b6)=g.2.1/\(g.1<=List.length (aO l)/\(g.2.1.get 0=IObj.cells [IV.vslice none 0 (rC l) 3 (List.flatMap cN l),IV.vslice none 0 ((aG l).length) 1 (e3I l),IV.map (IdN.m g.2.2),IV.nilmap]/\Heap.get g.2.1 (IdN.iR g.2.2)=IObj.cells (List.flatMap cR (rG l (lP C)))/\IdN.iR g.2.2≠IdN.m8 g.2.2/\(0:Nat)≠IdN.m8 g.2.2/\IdN.m8 g.2.2<g.2.1.next/\IdN.iR g.2.2<g.2.1.next/\0<g.2.1.next)/\∃(A:List c4T),g.2.1.get (IdN.m8 g.2.2)=IObj.map (cM eV A)/\∀(k:Int),kG k A=vrG (List.take g.1 (aO l)) k)/\List.length (aO l)-g.1< (aO l).length-x.1)) ((∃(g:Nat×Heap×IdN×Nat),some (a0E C)=some (a0E C)/\some b3L=some b3L/\some (TV.v (.hslice (IdN.iR x.2.2) 0 (rC l) 2))=some (TV.v (.hslice (IdN.iR g.2.2.1) 0 (rC l) 2))/\some (TV.v (.map (IdN.m8 x.2.2)))=some (TV.v (.map (IdN.m8 g.2.2.1)))/\some (TV.v (.map (x.2.1.next)))=some (TV.v (.map g.2.2.2))/\some (a0E C)=some (a0E C)/\some (e3H C)=some (e3H C)/\tI 0=tI (g.1:Int)/\Heap.push x.2.1 (IObj.map [])=g.2.1/\((g.1<=C.length/\a7B l C g.1=true)/\(g.2.1.get 0=IObj.cells [IV.vslice none 0 (rC l) 3 (List.flatMap cN l),IV.vslice none 0 ((aG l).length) 1 (e3I l),IV.map (IdN.m (((g.2).2).1)),IV.nilmap]/\Heap.get g.2.1 (IdN.iR g.2.2.1)=IObj.cells (List.flatMap cR (rG l (lP C)))/\IdN.iR g.2.2.1≠IdN.m8 g.2.2.1/\(0:Nat)≠IdN.m8 g.2.2.1/\IdN.m8 g.2.2.1<g.2.1.next/\IdN.iR g.2.2.1<g.2.1.next/\0<g.2.1.next)/\(∃(A:List c4T),g.2.1.get (IdN.m8 ((g.2.2).1))=IObj.map (cM eV A)/\∀(k:Int),kG k A=vrG (aO l) k)/\(∃(A:List (Int×Bool)),g.2.1.get g.2.2.2=IObj.map (cM IV.bool A)/\∀(k:Int),kG k A=if lI (List.take g.1 C) k=true then some true else none)/\g.2.2.2≠0/\g.2.2.2≠IdN.iR g.2.2.1/\g.2.2.2≠IdN.m8 g.2.2.1)/\True)/\∀(x:Nat×Heap×IdN×Nat)(b:FF),(x.1<=C.length/\a7B l C x.1=true)/\IdS l C x.2.1 x.2.2.1/\(∃(A:List c4T),x.2.1.get (IdN.m8 x.2.2.1)=IObj.map (cM eV A)/\∀(k:Int),kG k A=vrG (aO l) k)/\(∃(A:List (Int×Bool)),x.2.1.get x.2.2.2=IObj.map (cM IV.bool A)/\∀(k:Int),kG k A=if lI (List.take x.1 C) k=true then some true else none)/\x.2.2.2≠0/\x.2.2.2≠IdN.iR (((x.2).2).1)/\x.2.2.2≠IdN.m8 x.2.2.1->aM (decide ((x.1:Int)< (C.length:Int))) (aC (decide (0<=(x.1:Int)) &&decide ((x.1:Int)< (C.length:Int))) (aK .i64 (List.flatMap nS C) ((x.1:Int).toNat*3) fun L=>aK .i64 (List.flatMap nS C) ((x.1:Int).toNat*3+1) fun T=>aK .i64 (List.flatMap nS C) ((x.1:Int).toNat*3+1+1) fun(V:Int)=>fV x.2.1 (IdN.m8 x.2.2.1) b9F (c4U L) (fun b3=>a1B 4 b3 0 fun Y=>aK .i64 Y 0 fun O=>aK .i64 Y 1 fun r=>aK .i64 Y 2 fun p=>aK .i64 Y 3 fun G=>fV x.2.1 x.2.2.2 b9F (c4U L) (fun b7=>iS b7 0 fun b4=>aM b4 (Q b3M h) (aM (!decide (T<=V)) (Q b3M h) (aC (decide (0<=r) &&decide (r< ((rC l):Int))) (aF x.2.1 (IdN.iR x.2.2.1) fun a9=>aK .i64 a9 ((0:Nat)+r.toNat*2) fun b5=>aK .i64 a9 ((0:Nat)+r.toNat*2+1) fun(b2:Int)=>aM (!(decide (T<=b5) &&decide (b2<=V))) (Q b3M h) (aC (decide (0<=p) &&decide (p< ((rC l):Int))) (aF x.2.1 (IdN.iR x.2.2.1) fun a4=>aK .i64 a4 ((0:Nat)+p.toNat*2) fun(a3:Int)=>aK .i64 a4 ((0:Nat)+p.toNat*2+1) fun a0=> ∃(i:List Nd),∃(g y z:IV),∃(R:List Iv),(x.2.1.get 0=IObj.cells [IV.vslice none 0 i.length 3 (List.flatMap cN i),g,y,z]/\Heap.get x.2.1 (IdN.iR x.2.2.1)=IObj.cells (List.flatMap cR R)/\R.length=i.length/\l.length=i.length)/\(f9D i R)/\(f9E G i)/\aM ((mC i (LV.mk O r p G) (a3,a0) R).2) (aM (!(decide (T<=Prod.fst ((mC i (LV.mk O r p G) (a3,a0) R).1)) &&decide (((mC i (LV.mk O r p G) (a3,a0) R).1).2<=V))) (Q b3M h) (kS x.2.1 x.2.2.2 b9F (c4U L) (IV.bool true) fun(a8:List (IV×IV))=>b9H C l x (x.2.1.set x.2.2.2 (IObj.map a8)))) (kS x.2.1 x.2.2.2 b9F (c4U L) (IV.bool true) fun(a6:List (IV×IV))=>b9H C l x (x.2.1.set ((x.2.2).2) (IObj.map a6))))))))) (aM (!decide (T<=V)) (Q b3M h) (aC (decide (0<=r) &&decide (r< ((rC l):Int))) (aF x.2.1 (IdN.iR x.2.2.1) fun a5=>aK .i64 a5 ((0:Nat)+r.toNat*2) fun b9=>aK .i64 a5 ((0:Nat)+r.toNat*2+1) fun b8=>aM (!(decide (T<=b9) &&decide (b8<=V))) (Q b3M h) (aC (decide (0<=p) &&decide (p< ((rC l):Int))) (aF x.2.1 (IdN.iR ((x.2.2).1)) fun b0=>aK .i64 b0 ((0:Nat)+p.toNat*2) fun a1=>aK .i64 b0 ((0:Nat)+p.toNat*2+1) fun a2=> ∃(i:List Nd),∃(g y z:IV),∃(R:List Iv),((x.2.1).get 0=IObj.cells [IV.vslice none 0 i.length 3 (List.flatMap cN i),g,y,z]/\Heap.get x.2.1 (IdN.iR x.2.2.1)=IObj.cells (List.flatMap cR R)/\R.length=i.length/\l.length=i.length)/\(f9D i R)/\(f9E G i)/\aM ((mC i (LV.mk O r p G) (a1,a2) R).2) (aM (!(decide (T<=Prod.fst ((mC i (LV.mk O r p G) (a1,a2) R).1)) &&decide (((mC i (LV.mk O r p G) (a1,a2) R).1).2<=V))) (Q b3M h) (kS (x.2.1) x.2.2.2 b9F (c4U L) (IV.bool true) fun(a7:List (IV×IV))=>b9H C l x (x.2.1.set x.2.2.2 (IObj.map a7)))) (kS x.2.1 x.2.2.2 b9F (c4U L) (IV.bool true) fun(b1:List (IV×IV))=>b9H C l x (x.2.1.set x.2.2.2 (IObj.map b1))))))))) (Q b3M h))) (Q (.bool true) h)))):=by kernel_rfl
theorem g9P: ∀xs h Q,f9B xs h Q->aU env 24 xs h Q:=by
 intro xs h Q r;unfold f9B at r;split at r
 ·rename_i g0 g1 e0 n c g3 g4 e1 n1 c1;obtain⟨l,C,⟨rfl,rfl,rfl,rfl⟩,hp,hL,a5,hC,r⟩:=r;refine aS (e3F) (g9O l C g0 g1 g3 g4 e0 e1 h Q) ?_;delta b9H a0E a0F b3L e8S f9C f9D b9F e3H f9E e8T e3I rC b3M c4T c4U b9G tI wW iI;have z: ∀x:Nat,(x:Int).toNat=x:=h0Z
  obtain⟨p0,p1,p3,p4⟩:=hp;have b0:=(show LOk l from hL).1;have G:=lH l (lP C);have b9:=bD l;have c6:=b1J l;have a9:=a4J hC.1;refine aA (by simp only [aN,bL,gI,oY,p0,p1,p3,p4,h1L,h5U]) ⟨l,⟨rfl,rfl⟩,hL,C,(.vslice none 0 l.length 3 (l.flatMap cN)),(.vslice none 0 (aG l).length 1 ((aG l).map (IV.int .i64))),.nilmap,.nilmap,⟨rfl,rfl⟩,⟨rfl,by decide,by omega⟩,fun h2 m es e1 ⟨e2,e3⟩ ⟨n1,n2⟩ fr=>⟨l,m,.nilmap,lP C,fun _=>false,⟨e1,by omega⟩,⟨hL,a5,⟨⟨es,e2,e3⟩,n2⟩,⟨.inl ⟨rfl,fun _=>rfl⟩,fun m hm=>by cases hm⟩,a4J hC.1,fun v hv=>by cases hv⟩,fun h3 iR iU eR eU ⟨m1,m2,_,_,_⟩ a7=>aB ((aJ (show 0<h3.next by omega)).trans ((a7 0 (by omega)).trans e1)) (sA rfl ⟨l,⟨rfl,rfl⟩,⟨b9,rfl⟩,hL,⟨(0,h3.push (.map []),⟨m,iR,h3.next⟩),rfl,rfl,rfl,rfl,rfl,rfl,rfl,rfl,⟨h1N _,⟨(aJ (by omega)).trans ((a7 0 (by omega)).trans e1),(aJ m2).trans eR,⟨h4P m2,by dsimp only;omega,h1G _,h1T m2,h5J _⟩⟩,[],aR,fun _=>rfl⟩,trivial⟩,?_⟩)⟩⟩;rintro⟨i,g,x⟩ _ ⟨hi,a8,Y,g8,v8⟩;obtain⟨b1,b2,b3,b4,b5,b6,b7⟩:=(show IdS l C g x from a8);dsimp only at hi g8 v8⊢;refine dW (fun c=>?_) (fun c=>?_)
  ·have j:i< (aO l).length:=by omega
   refine aP ⟨by omega,by omega⟩ (bF (by rw [z];exact gN j 0 (by decide)) (bF (by rw [z];exact gN j 1 (by decide)) (bF (by rw [z];exact gN j 2 (by decide)) (bF (by rw [z];exact gN j 3 (by decide)) (gJ g8 (oE eV (aO l)[i].v (aO l)[i] Y) ⟨(i+1,_,x),(by rfl),(by rfl),(by rfl),(by rfl),(by rfl),(by rfl),(by rw [h0X _ (by omega)];rfl),(by rfl),⟨j,⟨(aE b4).trans b1,(aE b3).trans b2,b3,b4,b5,b6,b7⟩,_,aH,fun k=>?_⟩,by dsimp only;omega⟩)))));dsimp only;rw [qH,h1J j,b5Y,v8 k]
  have b8:(aO l).take i=aO l:=h1H (by omega);rw [b8]at v8;refine⟨⟨(0,g.push (.map []),x,g.next),rfl,rfl,rfl,rfl,rfl,rfl,rfl,rfl,rfl,⟨⟨h1N _,rfl⟩,⟨(aJ b7).trans b1,(aJ b6).trans b2,b3,b4,h1T b5,h1T b6,h1T b7⟩,⟨Y,(aJ b5).trans g8,v8⟩,⟨[],aR,fun _=>rfl⟩,by dsimp only;omega,by dsimp only;omega,by dsimp only;omega⟩,trivial⟩,?_⟩;rintro⟨i,g3,x3,y⟩ _ ⟨⟨c0,u⟩,a4,⟨es,Z,X⟩,⟨a6,s1,s2⟩,L,O,V⟩;obtain⟨a1,K,a3⟩:=(show IdS l C g3 x3 from a4);dsimp only at c0 u Z X s1 s2 L O V⊢;refine dW (fun c=>?_) (fun c=>?_)
  case refine_2=>
   have:e6L l C=true:=by
    unfold e6L
    rw [show C.length=i by omega];exact u
   rw [this]at r;exact r
  have j:i<C.length:=by omega
  have hD:C.getD i (0,(0,0))=C[i]:=cQ j;have a0:some (TV.v (IV.int IntKind.i64 (IntKind.i64.wrap ((i:Int)+1))))=some (TV.v (IV.int IntKind.i64 ((i+1:Nat):Int))):=by rw [h0X _ (by omega)];rfl
  have no:okC l C i=false->Q (.bool false) h:=fun q=>by
   have:=c6X q _ j;rw [show e6L l C=false from this]at r;exact r
  refine aP ⟨by omega,by omega⟩ (bF (by rw [z];exact vG j 0 (by decide)) (bF (by rw [z];exact vG j 1 (by decide)) (bF (by rw [z];exact vG j 2 (by decide)) ?_)))
  cases ev:vrG (aO l) C[i].1 with
  |none=>exact iV Z (eL ((X _).trans ev)) (no (by unfold okC;rw [hD,ev]))
  |some x=>
   have p:okC l C i=(!(lI (C.take i) C[i].1) && (decide (C[i].2.1<=C[i].2.2) && (ctd (gR (rG l (lP C)) x.f) C[i].2&& (!(mC l x (gR (rG l (lP C)) x.n) (rG l (lP C))).2||ctd (mC l x (gR (rG l (lP C)) x.n) (rG l (lP C))).1 C[i].2)))):=by
    unfold okC
    rw [hD,ev]
   obtain⟨lf,ln,ld⟩:=b1G (e6K ev).1;refine eQ Z (cX ((X _).trans ev)) (a4A rfl rfl (bF rfl (bF rfl (bF rfl (bF rfl ?_)))))
   cases hh:lI (C.take i) C[i].1 with
   |true=>exact eQ s1 (cX (by rw [s2,if_pos hh])) (lG rfl (bt rfl (no (by rw [p,hh];rfl))))
   |false=>
    rw [hh,h8L,h2G]at p;refine iV s1 (eL (by rw [s2,if_neg (by rw [hh];decide)])) (aD (fun c2=>no ?_) (fun c2=>?_))
    ·rw [h2K]at c2;rw [p,c2];rfl
    rw [h3A]at c2;rw [c2,h2G]at p;refine aP lf (aB K (a1L (by rw [G];exact lf) (by rw [h1Q]) (aD (fun T=>no ?_) (fun T=>?_))))
    ·rw [h2K]at T;rw [p,show ctd (gR (rG l (lP C)) x.f) C[i].2=false from T];rfl
    rw [h3A]at T;rw [show ctd (gR (rG l (lP C)) x.f) C[i].2=true from T,h2G]at p;refine aP ln (aB K (a1L (by rw [G];exact ln) (by rw [h1Q]) ⟨l,_,_,_,rG l (lP C),⟨a1,K,G,rfl⟩,a4E a5 a9,⟨ld.1,ld.2.1,ld.2.2,b0⟩,aD (fun c4=>?_) (fun c4=>?_)⟩))
    ·have A:(mC l x (gR (rG l (lP C)) x.n) (rG l (lP C))).2=true:=c4;rw [A,h8S,h4S]at p;refine aD (fun c5=>no ?_) (fun c5=>?_)
     ·rw [h2K]at c5;rw [p];exact c5
     ·rw [h3A]at c5;have D:okC l C i=true:=p.trans c5;exact gJ s1 (oE _ _ _ _) ⟨(i+1,g3.set y (.map (cM IV.bool (upM C[i].1 true a6))),x3,y),rfl,rfl,rfl,rfl,rfl,rfl,rfl,a0,rfl,⟨⟨j,by show(a7B l C i&&okC l C i)=true;rw [u,D];rfl⟩,⟨(aE (Ne.symm L)).trans a1,(aE (Ne.symm O)).trans K,a3⟩,⟨es,(aE (Ne.symm V)).trans Z,X⟩,⟨_,aH,by dsimp only;rw [h1J j];exact tP s2⟩,L,O,V⟩,by dsimp only;omega⟩
    ·have A:(mC l x (gR (rG l (lP C)) x.n) (rG l (lP C))).2=false:=c4;have D:okC l C i=true:=by rw [p,A];rfl
     exact gJ s1 (oE _ _ _ _) ⟨(i+1,g3.set y (.map (cM IV.bool (upM C[i].1 true a6))),x3,y),rfl,rfl,rfl,rfl,rfl,rfl,rfl,a0,rfl,⟨⟨j,by show(a7B l C i&&okC l C i)=true;rw [u,D];rfl⟩,⟨(aE (Ne.symm L)).trans a1,(aE (Ne.symm O)).trans K,a3⟩,⟨es,(aE (Ne.symm V)).trans Z,X⟩,⟨_,aH,by dsimp only;rw [h1J j];exact tP s2⟩,L,O,V⟩,by dsimp only;omega⟩
 ·exact r.elim
def g4K:=bB 24 f9B e3E
theorem g4L:aT env g4K:=aI g9P (e3F)
def c4V(xs:List IV)(h:Heap)(K:KT):Prop:=match xs with
 | [x,y]=>c6Y [x,y] h K
 |_=>False
theorem f9F: ∀xs h Q,c4V xs h Q->aU env 12 xs h Q:=by
 intro xs h Q g;unfold c4V at g;split at g
 ·exact e9E _ _ _ g
 ·exact g.elim
def e3J:=bB 12 c4V g4K
theorem e8U:aT env e3J:=aI f9F (g4L)
def c4W(xs:List IV)(h:Heap)(K:KT):Prop:=match xs with
 | [x,y]=>c6Z [x,y] h K
 |_=>False
theorem f9G: ∀xs h Q,c4W xs h Q->aU env 35 xs h Q:=by
 intro xs h Q g;unfold c4W at g;split at g
 ·exact e9F _ _ _ g
 ·exact g.elim
def c4X:=bB 35 c4W e3J
theorem c9M:aT env c4X:=aI f9G (e8U)
def f1E:=c4X
theorem f9J:aT env f1E:=c9M
end Go.Proofs.YtkonebkblgemkaaGreat
end
end
