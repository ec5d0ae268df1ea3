/-
  Texts of this proof, one after the other.
  Conditions: none.
-/
import Derived.Test.YtkonebkblgemkaaGreatZ15
set_option linter.unusedVariables false
set_option linter.unusedSimpArgs false
set_option maxRecDepth 100000
set_option maxHeartbeats 4000000
noncomputable section
section
namespace Go.Proofs.YtkonebkblgemkaaGreat
open Go.Pv Go.M13 Go.M15 Go.M10 Go.M14
def e1M(xs:List IV)(h:Heap)(K:KT):Prop:=match xs with
 | [.agg [.int .i64 op,.int .i64 im,.vslice none e n 1 c],.int .i64 q]=> ∃(ks:List Int)(j:Nat),(n=ks.length/\c=ks.map (IV.int .i64)/\q=(j:Int))/\(ks.length%2=1/\3<=ks.length/\ks.length<=40/\j<ks.length/2/\0<=im/\im<=15)/\K (eV (bO ⟨op,im,ks⟩ j)) h
 |_=>False
def c9F(ks:List Int)(j:Nat):=wW (((↑ks.length:Int)-1)/ (2:Int)+1)+(↑j:Int)
def b8X(ks:List Int):=List.map (IV.int .i64) ks
theorem g3P(op im:Int)(e:Nat)(ks:List Int)(j:Nat)(h:Heap)(Q:KT):dF (aV f8G) env 100 dV bT bT [.agg [.int .i64 op,.int .i64 im,.vslice none e ks.length 1 (ks.map (IV.int .i64))],.int .i64 (j:Int)] h Q=(
 aC (aN [IV.agg [.int .i64 op,iI im,IV.vslice none 0 ks.length 1 (b8X ks)],iI (↑j:Int)]) ((1<=(↑ks.length:Int)/\(↑ks.length:Int)<=1000000)/\aC (decide (0<=(↑j:Int)) &&decide ((↑j:Int)< (↑ks.length:Int))) (aK .i64 (b8X ks) ((↑j:Int).toNat*1) fun n0=>aC (decide (0<=wW (c9F ks j)) &&decide (wW (c9F ks j)< (↑ks.length:Int))) (aK .i64 (b8X ks) ((wW (c9F ks j)).toNat*1) fun n1=>aC (decide ((0:Int)<=((↑ks.length:Int)-1)/ (2:Int)) &&decide (((↑ks.length:Int)-1)/ (2:Int)< (↑ks.length:Int))) (aK .i64 (b8X ks) ((((↑(ks.length):Int)-1)/ (2:Int)).toNat*1) fun n2=>Q (.agg [.int .i64 (wW (wW ((16:Int)*im)+(↑j:Int))),iI n0,iI n1,iI n2]) h))))):=by kernel_rfl
theorem g3Q: ∀xs h Q,e1M xs h Q->aU env 100 xs h Q:=by
 intro xs h Q hk;unfold e1M at hk;split at hk
 ·rename_i op im e n c q;obtain⟨ks,j,⟨rfl,rfl,rfl⟩,hb,hk⟩:=hk;refine aS (f0X) (g3P op im e ks j h Q) ?_;delta c9F b8X wW iI;have tn: ∀x:Nat,(x:Int).toNat=x:=h0Z
  obtain⟨h1,h2,h3,h4,h5,h6⟩:=hb;have w1:IntKind.i64.wrap (16*im)=16*im:=h0X _ (by omega);have w2:IntKind.i64.wrap (16*im+(j:Int))=16*im+(j:Int):=h0X _ (by omega);have m:((ks.length:Int)-1)/2=((ks.length/2:Nat):Int):=by omega
  have w3:IntKind.i64.wrap (((ks.length/2:Nat):Int)+1)=((ks.length/2+1:Nat):Int):=by rw [h0X _ (by omega)];omega
  have w4:IntKind.i64.wrap (((ks.length/2+1:Nat):Int)+(j:Int))=((ks.length/2+1+j:Nat):Int):=by rw [h0X _ (by omega)];omega
  rw [w1,w2,m,w3,w4];have hj1:j<ks.length:=by omega
  have hj2:ks.length/2+1+j<ks.length:=by omega
  have hj3:ks.length/2<ks.length:=by omega
  refine aA (by simp only [aN,bL,cH,h1L]) ⟨by omega,aP ⟨by omega,by omega⟩ (jM hj1 (by rw [tn,h1W]) (aP ⟨by omega,by omega⟩ (jM hj2 (by rw [tn,h1W]) (aP ⟨by omega,by omega⟩ (jM hj3 (by rw [tn,h1W]) (cO hk ?_))))))⟩;have e:(ks.length-1)/2=ks.length/2:=by omega
  simp only [eV,bO,e];rw [cQ hj1,cQ hj2,cQ hj3]
 ·exact hk.elim
def e1N:=bB 100 e1M f8G
theorem e1O:aT env e1N:=aI g3Q (f0X)
theorem f8H(i:Option Nat)(e n:Nat)(c:List IV):nZ Go.Proofs.Tryz.prog 104 (.vslice i e n 4 c)= .vslice none 0 n 4 c:=by kernel_rfl
def g3R(l:List Nd):Inv':=hJ (Nat×Heap×IV) (fun x=>[(0,.v (.vslice none 0 (l).length 3 ((l).flatMap cN))),(1,.v (.vslice none 0 (aG l).length 1 ((aG l).map (IV.int .i64)))),(6,.l 6 0),(10,.v (.vslice none 0 (l).length 3 ((l).flatMap cN))),(11,.v (.int .i64 (l.length:Int))),(5,.v x.2.2),(12,.v (.int .i64 (x.1:Int)))]) (fun x=>[(6,Keep.sbC l x.1)]) (fun x=>x.2.1) (fun x=>x.1<=l.length/\OvS x.2.1 x.2.2 (lvP l x.1)) (fun x=>l.length-x.1)
def g9A(l:List Nd):Inv':=hJ (Nat×Heap×IV×Nat) (fun x=>[(0,.v (.vslice none 0 (l).length 3 ((l).flatMap cN))),(1,.v (.vslice none 0 (aG l).length 1 ((aG l).map (IV.int .i64)))),(6,.l 6 0),(10,.v (.vslice none 0 (l).length 3 ((l).flatMap cN))),(11,.v (.int .i64 (l.length:Int))),(5,.v x.2.2.1),(12,.v (.int .i64 (x.1:Int))),(8,.l 8 0),(9,.v (.int .i64 (x.2.2.2:Int)))]) (fun x=>[(6,Keep.sbC l (x.1+1)),(8,cN (l.getD x.1 default))]) (fun x=>x.2.1)
 (fun x=>(x.1<l.length/\(aG l).getD x.1 0=3/\snP l x.1 (l.getD x.1 default).im=false)/\(1<=x.2.2.2/\x.2.2.2<=(l.getD x.1 default).ks.length/2)/\OvS x.2.1 x.2.2.1 (lvP l x.1++a7A (l.getD x.1 default) x.2.2.2)) (fun x=>(l.length-x.1)*100+(50-x.2.2.2))
def f8I(xs:List IV)(h:Heap)(K:KT):Prop:=match xs with
 | [.vslice none e1 n1 3 c1,.vslice none e2 n2 1 c2]=> ∃l:List Nd,(n1=l.length/\c1=l.flatMap cN)/\(n2=l.length/\c2=(aG l).map (IV.int .i64))/\LOk l/\K (.vslice none 0 (aO l).length 4 ((aO l).flatMap zK)) h
 |_=>False
def lL(l:List Nd):=TV.v (.vslice none 0 l.length 3 (List.flatMap cN l))
def c6G:=IV.int .i64
def a1P(l:List Nd):=TV.v (.vslice none 0 ((aG l).length) 1 (List.map c6G (aG l)))
def a0B(l:List Nd)(x_1:Nat×Heap×IV×Nat):=List.getD l x_1.1 default
def a0C(l:List Nd):=TV.v (.int .i64 (↑l.length:Int))
def a7D(x_1:Nat×Heap×IV×Nat):=x_1.2.2
def e1P:=TV.l 6 0
def g5N(l:List Nd)(x_1:Nat×Heap×IV×Nat):=[iI (Nd.op (a0B l x_1)),iI (Nd.im (a0B l x_1)),IV.vslice none 0 ((Nd.ks (a0B l x_1)).length) 1 (List.map c6G (Nd.ks (a0B l x_1)))]
abbrev g5Q(l:List Nd)(x_1:Nat×Heap×IV×Nat):=x_1.1<l.length/\List.getD (aG l) x_1.1 0=3/\snP l x_1.1 (Nd.im (a0B l x_1))=false
def f9V:=TV.l 8 0
abbrev g5S(l:List Nd)(x_1:Nat×Heap×IV×Nat):=1<=Prod.snd (a7D x_1)/\Prod.snd (a7D x_1)<=List.length (Nd.ks (a0B l x_1))/ (2:Nat)
def e3Z(l:List Nd)(x:Nat×Heap×IV)(y0:IV)(y1:Int)(y2:List IV)(y3:Heap):Prop:= ∃(yy:Nat×Heap×IV),some (lL l)=some (lL l)/\some (a1P l)=some (a1P l)/\some e1P=some e1P/\some (lL l)=some (lL l)/\some (a0C l)=some (a0C l)/\some (TV.v (y0))=some (TV.v yy.2.2)/\tI (y1)=tI (↑yy.1:Int)/\some (y2)=some (Keep.sbC l yy.1)/\y3=yy.2.1/\(yy.1
 <=l.length/\OvS yy.2.1 yy.2.2 (lvP l yy.1))/\l.length-yy.1<l.length-x.1
theorem g9B(l:List Nd)(e1 e2:Nat)(h:Heap)(Q:KT):dF (aV e1N) env 54 dV (icA 5 (g3R l) (tK 1000010 (g9A l))) bT [.vslice none e1 (l).length 3 ((l).flatMap cN),.vslice none e2 l.length 1 ((aG l).map (IV.int .i64))] h Q=(
 aC (aN [IV.vslice none 0 l.length 3 (List.flatMap cN l),IV.vslice none 0 l.length 1 (List.map c6G (aG l))]) ((∃(x:Nat×Heap×IV),some (lL l)=some (lL l)/\some (TV.v (.vslice none 0 l.length 1 (List.map c6G (aG l))))=some (a1P l)/\some e1P=some e1P/\some (lL l)=some (lL l)/\some (a0C l)=some (a0C l)/\some (TV.v IV.nilslice)=some (TV.v x.2.2)/\tI 0=tI (↑x.1:Int)/\some [IV.bool false,IV.bool false,IV.bool false,IV.bool false,IV.bool false,IV.bool false,IV.bool false,IV.bool false,IV.bool false,IV.bool false,IV.bool false,IV.bool false,IV.bool false,IV.bool false,IV.bool false,IV.bool false]=some (Keep.sbC l x.1)/\Heap.mk PT.nil 0=(x.2).1/\(x.1<=l.length/\OvS x.2.1 x.2.2 (lvP l x.1))/\True)/\∀(x:Nat×Heap×IV)(b:FF),x.1<=l.length/\OvS x.2.1 x.2.2 (lvP l x.1)->aM (decide ((↑x.1:Int)< (↑(l.length):Int))) (aC (decide (0<=(↑x.1:Int)) &&decide ((↑x.1:Int)< (↑l.length:Int))) (aK .i64 (List.flatMap cN l) ((↑x.1:Int).toNat*3) fun n0=>aK .i64 (List.flatMap cN l) ((↑x.1:Int).toNat*(3:Nat)+1) fun n1=>bH 1 (List.flatMap cN l) ((↑x.1:Int).toNat*3+1+1) fun(i2:Option Nat)(e3 l4:Nat)(c5:List IV)=>aC (decide (0<=(↑x.1:Int)) &&decide ((↑x.1:Int)< (↑((aG l).length):Int))) (aK .i64 (List.map c6G (aG l)) ((↑x.1:Int).toNat*1) fun n6=>aM (n6 !=3) (e3Z l x x.2.2 (wW ((↑x.1:Int)+1)) (Keep.sbC l x.1) x.2.1) (aC (decide (0<=n1) &&decide (n1<16)) (iS (Keep.sbC l x.1) ((0:Nat)+n1.toNat*1) fun b7=>aM b7 (e3Z l x x.2.2 (wW ((↑x.1:Int)+1)) (Keep.sbC l x.1) x.2.1) (aC (decide (0<=n1) &&decide (n1<16)) (aC (Nat.ble ((0:Nat)+n1.toNat*1+1) ((Keep.sbC l x.1).length)) (∃(M:Nat),(∃(x_1:Nat×Heap×IV×Nat),some (lL l)=some (lL l)/\some (a1P l)=some (a1P l)/\some e1P=some e1P/\some (lL l)=some (lL l)/\some (a0C l)=some (a0C l)/\some (TV.v x.2.2)=some (TV.v ((a7D x_1).1))/\tI (↑x.1:Int)=tI (↑x_1.1:Int)/\some f9V=some f9V/\tI (1:Int)=tI (↑((a7D x_1).2):Int)/\some (List.take ((0:Nat)+n1.toNat*1) (Keep.sbC l x.1)++ [IV.bool true]++List.drop ((0:Nat)+n1.toNat*1+1) (Keep.sbC l x.1))=some (Keep.sbC l (x_1.1+(1:Nat)))/\some [iI n0,iI n1,IV.vslice i2 e3 l4 1 c5]=some (g5N l x_1)/\x.2.1=x_1.2.1/\((g5Q l x_1)/\(g5S l x_1)/\OvS x_1.2.1 ((a7D x_1).1) (lvP l x_1.1++a7A (a0B l x_1) ((a7D x_1).2)))/\(l.length-x_1.1)*100+((50:Nat)- (a7D x_1).2)<=M)/\∀(x_1:Nat×Heap×IV×Nat)(b:FF),(g5Q l x_1)/\(g5S l x_1)/\OvS x_1.2.1 ((a7D x_1).1) (lvP l x_1.1++a7A (a0B l x_1) ((a7D x_1).2))->(l.length-x_1.1)*100+((50:Nat)- (a7D x_1).2)<=M->(1<=(↑((Nd.ks (a0B l x_1)).length):Int)/\(↑((Nd.ks (a0B l x_1)).length):Int)<=1000000)/\aM (decide ((↑((a7D x_1).2):Int)< ((↑((Nd.ks (a0B l x_1)).length):Int)-1)/ (2:Int))) (∃(ks:List Int),∃(j:Nat),((Nd.ks (a0B l x_1)).length=ks.length/\List.map c6G (Nd.ks (a0B l x_1))=List.map c6G ks/\(↑((a7D x_1).2):Int)=(↑j:Int))/\(ks.length% (2:Nat)=1/\3<=ks.length/\ks.length<=40/\j<ks.length/ (2:Nat)/\0<=Nd.im (a0B l x_1)/\Nd.im (a0B l x_1)<=15)/\qT x_1.2.1 (4:Nat) (32:Nat) ((a7D x_1).1) 1 [iI ((16:Int)*Nd.im (a0B l x_1)+(↑j:Int)),iI (List.getD ks j 0),iI (List.getD ks ((ks.length-1)/ (2:Nat)+1+j) 0),iI (List.getD ks ((ks.length-1)/ (2:Nat)) 0)] fun(i8 e9 l10:Nat)(c11:List IV)(g12:Heap)=> ∃(x:Nat×Heap×IV×Nat),some (lL l)=some (lL l)/\some (a1P l)=some (a1P l)/\some e1P=some e1P/\some (lL l)=some (lL l)/\some (a0C l)=some (a0C l)/\some (TV.v (.vslice (some i8) e9 l10 4 c11))=some (TV.v x.2.2.1)/\tI (↑x_1.1:Int)=some (TV.v (iI (↑x.1:Int)))/\some f9V=some f9V/\tI (wW ((↑((a7D x_1).2):Int)+1))=tI (↑x.2.2.2:Int)/\some (Keep.sbC l (x_1.1+1))=some (Keep.sbC l (x.1+1))/\some (g5N l x_1)=some [iI (Nd.op (List.getD l x.1 default)),iI (Nd.im (List.getD l x.1 default)),IV.vslice none 0 ((Nd.ks (List.getD l x.1 default)).length) 1 (List.map c6G (Nd.ks (List.getD l x.1 default)))]/\g12=x.2.1/\((x.1<l.length/\List.getD (aG l) x.1 0=3/\snP l x.1 (Nd.im (List.getD l x.1 default))=false)/\(1<=x.2.2.2/\Prod.snd x.2.2<=List.length (Nd.ks (List.getD l x.1 default))/ (2:Nat))/\OvS x.2.1 x.2.2.1 (lvP l x.1++a7A (List.getD l x.1 default) x.2.2.2))/\(l.length-x.1)*100+((50:Nat)-x.2.2.2)< (l.length-x_1.1)*100+((50:Nat)- (a7D x_1).2)) (e3Z l x ((a7D x_1).1) (wW ((↑x_1.1:Int)+1)) (Keep.sbC l (x_1.1+1)) x_1.2.1))))))))) (aC (aN [nZ Proofs.Tryz.prog (104:Nat) x.2.2]) (Q (eZ [nZ Proofs.Tryz.prog (104:Nat) x.2.2]) h)))):=by kernel_rfl
theorem g9C: ∀xs h Q,f8I xs h Q->aU env 54 xs h Q:=by
 intro xs h Q hk;unfold f8I at hk;split at hk
 ·rename_i e1 n1 c1 e2 n2 c2;obtain⟨l,⟨rfl,rfl⟩,⟨rfl,rfl⟩,hw,hk⟩:=hk;refine aS (e1O) (g9B l e1 e2 h Q) ?_;delta e3Z lL a1P a0B a0C a7D e1P g5N g5Q c6G f9V g5S tI wW iI;have tn: ∀x:Nat,(x:Int).toNat=x:=h0Z
  obtain⟨hll,hks⟩:=(show LOk l from hw);have hsl:=bD l;refine aA (by simp only [aN,bL,gI,cH,h1L]) ⟨⟨(0,Heap.empty,.nilslice),rfl,(by rw [hsl]),rfl,rfl,rfl,rfl,rfl,rfl,rfl,⟨h1N _,.inl ⟨rfl,rfl⟩⟩,trivial⟩,?_⟩;rintro⟨i,g,ov⟩ _ ⟨hi,hov⟩;dsimp only at hi hov⊢;refine dW (fun c=>?_) (fun c=>?_)
  ·have hlt:i<l.length:=by omega
   have hs:i< (aG l).length:=by omega
   have hD:l.getD i default=l[i]:=cQ hlt;have hm:l[i].ks.length<=40:=hks _ (h1B hlt);have hwr:some (TV.v (IV.int IntKind.i64 (IntKind.i64.wrap ((i:Int)+1))))=some (TV.v (IV.int IntKind.i64 ((i+1:Nat):Int))):=by rw [h0X _ (by omega)];rfl
   refine aP ⟨by omega,by omega⟩ (a6X hlt (by rw [tn]) (aP ⟨by omega,by omega⟩ (jM hs (by rw [tn,h1W]) ?_)));refine aD (fun c3=>?_) (fun c3=>?_)
   ·rw [bne_iff_ne]at c3;have hn: ¬ ((aG l).getD i 0=3/\snP l i (l.getD i default).im=false):=fun q=>c3 (by rw [<-q.1,cQ hs])
    exact⟨(i+1,g,ov),rfl,rfl,rfl,rfl,rfl,rfl,hwr,(by rw [b5T hn]),rfl,⟨hlt,by rw [(a4D hn).2];exact hov⟩,by dsimp only;omega⟩
   ·rw [bne_eq_false_iff_eq]at c3;have h3:(aG l).getD i 0=3:=by rw [cQ hs];exact c3
    have hlp:=sG h3;have him:=hlp.im;have hod:=hlp.odd;rw [hD]at him hod;have hv:(l.getD i default).im=((l[i].im.toNat:Nat):Int):=by rw [hD];omega
    have hv16:l[i].im.toNat<16:=by omega
    refine aP ⟨by omega,by omega⟩ (lG (by rw [h1Q,h1W];exact zL hv16) (aD (fun c4=>?_) (fun c4=>?_)))
    ·have hn: ¬ ((aG l).getD i 0=3/\snP l i (l.getD i default).im=false):=fun q=>by rw [hv,c4]at q;cases q.2
     exact⟨(i+1,g,ov),rfl,rfl,rfl,rfl,rfl,rfl,hwr,(by rw [b5T hn]),rfl,⟨hlt,by rw [(a4D hn).2];exact hov⟩,by dsimp only;omega⟩
    ·have c4':snP l i (l.getD i default).im=false:=by rw [hv];exact c4
     refine aP ⟨by omega,by omega⟩ (aA (by rw [h1S,b1D];omega) ⟨(l.length-i)*100+49,⟨(i,g,ov,1),rfl,rfl,rfl,rfl,rfl,rfl,rfl,rfl,rfl,(by rw [h1Q,h1W,e6F h3 hv hv16]),(by dsimp only;rw [hD]),rfl,⟨⟨hlt,h3,c4'⟩,⟨h1D _,by dsimp only;rw [hD];omega⟩,(h3V _).symm▸hov⟩,by dsimp only;omega⟩,?_⟩);rintro⟨i2,g2,ov2,j⟩ _ ⟨⟨hlt2,h32,hn2⟩,⟨j1,j2⟩,hov2⟩ hM;dsimp only at hlt2 h32 hn2 j1 j2 hov2 hM⊢;have hlp2:=sG h32;have hod2:=hlp2.odd;have him2:=hlp2.im;have hl2:(l.getD i2 default).ks.length<=40:=by rw [cQ hlt2];exact hks _ (h1B hlt2)
     refine⟨by omega,dW (fun cj=>?_) (fun cj=>?_)⟩
     ·refine⟨(l.getD i2 default).ks,j,⟨rfl,rfl,rfl⟩,⟨by omega,by omega,by omega,by omega,by omega,by omega⟩,hov2.app (x:=bO (l.getD i2 default) j) rfl ?_ (fun id e n c g3 ho=>⟨(i2,g3,.vslice (some id) e n 4 c,j+1),rfl,rfl,rfl,rfl,rfl,rfl,rfl,rfl,(by rw [h0X _ (by omega)];rfl),rfl,rfl,rfl,⟨⟨hlt2,h32,hn2⟩,⟨by dsimp only;omega,by dsimp only;omega⟩,by dsimp only;rw [d1J j1,<-List.append_assoc];exact ho⟩,by dsimp only;omega⟩)⟩;have b1:=d5N l i2;have b2:(a7A (l.getD i2 default) j).length=j-1:=by unfold a7A;rw [h1P,h5I]
      rw [h1E,b2];omega
     ·have hje:j=(l.getD i2 default).ks.length/2:=by omega
      subst hje;rw [<-d5M ⟨h32,hn2⟩]at hov2;exact⟨(i2+1,g2,ov2),rfl,rfl,rfl,rfl,rfl,rfl,(by rw [h0X _ (by omega)];rfl),rfl,rfl,⟨hlt2,hov2⟩,by dsimp only;omega⟩
  ·obtain rfl:i=l.length:=by omega
   rcases hov with⟨rfl,e⟩| ⟨io,rfl,_⟩
   ·rw [show nZ Go.Proofs.Tryz.prog 104 .nilslice= .vslice none 0 0 4 [] by kernel_rfl];refine aA rfl ?_;have e2:aO l=[]:=e;rw [e2]at hk;exact hk
   ·rw [f8H];refine aA ?_ hk;simp only [aN,bL,h1L];exact a8W _
 ·exact hk.elim
def f8J:=bB 54 f8I e1N
theorem f0Y:aT env f8J:=aI g9C (e1O)
def e1Q(xs:List IV)(h:Heap)(K:KT):Prop:=match xs with
 | [.int .i64 n,.bool s]=>bJ n/\K (.tuple [eI (upB n s).1,.bool (upB n s).2]) h
 |_=>False
theorem g3S(n:Int)(s:Bool)(h:Heap)(Q:KT):dF (aV f8J) env 110 dV bT bT [.int .i64 n,.bool s] h Q=(
 aM s (aM (n==(-9223372036854775808:Int)) (Q (.tuple [.agg [.int .i64 0,iI 0],IV.bool false]) h) (aM s (Q (.tuple [.agg [.int .i64 (-9223372036854775808),iI (wW (n-1))],IV.bool true]) h) (Q (.tuple [.agg [.int .i64 (-9223372036854775808),iI n],IV.bool true]) h))) (aM s (Q (.tuple [.agg [.int .i64 (-9223372036854775808),iI (wW (n-1))],IV.bool true]) h) (Q (.tuple [.agg [.int .i64 (-9223372036854775808),iI n],IV.bool true]) h))):=by kernel_rfl
theorem g3T: ∀xs h Q,e1Q xs h Q->aU env 110 xs h Q:=by
 intro xs h Q hk;unfold e1Q at hk;split at hk
 ·rename_i n s;obtain⟨hb,hk⟩:=hk;refine aS (f0Y) (g3S n s h Q) ?_;delta wW iI
  cases s
  ·exact aD (fun c=>by cases c) (fun _=>aD (fun c=>by cases c) (fun _=>cO hk (by simp [upB,eI];try rfl)))
  ·refine aD (fun _=>aD (fun c=>?_) (fun c=>aD (fun _=>?_) (fun c=>by cases c))) (fun c=>by cases c)
   ·rw [beq_iff_eq]at c;subst c;exact hk
   ·rw [beq_eq_false_iff_ne]at c;unfold upB at hk;rw [if_neg (fun q=>c q.2)]at hk;have:=hb;unfold bJ at this;refine cO hk ?_;rw [h0X _ (by omega)];rfl
 ·exact hk.elim
def e1R:=bB 110 e1Q f8J
theorem e1S:aT env e1R:=aI g3T (f0Y)
def e1T(xs:List IV)(h:Heap)(K:KT):Prop:=match xs with
 | [.int .i64 n,.bool s]=>bJ n/\K (.tuple [eI (frB n s).1,.bool (frB n s).2]) h
 |_=>False
theorem g3U(n:Int)(s:Bool)(h:Heap)(Q:KT):dF (aV e1R) env 111 dV bT bT [.int .i64 n,.bool s] h Q=(
 aM s (aM (n==9223372036854775807) (Q (.tuple [.agg [.int .i64 0,iI 0],IV.bool false]) h) (aM s (Q (.tuple [.agg [.int .i64 (wW (n+1)),iI 9223372036854775807],IV.bool true]) h) (Q (.tuple [.agg [.int .i64 n,iI 9223372036854775807],IV.bool true]) h))) (aM s (Q (.tuple [.agg [.int .i64 (wW (n+1)),iI 9223372036854775807],IV.bool true]) h) (Q (.tuple [.agg [.int .i64 n,iI 9223372036854775807],IV.bool true]) h))):=by kernel_rfl
theorem g3V: ∀xs h Q,e1T xs h Q->aU env 111 xs h Q:=by
 intro xs h Q hk;unfold e1T at hk;split at hk
 ·rename_i n s;obtain⟨hb,hk⟩:=hk;refine aS (e1S) (g3U n s h Q) ?_;delta wW iI
  cases s
  ·exact aD (fun c=>by cases c) (fun _=>aD (fun c=>by cases c) (fun _=>cO hk (by simp [frB,eI];try rfl)))
  ·refine aD (fun _=>aD (fun c=>?_) (fun c=>aD (fun _=>?_) (fun c=>by cases c))) (fun c=>by cases c)
   ·rw [beq_iff_eq]at c;subst c;exact hk
   ·rw [beq_eq_false_iff_ne]at c;unfold frB at hk;rw [if_neg (fun q=>c q.2)]at hk;have:=hb;unfold bJ at this;refine cO hk ?_;rw [h0X _ (by omega)];rfl
 ·exact hk.elim
def e1U:=bB 111 e1T e1R
theorem e1V:aT env e1U:=aI g3V (e1S)
def f8K(xs:List IV)(h:Heap)(K:KT):Prop:=match xs with
 | [.agg [.int .i64 a,.int .i64 b],.agg [.int .i64 c,.int .i64 d]]=>K (.bool (decide (c<=a) &&decide (b<=d))) h
 |_=>False
theorem g9D(a b c d:Int)(h:Heap)(Q:KT):dF (aV e1U) env 59 dV bT bT [.agg [.int .i64 a,.int .i64 b],.agg [.int .i64 c,.int .i64 d]] h Q=(
 aM (decide (a>=c)) (Q (.bool (decide (b<=d))) h) (Q (.bool false) h)):=by kernel_rfl
theorem g9E: ∀xs h Q,f8K xs h Q->aU env 59 xs h Q:=by
 intro xs h Q hk;unfold f8K at hk;split at hk
 ·rename_i a b c d;refine aS (e1V) (g9D a b c d h Q) ?_;refine dW (fun c1=>cO hk (by rw [decide_eq_true (show c<=a from c1),h2G])) (fun c1=>cO hk (by rw [decide_eq_false (show¬c<=a from c1),h3Z]))
 ·exact hk.elim
def f8L:=bB 59 f8K e1U
theorem f0Z:aT env f8L:=aI g9E (e1V)
def e1W(id:Nat)(h g:Heap)(C:List (Int×Iv))(m m2:Nat):Prop:=(∃a b c d:IV,h.get id= .cells [a,b,c,d]/\g.get id= .cells [a,b,.map m,d])/\(∃es:List (Int×Iv),g.get m= .map (cM eI es)/\∀k,kG k es=lP C k)/\(∃es:List (Int×Bool),g.get m2= .map (cM IV.bool es)/\∀k,kG k es=if lI C k=true then some true else none)/\(h.next<=m/\h.next<=m2/\m≠m2/\m<g.next/\m2<g.next)/\∀j,j<h.next->j≠id->g.get j=h.get j
def a1J(id:Nat)(C:List (Int×Iv))(e1:Nat)(h:Heap):Inv':=hJ (Nat×Heap×Nat×Nat) (fun x=>[(0,.v (.ptr id 0)),(4,.v (.map x.2.2.2)),(12,.v (.vslice none e1 C.length 3 (C.flatMap nS))),(13,.v (.int .i64 (C.length:Int))),(14,.v (.int .i64 (x.1:Int)))]) (fun _=>[]) (fun x=>x.2.1) (fun x=>x.1<=C.length/\e1W id h x.2.1 (C.take x.1) x.2.2.1 x.2.2.2) (fun x=>C.length-x.1)
def e1X(xs:List IV)(h:Heap)(K:KT):Prop:=match xs with
 | [.ptr id 0,.vslice none e1 n1 3 c1]=> ∃(C:List (Int×Iv))(a b c d:IV),(n1=C.length/\c1=C.flatMap nS)/\(h.get id= .cells [a,b,c,d]/\id<h.next/\C.length<=1152921504606846976)/\∀(h2:Heap)(m:Nat)(es:List (Int×Iv)),h2.get id= .cells [a,b,.map m,d]->(h2.get m= .map (cM eI es)/\∀k,kG k es=lP C k)->(h.next<=m/\m<h2.next)->(∀j,j<h.next->j≠id->h2.get j=h.get j)->K (.tuple []) h2
 |_=>False
def a6B(x:Nat×Heap×Nat×Nat):=x.2.2
def tZ(x:Nat×Heap×Nat×Nat):=(a6B x).2
def mF(x:Nat×Heap×Nat×Nat):=x.2.1
def e1Y(C:IvC)(e1:Nat):=TV.v (.vslice none e1 C.length 3 (List.flatMap nS C))
def b3C:=TypeDesc.int .i64
def e1Z(C:IvC):=TV.v (.int .i64 (↑C.length:Int))
def a6C(yy:Nat×Heap×Nat×Nat):=yy.2.2
def b3D(n1:Int):=iI n1
def e2A(id:Nat):=TV.v (.ptr id 0)
def a9W(C:IvC)(e1 id:Nat)(h:Heap)(x:Nat×Heap×Nat×Nat)(y0:Heap):Prop:= ∃(yy:Nat×Heap×Nat×Nat),some (e2A id)=some (e2A id)/\some (TV.v (.map (tZ x)))=some (TV.v (.map ((a6C yy).2)))/\some (e1Y C e1)=some (e1Y C e1)/\some (e1Z C)=some (e1Z C)/\tI (wW ((↑x.1:Int)+1))=tI (↑yy.1:Int)/\y0=yy.2.1/\(yy.1<=C.length/\(∃(a b:IV),
 ∃(c d:IV),h.get id=IObj.cells [a,b,c,d]/\Heap.get yy.2.1 id=IObj.cells [a,b,IV.map ((a6C yy).1),d])/\(∃(es:List (Int×Iv)),yy.2.1.get ((a6C yy).1)=IObj.map (cM eI es)/\∀(k:Int),kG k es=lP (List.take yy.1 C) k)/\(∃(es:List (Int×Bool)),Heap.get
 yy.2.1 ((a6C yy).2)=IObj.map (cM IV.bool es)/\∀(k:Int),kG k es=if lI (List.take yy.1 C) k=true then some true else none)/\(h.next<=Prod.fst (a6C yy)/\Heap.next h<=Prod.snd (a6C yy)/\Prod.fst (a6C yy)≠Prod.snd (a6C yy)/\Prod.fst (a6C yy)<yy.2.1.next/\Prod.snd
 (a6C yy)<yy.2.1.next)/\∀(j:Nat),j<h.next->j≠id->Heap.get yy.2.1 j=h.get j)/\C.length-yy.1<C.length-x.1
theorem g3W(id:Nat)(C:IvC)(e1:Nat)(h:Heap)(Q:KT):dF (aV f8L) env 56 dV (tK 4 (a1J id C e1 h)) bT [.ptr id 0,.vslice none e1 C.length 3 (C.flatMap nS)] h Q=(
 aF (h.push (IObj.map [])) id fun r0=>aC (Nat.ble 3 r0.length) ((∃(x:Nat×Heap×Nat×Nat),some (e2A id)=some (e2A id)/\some (TV.v (.map (h.next+1)))=some (TV.v (.map (tZ x)))/\some (e1Y C e1)=some (e1Y C e1)/\some (e1Z C)=some (e1Z C)/\tI 0=tI (↑x.1:Int)/\Heap.push ((h.push (IObj.map [])).set id (IObj.cells (List.take 2 r0++ [IV.map (h.next)]++List.drop 3 r0))) (IObj.map [])=x.2.1/\(x.1<=C.length/\(∃(a b:IV),∃(c d:IV),h.get id=IObj.cells [a,b,c,d]/\Heap.get (mF x) id=IObj.cells [a,b,IV.map ((a6B x).1),d])/\(∃(es:List (Int×Iv)),(mF x).get ((a6B x).1)=IObj.map (cM eI es)/\∀(k:Int),kG k es=lP (List.take x.1 C) k)/\(∃(es:List (Int×Bool)),(mF x).get (tZ x)=IObj.map (cM IV.bool es)/\∀(k:Int),kG k es=if lI (List.take x.1 C) k=true then some true else none)/\(h.next<=Prod.fst (a6B x)/\Heap.next h<=Prod.snd (a6B x)/\Prod.fst (a6B x)≠Prod.snd (a6B x)/\Prod.fst (a6B x)< (mF x).next/\Prod.snd (a6B x)< (mF x).next)/\∀(j:Nat),j<h.next->j≠id->Heap.get (mF x) j=h.get j)/\True)/\∀(x:Nat×Heap×Nat×Nat)(b:FF),x.1<=C.length/\e1W id h (mF x) (List.take (x.1) C) ((a6B x).1) (tZ x)->aM (decide ((↑x.1:Int)< (↑C.length:Int))) (aC (decide (0<=(↑x.1:Int)) &&decide ((↑x.1:Int)< (↑C.length:Int))) (aK .i64 (List.flatMap nS C) ((↑x.1:Int).toNat*3) fun(n1:Int)=>aK .i64 (List.flatMap nS C) ((↑x.1:Int).toNat*3+1) fun n2=>aK .i64 (List.flatMap nS C) ((↑x.1:Int).toNat*3+1+1) fun n3=>fV (mF x) (tZ x) b3C (b3D n1) (fun(r4:List IV)=>iS r4 0 fun b5=>aM (!b5) (aM (decide (n2<=n3)) (aF (mF x) id fun r6=>qY r6 2 fun(i7:Nat)=>kS (mF x) i7 b3C (b3D n1) (IV.agg [.int .i64 n2,iI n3]) fun(es8:List (IV×IV))=>kS ((mF x).set i7 (IObj.map es8)) (tZ x) b3C (b3D n1) (IV.bool true) fun(es9:List (IV×IV))=>a9W C e1 id h x (((mF x).set i7 (IObj.map es8)).set (tZ x) (IObj.map es9))) (kS (mF x) (tZ x) b3C (b3D n1) (IV.bool true) fun(es10:List (IV×IV))=>a9W C e1 id h x ((mF x).set (tZ x) (IObj.map es10)))) (kS (mF x) (tZ x) b3C (b3D n1) (IV.bool true) fun(es11:List (IV×IV))=>a9W C e1 id h x ((mF x).set (tZ x) (IObj.map es11)))) (aM (decide (n2<=n3)) (aF (mF x) id fun r12=>qY r12 2 fun(i13:Nat)=>kS (mF x) i13 b3C (b3D n1) (IV.agg [.int .i64 n2,iI n3]) fun(es14:List (IV×IV))=>kS ((mF x).set i13 (IObj.map es14)) (tZ x) b3C (b3D n1) (IV.bool true) fun(es15:List (IV×IV))=>a9W C e1 id h x (((mF x).set i13 (IObj.map es14)).set (tZ x) (IObj.map es15))) (kS (mF x) (tZ x) b3C (b3D n1) (IV.bool true) fun(es16:List (IV×IV))=>a9W C e1 id h x ((mF x).set (tZ x) (IObj.map es16)))))) (Q (.tuple []) (mF x)))):=by kernel_rfl
theorem g3X: ∀xs h Q,e1X xs h Q->aU env 56 xs h Q:=by
 intro xs h Q hk;unfold e1X at hk;split at hk
 ·rename_i id e1 n1 c1;obtain⟨C,a,b,c,d,⟨rfl,rfl⟩,hb,hk⟩:=hk;refine aS (f0Z) (g3W id C e1 h Q) ?_;delta a9W tZ mF e1Y b3C e1Z a6C a6B b3D e2A tI wW iI;have tn: ∀x:Nat,(x:Int).toNat=x:=h0Z
  obtain⟨hg,hid,hC⟩:=hb;have hg1:(h.push (.map [])).get id= .cells [a,b,c,d]:=(aJ hid).trans hg;refine aB hg1 (aA rfl ⟨⟨(0,((h.push (.map [])).set id (.cells [a,b,.map h.next,d])).push (.map []),h.next,h.next+1),rfl,rfl,rfl,rfl,rfl,rfl,⟨h1N _,⟨a,b,c,d,hg,?_⟩,⟨[],?_,fun _=>rfl⟩,⟨[],?_,fun _=>rfl⟩,⟨h1D _,h4E _,h4P (h1G _),by show h.next<h.next+1+1;omega,by show h.next+1<h.next+1+1;omega⟩,fun j hj hji=>?_⟩,trivial⟩,?_⟩)
  ·exact(aJ (show id<h.next+1 by omega)).trans aH
  ·exact(aJ (show h.next<h.next+1 by omega)).trans ((aE (h3H hid)).trans aR)
  ·exact aR
  ·exact(aJ (show j<h.next+1 by omega)).trans ((aE hji).trans (aJ hj))
  rintro⟨j,g,m,m2⟩ _ ⟨hj,hss⟩;obtain⟨⟨a',b',c',d',e1,e2⟩,⟨es,e3,e4⟩,⟨es2,e5,e6⟩,⟨n1,n2,n3,n4,n5⟩,fr⟩:=(show e1W id h g (C.take j) m m2 from hss);obtain⟨rfl,rfl,rfl,rfl⟩:a=a'/\b=b'/\c=c'/\d=d':=by
   rw [hg]at e1;simpa using e1
  dsimp only at hj⊢;refine dW (fun cj=>?_) (fun cj=>?_)
  ·have hlt:j<C.length:=by omega
   have et:C.take (j+1)=C.take j++ [C[j]]:=h1J hlt;have hwr:some (TV.v (IV.int IntKind.i64 (IntKind.i64.wrap ((j:Int)+1))))=some (TV.v (IV.int IntKind.i64 ((j+1:Nat):Int))):=by rw [h0X _ (by omega)];rfl
   refine aP ⟨by omega,by omega⟩ (bF (by rw [tn];exact vG hlt 0 (by decide)) (bF (by rw [tn];exact vG hlt 1 (by decide)) (bF (by rw [tn];exact vG hlt 2 (by decide)) ?_)));have skip:(lI (C.take j) C[j].1=true\/ ¬C[j].2.1<=C[j].2.2)->e1W id h (g.set m2 (.map (cM IV.bool (upM C[j].1 true es2)))) (C.take (j+1)) m m2:=fun q=>by
    rw [et];exact⟨⟨a,b,c,d,hg,by rw [aE (by omega)];exact e2⟩,⟨es,by rw [aE n3];exact e3,d5O e4 q⟩,⟨_,aH,tP e6⟩,⟨n1,n2,n3,n4,n5⟩,fun q hq hqi=>(aE (by omega)).trans (fr q hq hqi)⟩
   cases hh:lI (C.take j) C[j].1 with
   |true=>
    refine eQ e5 (cX (by rw [e6,if_pos hh])) (lG rfl (bf rfl (gJ e5 (oE _ _ _ _) ⟨(j+1,_,m,m2),(by rfl),(by rfl),(by rfl),(by rfl),hwr,(by rfl),⟨hlt,skip (.inl hh)⟩,by dsimp only;omega⟩)))
   |false=>
    refine iV e5 (eL (by rw [e6,if_neg (by rw [hh];decide)])) (dW (fun cv=>?_) (fun cv=>?_))
    ·refine aB e2 (jY rfl (gJ e3 (oE eI C[j].1 C[j].2 es) (gJ ((aE n3.symm).trans e5) (oE _ _ _ _) ⟨(j+1,(g.set m (.map (cM eI (upM C[j].1 C[j].2 es)))).set m2 (.map (cM IV.bool (upM C[j].1 true es2))),m,m2),rfl,rfl,rfl,rfl,hwr,rfl,⟨hlt,?_⟩,by dsimp only;omega⟩)));show e1W id h _ (C.take (j+1)) m m2;rw [et];exact⟨⟨a,b,c,d,hg,by rw [aE (by omega),aE (by omega)];exact e2⟩,⟨_,by rw [aE n3];exact aH,d1L e4 hh cv⟩,⟨_,aH,tP e6⟩,⟨n1,n2,n3,n4,n5⟩,fun q hq hqi=>(aE (by omega)).trans ((aE (by omega)).trans (fr q hq hqi))⟩
    ·exact gJ e5 (oE _ _ _ _) ⟨(j+1,_,m,m2),(by rfl),(by rfl),(by rfl),(by rfl),hwr,(by rfl),⟨hlt,skip (.inr cv)⟩,by dsimp only;omega⟩
  ·have hjl:C.take j=C:=h1H (by omega);rw [hjl]at e4;exact hk g m es e2 ⟨e3,e4⟩ ⟨n1,n4⟩ fr
 ·exact hk.elim
def e2B:=bB 56 e1X f8L
theorem e2C:aT env e2B:=aI g3X (f0Z)
def knS(h:Heap)(m:Nat)(kn:Int->Option Iv):Prop:= ∃es:List (Int×Iv),h.get m= .map (cM eI es)/\∀k,kG k es=kn k
def unS(h:Heap)(mu:IV)(un:Int->Bool):Prop:=(mu= .nilmap/\∀k,un k=false) \/ ∃(m:Nat)(es:List (Int×Bool)),mu= .map m/\h.get m= .map (cM IV.bool es)/\∀k,un k=(kG k es).getD false
def e2D(xs:List IV)(h:Heap)(K:KT):Prop:=match xs with
 | [.ptr id 0,.int .i64 v]=> ∃(a b mu:IV)(mk:Nat)(kn:Int->Option Iv)(un:Int->Bool),h.get id= .cells [a,b,.map mk,mu]/\(knS h mk kn/\unS h mu un/\(un v=true->kn v=none))/\K (.tuple [eI ((kn v).getD aL),.bool (un v)]) h
 |_=>False
def e2E:=[iI (-9223372036854775808),iI 9223372036854775807]
def c9I:=IV.tuple [.agg e2E,IV.bool false]
def b8Y:=TypeDesc.int .i64
theorem g3Y(id:Nat)(v:Int)(h:Heap)(Q:KT):dF (aV e2B) env 106 dV bT bT [.ptr id 0,.int .i64 v] h Q=(
 aF h id fun r0=>a2N r0 (3:Nat) (aF h id fun r1=>qY r1 2 fun(i2:Nat)=>fV h i2 b8Y (iI v) (fun r3=>a1B (2:Nat) r3 0 fun x4=>aK .i64 x4 0 fun n5=>aK .i64 x4 1 fun n6=>Q (.tuple [.agg [.int .i64 n5,iI n6],IV.bool false]) h) (Q c9I h)) fun(i7:Nat)=>fV h i7 b8Y (iI v) (fun r8=>iS r8 0 fun b9=>aM b9 (Q (.tuple [.agg e2E,IV.bool true]) h) (aF h id fun r10=>qY r10 2 fun(i11:Nat)=>fV h i11 b8Y (iI v) (fun r12=>a1B (2:Nat) r12 0 fun x13=>aK .i64 x13 0 fun n14=>aK .i64 x13 1 fun n15=>Q (.tuple [IV.agg [.int .i64 n14,iI n15],IV.bool false]) h) (Q c9I h))) (aF h id fun r16=>qY r16 2 fun(i17:Nat)=>fV h i17 b8Y (iI v) (fun r18=>a1B (2:Nat) r18 0 fun x19=>aK .i64 x19 0 fun n20=>aK .i64 x19 1 fun n21=>Q (.tuple [.agg [.int .i64 n20,iI n21],IV.bool false]) h) (Q c9I h))):=by kernel_rfl
theorem g3Z: ∀xs h Q,e2D xs h Q->aU env 106 xs h Q:=by
 intro xs h Q hk;unfold e2D at hk;split at hk
 ·rename_i id v;obtain⟨a,b,mu,mk,kn,un,hg,hb,hk⟩:=hk;refine aS (e2C) (g3Y id v h Q) ?_;delta e2E c9I b8Y iI;obtain⟨⟨es,k1,k2⟩,hu,hn⟩:=hb;have kp:un v=false->fV h mk (.int .i64) (.int .i64 v) (fun r3=>a1B 2 r3 0 fun x4=>aK .i64 x4 0 fun n5=>aK .i64 x4 1 fun n6=>Q (.tuple [.agg [.int .i64 n5,.int .i64 n6],.bool false]) h) (Q (.tuple [.agg [.int .i64 (-9223372036854775808),.int .i64 9223372036854775807],.bool false]) h):=fun u=>by
   rw [u]at hk
   cases e:kn v with
   |some r=>
    rw [e]at hk;exact eQ k1 (cX ((k2 v).trans e)) (a4A rfl rfl (bF rfl (bF rfl hk)))
   |none=>
    rw [e]at hk;exact iV k1 (eL ((k2 v).trans e)) hk
  refine aB hg ?_;rcases hu with⟨rfl,u0⟩| ⟨m,es2,rfl,u1,u2⟩
  ·exact d5I rfl (aB hg (jY rfl (kp (u0 v))))
  ·refine d5J rfl ?_
   cases e:kG v es2 with
   |some x=>
    refine eQ u1 (cX e) (lG rfl ?_);have u3:un v=x:=by rw [u2,e];rfl
    cases x with
    |true=>
     refine bt rfl ?_;rw [u3,hn u3]at hk;exact hk
    |false=>exact bf rfl (aB hg (jY rfl (kp u3)))
   |none=>
    exact iV u1 (eL e) (aB hg (jY rfl (kp (by rw [u2,e];rfl))))
 ·exact hk.elim
def e2F:=bB 106 e2D e2B
theorem e2G:aT env e2F:=aI g3Z (e2C)
abbrev KnT:=Int->Option Iv
abbrev UnT:=Int->Bool
def AzS(h:Heap)(l:List Nd)(mk:Nat)(mu:IV)(kn:KnT)(un:UnT):Prop:=LOk l/\(∀n∈l,bJ n.im)/\(knS h mk kn/\mk<h.next)/\(unS h mu un/\∀m,mu= .map m->m<h.next)/\KOk kn/\∀v,un v=true->kn v=none
def ivI(id:Nat)(l:List Nd)(mk:Nat)(mu:IV)(kn:KnT)(un:UnT)(h:Heap):Inv':=hJ (Nat×Heap×Nat×Nat×List Iv×List Bool) (fun x=>[(0,.v (.ptr id 0)),(4,.v (.hslice x.2.2.1 0 l.length 2)),(5,.v (.hslice x.2.2.2.1 0 l.length 1)),(27,.v (.vslice none 0 (l).length 3 ((l).flatMap cN))),(28,.v (.int .i64 (l.length:Int))),(29,.v (.int .i64 (x.1:Int)))]) (fun _=>[]) (fun x=>x.2.1) (fun x=>IVg l kn un x.1 x.2.1 x.2.2.1 x.2.2.2.1 x.2.2.2.2.1 x.2.2.2.2.2 h/\True) (fun x=>l.length-x.1)
def e2H(xs:List IV)(h:Heap)(K:KT):Prop:=match xs with
 | [.ptr id 0]=> ∃(l:List Nd)(mk:Nat)(mu:IV)(kn:KnT)(un:UnT),(h.get id= .cells [.vslice none 0 (l).length 3 ((l).flatMap cN),.vslice none 0 (aG l).length 1 ((aG l).map (IV.int .i64)),.map mk,mu]/\id<h.next)/\AzS h l mk mu kn un/\∀(h2:Heap)(iR iU:Nat),h2.get iR= .cells ((rG l kn).flatMap cR)->h2.get iU= .cells ((uG l un).map IV.bool)->(h.next<=iR/\iR<h2.next/\h.next<=iU/\iU<h2.next/\iR≠iU)->(∀j,j<h.next->h2.get j=h.get j)->K (.tuple [.hslice iR 0 l.length 2,.hslice iU 0 l.length 1]) h2
 |_=>False
def jQ(x:Nat×Heap×Nat×Nat×List Iv×List Bool):=(0:Nat)+(↑x.1:Int).toNat*2+2
def eY(x:Nat×Heap×Nat×Nat×List Iv×List Bool):=x.2.2.1
def rB(x:Nat×Heap×Nat×Nat×List Iv×List Bool):=(0:Nat)+(↑x.1:Int).toNat*2
def dS(x:Nat×Heap×Nat×Nat×List Iv×List Bool)(r21:List IV):=x.2.1.set (eY x) (IObj.cells (List.take (rB x) r21++ [iI (-9223372036854775808),iI 9223372036854775807]++List.drop (jQ x) r21))
def a7E(x:Nat×Heap×Nat×Nat×List Iv×List Bool)(r21 r69:List IV)(n59 n60 n63 n64 n67 n68:Int):=(dS x r21).set (eY x) (IObj.cells (List.take (rB x) r69++ [iI ((mB n59 n60 n63 n64 n67 n68).1),iI ((mB n59 n60 n63 n64 n67 n68).2)]++List.drop (jQ x) r69))
def jN(l:List Nd):=l.length
def nI(l:List Nd)(x:Nat×Heap×Nat×Nat×List Iv×List Bool):=decide (0<=(↑x.1:Int)) &&decide ((↑x.1:Int)< (↑(jN l):Int))
def gS(x:Nat×Heap×Nat×Nat×List Iv×List Bool):=x.2.2.2.1
def oH(x:Nat×Heap×Nat×Nat×List Iv×List Bool):=(0:Nat)+(↑x.1:Int).toNat*1+1
def e2I(h:Heap)(l3:Nat):=((h.push IObj.free).push IObj.free).set (h.next) (IObj.cells (fF ((↑l3:Int).toNat) [iI 0,iI 0]))
def a6D(x:Nat×Heap×Nat×Nat×List Iv×List Bool):=(0:Nat)+(↑x.1:Int).toNat*1
def d2N(ks:List Int)(j:Nat):=(ks.length-1)/ (2:Nat)+1+j
def b3E(l19:Nat):=true&&decide (0< (↑l19:Int))
def e2J(n15 n103 n104 n106 n107:Int):=[iI ((oT n15 n103 n104 n106 n107).1),iI ((oT n15 n103 n104 n106 n107).2)]
def e8E(l:List Nd):=TV.v (.vslice none 0 (jN l) 3 (List.flatMap cN l))
def e2K(n44 n45 n47 n48:Int):=[iI (min n44 n47),iI (max n45 n48)]
def f8M(l:List Nd)(ks:List Int)(j:Nat):=decide (0<=List.getD ks (d2N ks j) 0) &&decide (List.getD ks (d2N ks j) 0< (↑(jN l):Int))
def e8F(l:List Nd):=TV.v (.int .i64 (↑(jN l):Int))
def f8N(n16:Int)(kn_1:Int->Option Iv):=[iI ((Option.getD (kn_1 n16) aL).1),iI ((Option.getD (kn_1 n16) aL).2)]
def e8G(l19:Nat):=true&&decide (1< (↑l19:Int))
def e2L(x:Nat×Heap×Nat×Nat×List Iv×List Bool):=x.2.2.2.2
def f8O(l:List Nd)(ks:List Int)(j:Nat):=decide (0<=List.getD ks j 0) &&decide (List.getD ks j 0< (↑(jN l):Int))
def e2M(id:Nat):=TV.v (.ptr id 0)
def nE(h:Heap)(id:Nat)(kn:KnT)(l:List Nd)(un:UnT)(x:Nat×Heap×Nat×Nat×List Iv×List Bool)(y0:Heap):Prop:= ∃(yy:Nat×Heap×Nat×Nat×List Iv×List Bool),some (e2M id)=some (e2M id)/\some (TV.v (.hslice (eY x) 0 (jN l) 2))=some (TV.v (.hslice yy.2.2.1 0 (jN l) 2))/\some (TV.v (.hslice (gS x) 0 (jN l) 1))=some (TV.v (.hslice yy.2.2.2.1 0 (jN l) 1))/\some (e8E l)=some (e8E
 l)/\some (e8F l)=some (e8F l)/\tI (wW ((↑x.1:Int)+1))=tI (↑yy.1:Int)/\y0=yy.2.1/\(IVg l kn un yy.1 yy.2.1 yy.2.2.1 yy.2.2.2.1 yy.2.2.2.2.1 yy.2.2.2.2.2 h/\True)/\l.length-yy.1<l.length-x.1
theorem g4A(id:Nat)(l:List Nd)(mk:Nat)(mu:IV)(kn:KnT)(un:UnT)(h:Heap)(Q:KT):dF (aV e2F) env 57 dV (tK 4 (ivI id l mk mu kn un h)) bT [.ptr id 0] h Q=(
 aF ((h.push IObj.free).push IObj.free) id fun r0=>bH 3 r0 0 fun(i1:Option Nat)(e2 l3:Nat)(c4:List IV)=>aC (decide (0<=(↑l3:Int)) && (decide ((↑l3:Int)<=(↑l3:Int)) && (decide ((↑l3:Int)<=9223372036854775807) &&decide ((16:Int)*(↑l3:Int)<=140737488355328)))) (yY ((h.push IObj.free).push IObj.free) (h.next) (aF (e2I h l3) id fun r5=>bH 3 r5 0 fun(i6:Option Nat)(e7 l8:Nat)(c9:List IV)=>aC (!Nat.beq (h.next) id) (aC (decide ((0:Int)<=(↑l8:Int)) && (decide ((↑l8:Int)<=(↑l8:Int)) && (decide ((↑l8:Int)<=9223372036854775807) &&decide ((1:Int)*(↑l8:Int)<=140737488355328)))) (yY (e2I h l3) (h.next+1) (aF ((e2I h l3).set (h.next+1) (IObj.cells (fF ((↑l8:Int).toNat) [IV.bool false]))) id fun r10=>bH 3 r10 0 fun(i11:Option Nat)(e12 l13:Nat)(c14:List IV)=>(∃(x:Nat×Heap×Nat×Nat×List Iv×List Bool),some (e2M id)=some (e2M id)/\some (TV.v (.hslice (h.next) 0 ((↑l3:Int).toNat) 2))=some (TV.v (.hslice (eY x) 0 (jN l) 2))/\some (TV.v (.hslice (h.next+1) 0 ((↑l8:Int).toNat) 1))=some (TV.v (.hslice (gS x) 0 (jN l) 1))/\some (TV.v (.vslice i11 e12 l13 3 c14))=some (e8E l)/\tI (↑l13:Int)=some (e8F l)/\tI 0=tI (↑x.1:Int)/\Heap.set (e2I h l3) (h.next+1) (IObj.cells (fF ((↑l8:Int).toNat) [IV.bool false]))=x.2.1/\(IVg l kn un x.1 x.2.1 (eY x) (gS x) ((e2L x).1) ((e2L x).2) h/\True)/\True)/\∀(x:Nat×Heap×Nat×Nat×List Iv×List Bool)(b:FF),IVg l kn un x.1 x.2.1 (eY x) (gS x) ((e2L x).1) ((e2L x).2) h/\True->aM (decide ((↑x.1:Int)< (↑(jN l):Int))) (aC (nI l x) (aK .i64 (List.flatMap cN l) ((↑x.1:Int).toNat*3) fun n15=>aK .i64 (List.flatMap cN l) ((↑x.1:Int).toNat*3+1) fun n16=>bH 1 (List.flatMap cN l) ((↑x.1:Int).toNat*3+1+1) fun(i17:Option Nat)(e18 l19:Nat)(c20:List IV)=>aC (nI l x) (aF x.2.1 (eY x) fun r21=>aC (Nat.ble (jQ x) r21.length) (aF (dS x r21) id fun r22=>bH 1 r22 1 fun(i23:Option Nat)(e24 l25:Nat)(c26:List IV)=>aC (decide (0<=(↑x.1:Int)) &&decide ((↑x.1:Int)< (↑l25:Int))) (aK .i64 c26 ((↑x.1:Int).toNat*1) fun(n27:Int)=>aM (n27 !=1) (nE h id kn l un x (dS x r21)) (aM (n15==1) (aC (nI l x) (aF (dS x r21) (eY x) fun r28=>aC (Nat.ble (jQ x) r28.length) (nE h id kn l un x ((dS x r21).set (eY x) (IObj.cells (List.take (rB x) r28++ [iI n16,iI n16]++List.drop (jQ x) r28)))))) (aM (n15==3) (∃(a b mu:IV),∃(mk:Nat),∃(kn_1:Int->Option Iv),∃(un_1:Int->Bool),(dS x r21).get id=IObj.cells [a,b,IV.map mk,mu]/\(knS (dS x r21) mk kn_1/\unS (dS x r21) mu un_1/\(un_1 n16=true->kn_1 n16=none))/\aC (nI l x) (aF (dS x r21) (eY x) fun r29=>aC (Nat.ble (jQ x) r29.length) (aC (nI l x) (aF ((dS x r21).set (eY x) (IObj.cells (List.take (rB x) r29++(f8N n16 kn_1)++List.drop (jQ x) r29))) (gS x) fun r30=>aC (Nat.ble (oH x) r30.length) (nE h id kn l un x (((dS x r21).set (eY x) (IObj.cells (List.take (rB x) r29++(f8N n16 kn_1)++List.drop (jQ x) r29))).set (gS x) (IObj.cells (List.take (a6D x) r30++ [IV.bool (un_1 n16)]++List.drop (oH x) r30)))))))) (aM (n15==25) (aF (dS x r21) id fun r31=>bH 3 r31 0 fun(i32:Option Nat)(e33 l34:Nat)(c35:List IV)=>aC (b3E l19) (aK .i64 c20 0 fun n36=>aC (decide (0<=n36) &&decide (n36< (↑l34:Int))) (aK .i64 c35 (n36.toNat*3) fun n37=>aK .i64 c35 (n36.toNat*3+1) fun n38=>bH 1 c35 (n36.toNat*3+1+1) fun(i39:Option Nat)(e40 l41:Nat)(c42:List IV)=> ∃(ks:List Int),∃(j:Nat),(l41=ks.length/\c42=List.map (IV.int .i64) ks/\n16=(↑j:Int))/\(ks.length% (2:Nat)=1/\3<=ks.length/\ks.length<=40/\j<ks.length/ (2:Nat)/\0<=n38/\n38<=15)/\aC (f8O l ks j) (aF (dS x r21) (eY x) fun r43=>aK .i64 r43 ((0:Nat)+(List.getD ks j 0).toNat*2) fun n44=>aK .i64 r43 ((0:Nat)+(List.getD ks j 0).toNat*2+1) fun n45=>aC (f8M l ks j) (aF (dS x r21) (eY x) fun(r46:List IV)=>aK .i64 r46 ((0:Nat)+(List.getD ks (d2N ks j) 0).toNat*2) fun n47=>aK .i64 r46 ((0:Nat)+(List.getD ks (d2N ks j) 0).toNat*2+1) fun n48=>aC (f8O l ks j) (aF (dS x r21) (gS x) fun r49=>iS r49 ((0:Nat)+(List.getD ks j 0).toNat*1) fun b50=>aM b50 (aC (nI l x) (aF (dS x r21) (eY x) fun r51=>aC (Nat.ble (jQ x) r51.length) (aC (nI l x) (aF ((dS x r21).set (eY x) (IObj.cells (List.take (rB x) r51++(e2K n44 n45 n47 n48)++List.drop (jQ x) r51))) (gS x) fun r52=>aC (Nat.ble (oH x) r52.length) (nE h id kn l un x (((dS x r21).set (eY x) (IObj.cells (List.take (rB x) r51++(e2K n44 n45 n47 n48)++List.drop (jQ x) r51))).set (gS x) (IObj.cells (List.take (a6D x) r52++ [IV.bool true]++List.drop (oH x) r52)))))))) (aC (f8M l ks j) (aF (dS x r21) (gS x) fun r53=>iS r53 ((0:Nat)+(List.getD ks (d2N ks j) 0).toNat*1) fun b54=>aC (nI l x) (aF (dS x r21) (eY x) fun r55=>aC (Nat.ble (jQ x) r55.length) (aC (nI l x) (aF ((dS x r21).set (eY x) (IObj.cells (List.take (rB x) r55++(e2K n44 n45 n47 n48)++List.drop (jQ x) r55))) (gS x) fun r56=>aC (Nat.ble (oH x) (r56.length)) (nE h id kn l un x (((dS x r21).set (eY x) (IObj.cells (List.take (rB x) r55++(e2K n44 n45 n47 n48)++List.drop (jQ x) r55))).set (gS x) (IObj.cells (List.take (a6D x) r56++ [IV.bool b54]++List.drop (oH x) r56))))))))))))))) (aM (n15==22) (aC (b3E l19) (aK .i64 c20 0 fun n57=>aC (decide (0<=n57) &&decide (n57< (↑(jN l):Int))) (aF (dS x r21) (eY x) fun r58=>aK .i64 r58 ((0:Nat)+n57.toNat*2) fun n59=>aK .i64 r58 ((0:Nat)+n57.toNat*2+1) fun n60=>aC (e8G l19) (aK .i64 c20 1 fun n61=>aC (decide (0<=n61) &&decide (n61< (↑(jN l):Int))) (aF (dS x r21) (eY x) fun r62=>aK .i64 r62 ((0:Nat)+n61.toNat*2) fun(n63:Int)=>aK .i64 r62 ((0:Nat)+n61.toNat*2+1) fun n64=>aC (true&&decide (2< (↑l19:Int))) (aK .i64 c20 2 fun n65=>aC (decide (0<=n65) &&decide (n65< (↑(jN l):Int))) (aF (dS x r21) (eY x) fun r66=>aK .i64 r66 ((0:Nat)+n65.toNat*2) fun n67=>aK .i64 r66 ((0:Nat)+n65.toNat*2+1) fun n68=>aC (nI l x) (aF (dS x r21) (eY x) fun r69=>aC (Nat.ble (jQ x) (r69.length)) (aC (b3E l19) (aK .i64 c20 0 fun n70=>aC (decide (0<=n70) &&decide (n70< (↑(jN l):Int))) (aF (a7E x r21 r69 n59 n60 n63 n64 n67 n68) (gS x) fun r71=>iS r71 ((0:Nat)+n70.toNat*1) fun b72=>aM b72 (aC (nI l x) (aF (a7E x r21 r69 n59 n60 n63 n64 n67 n68) (gS x) fun r73=>aC (Nat.ble (oH x) r73.length) (nE h id kn l un x ((a7E x r21 r69 n59 n60 n63 n64 n67 n68).set (gS x) (IObj.cells (List.take (a6D x) r73++ [IV.bool true]++List.drop (oH x) r73)))))) (aC (e8G l19) (aK .i64 c20 1 fun n74=>aC (decide (0<=n74) &&decide (n74< (↑(jN l):Int))) (aF (a7E x r21 r69 n59 n60 n63 n64 n67 n68) (gS x) fun r75=>iS r75 ((0:Nat)+n74.toNat*1) fun b76=>aM b76 (aC (nI l x) (aF (a7E x r21 r69 n59 n60 n63 n64 n67 n68) (gS x) fun r77=>aC (Nat.ble (oH x) r77.length) (nE h id kn l un x ((a7E x r21 r69 n59 n60 n63 n64 n67 n68).set (gS x) (IObj.cells (List.take (a6D x) r77++ [IV.bool true]++List.drop (oH x) r77)))))) (aC (true&&decide (2< (↑l19:Int))) (aK .i64 c20 2 fun n78=>aC (decide (0<=n78) &&decide (n78< (↑(jN l):Int))) (aF (a7E x r21 r69 n59 n60 n63 n64 n67 n68) (gS x) fun r79=>iS r79 ((0:Nat)+n78.toNat*1) fun(b80:Bool)=>aC (nI l x) (aF (a7E x r21 r69 n59 n60 n63 n64 n67 n68) (gS x) fun r81=>aC (Nat.ble (oH x) r81.length) (nE h id kn l un x ((a7E x r21 r69 n59 n60 n63 n64 n67 n68).set (gS x) (IObj.cells (List.take (a6D x) r81++ [IV.bool b80]++List.drop (oH x) r81)))))))))))))))))))))) (aM (n15==20) (aC (b3E l19) (aK .i64 c20 0 fun n82=>aC (decide (0<=n82) &&decide (n82< (↑(jN l):Int))) (aF (dS x r21) (eY x) fun r83=>aK .i64 r83 ((0:Nat)+n82.toNat*(2:Nat)) fun n84=>aK .i64 r83 ((0:Nat)+n82.toNat*2+1) fun n85=>aC (b3E l19) (aK .i64 c20 0 fun n86=>aC (decide (0<=n86) &&decide (n86< (↑(jN l):Int))) (aF (dS x r21) (gS x) fun(r87:List IV)=>iS r87 ((0:Nat)+n86.toNat*1) fun b88=>aC (nI l x) (aF (dS x r21) (eY x) fun r89=>aC (Nat.ble (jQ x) r89.length) (aC (nI l x) (aF ((dS x r21).set (eY x) (IObj.cells (List.take (rB x) r89++ [iI ((iun n15 n84 n85).1),iI ((iun n15 n84 n85).2)]++List.drop (jQ x) r89))) (gS x) fun r90=>aC (Nat.ble (oH x) r90.length) (nE h id kn l un x (((dS x r21).set (eY x) (IObj.cells (List.take (rB x) r89++ [iI ((iun n15 n84 n85).1),iI ((iun n15 n84 n85).2)]++List.drop (jQ x) r89))).set (gS x) (IObj.cells (List.take (a6D x) r90++ [IV.bool b88]++List.drop (oH x) r90)))))))))))) (aM (n15==21) (aC (b3E l19) (aK .i64 c20 0 fun n91=>aC (decide (0<=n91) &&decide (n91< (↑(jN l):Int))) (aF (dS x r21) (eY x) fun r92=>aK .i64 r92 ((0:Nat)+n91.toNat*2) fun n93=>aK .i64 r92 ((0:Nat)+n91.toNat*2+1) fun n94=>aC (b3E l19) (aK .i64 c20 0 fun n95=>aC (decide (0<=n95) &&decide (n95< (↑(jN l):Int))) (aF (dS x r21) (gS x) fun r96=>iS r96 ((0:Nat)+n95.toNat*1) fun b97=>aC (nI l x) (aF (dS x r21) (eY x) fun(r98:List IV)=>aC (Nat.ble (jQ x) r98.length) (aC (nI l x) (aF ((dS x r21).set (eY x) (IObj.cells (List.take (rB x) r98++ [iI ((iun n15 n93 n94).1),iI ((iun n15 n93 n94).2)]++List.drop (jQ x) r98))) (gS x) fun(r99:List IV)=>aC (Nat.ble (oH x) r99.length) (nE h id kn l un x (((dS x r21).set (eY x) (IObj.cells (List.take (rB x) r98++ [iI ((iun n15 n93 n94).1),iI ((iun n15 n93 n94).2)]++List.drop (jQ x) r98))).set (gS x) (IObj.cells (List.take (a6D x) r99++ [IV.bool b97]++List.drop (oH x) r99)))))))))))) (aM (decide (n15>=4)) (aM (decide (n15<=19)) (aC (b3E l19) (aK .i64 c20 0 fun n100=>aC (e8G l19) (aK .i64 c20 1 fun n101=>aC (decide ((0:Int)<=n100) &&decide (n100< (↑(jN l):Int))) (aF (dS x r21) (eY x) fun r102=>aK .i64 r102 ((0:Nat)+n100.toNat*2) fun n103=>aK .i64 r102 ((0:Nat)+n100.toNat*2+1) fun n104=>aC (decide ((0:Int)<=n101) &&decide (n101< (↑(jN l):Int))) (aF (dS x r21) (eY x) fun r105=>aK .i64 r105 ((0:Nat)+n101.toNat*2) fun n106=>aK .i64 r105 ((0:Nat)+n101.toNat*2+1) fun n107=>((bJ n103/\bJ n104)/\bJ n106/\bJ n107)/\aC (decide (0<=n100) &&decide (n100< (↑(jN l):Int))) (aF (dS x r21) (gS x) fun r108=>iS r108 ((0:Nat)+n100.toNat*1) fun b109=>aM b109 (aC (nI l x) (aF (dS x r21) (eY x) fun(r110:List IV)=>aC (Nat.ble (jQ x) r110.length) (aC (nI l x) (aF ((dS x r21).set (eY x) (IObj.cells (List.take (rB x) r110++(e2J n15 n103 n104 n106 n107)++List.drop (jQ x) r110))) (gS x) fun r111=>aC (Nat.ble (oH x) r111.length) (nE h id kn l un x (((dS x r21).set (eY x) (IObj.cells (List.take (rB x) r110++(e2J n15 n103 n104 n106 n107)++List.drop (jQ x) r110))).set (gS x) (IObj.cells (List.take (a6D x) r111++ [IV.bool true]++List.drop (oH x) r111)))))))) (aC (decide (0<=n101) &&decide (n101< (↑(jN l):Int))) (aF (dS x r21) (gS x) fun r112=>iS r112 ((0:Nat)+n101.toNat*1) fun b113=>aC (nI l x) (aF (dS x r21) (eY x) fun r114=>aC (Nat.ble (jQ x) r114.length) (aC (nI l x) (aF ((dS x r21).set (eY x) (IObj.cells (List.take (rB x) r114++(e2J n15 n103 n104 n106 n107)++List.drop (jQ x) r114))) (gS x) fun r115=>aC (Nat.ble (oH x) r115.length) (nE h id kn l un x (((dS x r21).set (eY x) (IObj.cells (List.take (rB x) r114++(e2J n15 n103 n104 n106 n107)++List.drop (jQ x) r114))).set (gS x) (IObj.cells (List.take (a6D x) r115++ [IV.bool b113]++List.drop (oH x) r115))))))))))))))) (nE h id kn l un x (dS x r21))) (nE h id kn l un x (dS x r21)))))))))))))) (Q (.tuple [.hslice (eY x) 0 (jN l) 2,IV.hslice (gS x) (0:Nat) (jN l) (1:Nat)]) x.2.1))))))):=by kernel_rfl
theorem g4B: ∀xs h Q,e2H xs h Q->aU env 57 xs h Q:=by
 intro xs h Q hk;unfold e2H at hk;split at hk
 ·rename_i id;obtain⟨l,mk,mu,kn,un,hb,hw,hk⟩:=hk;refine aS (e2G) (g4A id l mk mu kn un h Q) ?_;delta nE dS a7E nI jQ gS oH eY rB e2I a6D d2N b3E e2J jN e8E e2K f8M e8F f8N e8G e2L f8O e2M tI wW iI;have tn: ∀x:Nat,(x:Int).toNat=x:=h0Z
  obtain⟨hg,hid⟩:=hb;obtain⟨hL,him,⟨hkn,hmk⟩,⟨hun,hmu⟩,hKO,hun2⟩:=(show AzS h l mk mu kn un from hw);obtain⟨hl,hks⟩:=(show LOk l from hL);have p1:((h.push .free).push .free).get id=h.get id:=by rw [aJ (show id< (h.push .free).next from h1T hid),aJ hid]
  have p2:((h.push .free).push .free).get h.next= .free:=by rw [aJ (show h.next< (h.push .free).next from h1G _),aR]
  have p3:((h.push .free).push .free).get (h.next+1)= .free:=aR;have p4: ∀j,j<h.next->((h.push .free).push .free).get j=h.get j:=fun j hj=>by rw [aJ (show j< (h.push .free).next from h1T hj),aJ hj]
  have m1:h.next≠id:=h3H hid;have m2:h.next+1≠id:=by omega
  have m3:h.next≠h.next+1:=by omega
  have need2': ∀{p:Prop}[Decidable p]{A:Prop},p->A->aC (true&&decide p) A:=fun h a=>aA (by rw [decide_eq_true h];rfl) a
  refine aB (p1.trans hg) (sA rfl (aA (by simp;omega) (jD p2 (aB ((aE m1.symm).trans (p1.trans hg)) (sA rfl (aA (by rw [zB.2 m1];rfl) (aA (by simp;omega) (jD ((aE m3.symm).trans p3) (aB ((aE m2.symm).trans ((aE m1.symm).trans (p1.trans hg))) (sA rfl ⟨⟨(0,(((h.push .free).push .free).set h.next (.cells (fF l.length [.int .i64 0,.int .i64 0]))).set (h.next+1) (.cells (fF l.length [.bool false])),h.next,h.next+1,List.replicate l.length (0,0),List.replicate l.length false),rfl,(by rw [tn]),(by rw [tn]),rfl,rfl,rfl,(by rw [tn]),⟨⟨⟨h1N _,by simp,by simp,rfl,rfl,fun q _=>?_⟩,⟨?_,?_⟩,⟨h1D _,h4E _,m3,by show h.next<h.next+1+1;omega,by show h.next+1<h.next+1+1;omega⟩,fun j hj=>?_⟩,trivial⟩,trivial⟩,?_⟩))))))))))
  ·rw [h1A,h8C];split<;>rfl
  ·dsimp only;rw [aE m3,aH,e6C]
  ·dsimp only;rw [aH,c1H]
  ·dsimp only;rw [aE (by omega),aE (by omega)];exact p4 j hj
  rintro⟨i,g,iR,iU,R,U⟩ _ ⟨hv,_⟩;dsimp only at hv⊢;have hv0:=hv;obtain⟨⟨hi,hRl,hUl,hRt,hUt,hUz⟩,⟨gR0,gU0⟩,⟨c1,c2,c3,c4,c5⟩,fr⟩:=hv0;refine dW (fun c=>?_) (fun c=>?_)
  case refine_2=>
   obtain rfl:i=l.length:=by omega
   have a1:R=rG l kn:=by rw [h1H (by omega)]at hRt;exact hRt
   have a2:U=uG l un:=by rw [h1H (by omega)]at hUt;exact hUt
   exact hk g iR iU (by rw [<-a1];exact gR0) (by rw [<-a2];exact gU0) ⟨c1,c4,c2,c5,c3⟩ fr
  have hlt:i<l.length:=by omega
  have hii:0<=(i:Int)/\(i:Int)<l.length:=⟨by omega,by omega⟩;have hms:l.length- (i+1)<l.length-i:=by omega
  have hsl:=bD l;have hs:i< (aG l).length:=by omega
  have hwr:some (TV.v (IV.int IntKind.i64 (IntKind.i64.wrap ((i:Int)+1))))=some (TV.v (IV.int IntKind.i64 ((i+1:Nat):Int))):=by rw [h0X _ (by omega)];rfl
  refine aP hii (a6X hlt (by rw [tn]) (aP hii (aB gR0 (aA (by rw [h1S,b5R,tn];omega) ?_))));have e0:List.take (0+(i:Int).toNat*2) (R.flatMap cR)++ [IV.int .i64 (-9223372036854775808),IV.int .i64 9223372036854775807]++List.drop (0+(i:Int).toNat*2+2) (R.flatMap cR)=(R.set i aL).flatMap cR:=by rw [tn,h1Q];exact f3C (by omega)
  rw [e0];generalize hg1:g.set iR (IObj.cells ((R.set i aL).flatMap cR))=g1;have kR:g1.get iR= .cells ((R.set i aL).flatMap cR):=by rw [<-hg1];exact aH
  have kU:g1.get iU= .cells (U.map IV.bool):=by rw [<-hg1,aE (Ne.symm c3)];exact gU0
  have kj: ∀j,j<h.next->g1.get j=h.get j:=fun j hj=>by rw [<-hg1,aE (by omega)];exact fr j hj
  have kid1:=(kj id hid).trans hg;have knx:g1.next=g.next:=by rw [<-hg1];rfl
  have kU2: ∀{X:List IV},(g1.set iR (.cells X)).get iU= .cells (U.map IV.bool):=fun{X} =>(aE (Ne.symm c3)).trans kU
  have hb1:Nat.ble (0+(i:Int).toNat*2+2) ((R.set i aL).flatMap cR).length=true:=by rw [h1S,b5R,h3R,tn];omega
  have hb2:Nat.ble (0+(i:Int).toNat*1+1) (U.map IV.bool).length=true:=by rw [h1S,h1P,tn];omega
  have stR: ∀a b:Int,List.take (0+i*2) ((R.set i aL).flatMap cR)++ [IV.int .i64 a,IV.int .i64 b]++List.drop (0+i*2+2) ((R.set i aL).flatMap cR)=(R.set i (a,b)).flatMap cR:=fun a b=>by rw [h1Q,f3C (by rw [h3R];omega),List.set_set]
  have stU: ∀b:Bool,List.take (0+i*1) (U.map IV.bool)++ [IV.bool b]++List.drop (0+i*1+1) (U.map IV.bool)=(U.set i b).map IV.bool:=fun b=>by rw [h1Q,h1W];exact e5Z (by omega)
  have hUs:U.set i false=U:=d1Q (by omega) (hUz i (h1D _));have frs: ∀(X Y:IObj) j,j≠iR->j≠iU->((g1.set iR X).set iU Y).get j=g.get j:=fun X Y j a b=>by rw [aE b,aE a,<-hg1,aE a]
  have fin2: ∀(a b:Int)(u:Bool),(a,b)=rst l ((aG l).getD i 0) kn (R.set i aL) l[i]->u=ust l ((aG l).getD i 0) un U l[i]->IVg l kn un (i+1) ((g1.set iR (.cells ((R.set i (a,b)).flatMap cR))).set iU (.cells ((U.set i u).map IV.bool))) iR iU (R.set i (a,b)) (U.set i u) h:=fun a b u er eu=>
   hv.step hlt ((aE c3).trans aH) aH rfl rfl er eu knx (frs _ _)
  have finR: ∀(a b:Int),(a,b)=rst l ((aG l).getD i 0) kn (R.set i aL) l[i]->false=ust l ((aG l).getD i 0) un U l[i]->IVg l kn un (i+1) (g1.set iR (.cells ((R.set i (a,b)).flatMap cR))) iR iU (R.set i (a,b)) U h:=fun a b er eu=>
   hv.step hlt aH ((aE (Ne.symm c3)).trans kU) rfl hUs.symm er eu knx (fun j x y=>by rw [aE x,<-hg1,aE x])
  have fin0:aL=rst l ((aG l).getD i 0) kn (R.set i aL) l[i]->false=ust l ((aG l).getD i 0) un U l[i]->IVg l kn un (i+1) g1 iR iU (R.set i aL) U h:=fun er eu=>
   hv.step hlt kR kU rfl hUs.symm er eu knx (fun j x y=>by rw [<-hg1,aE x])
  refine aB kid1 (sA rfl (aP ⟨by omega,by omega⟩ (jM hs (by rw [tn,h1W]) (aD (fun c1=>?_) (fun c1=>?_)))))
  ·rw [bne_iff_ne]at c1;have hs1:(aG l).getD i 0≠1:=by rw [cQ hs];exact c1
   exact⟨(i+1,g1,iR,iU,R.set i aL,U),rfl,rfl,rfl,rfl,rfl,hwr,rfl,⟨fin0 (by unfold rst;rw [if_pos hs1]) (by unfold ust;rw [if_pos hs1]),trivial⟩,hms⟩
  rw [bne_eq_false_iff_eq]at c1;have hs1:(aG l).getD i 0=1:=by rw [cQ hs];exact c1
  obtain⟨v1,v2⟩:=zJ hlt hs1;have hnk:=c1K hlt hs1;have hr:rst l ((aG l).getD i 0) kn (R.set i aL) l[i]=if l[i].op=3 then(kn l[i].im).getD aL else if l[i].op=25 then ijn (gR (R.set i aL) (bO (tU l l[i]) l[i].im.toNat).f) (gR (R.set i aL) (bO (tU l l[i]) l[i].im.toNat).n)else ist (R.set i aL) l[i]:=by
   unfold rst
   rw [if_neg (fun q=>q hs1)]
  have hu:ust l ((aG l).getD i 0) un U l[i]=if l[i].op=3 then un l[i].im else if l[i].op=25 then(gU U (bO (tU l l[i]) l[i].im.toNat).f||gU U (bO (tU l l[i]) l[i].im.toNat).n)else(decide (4<=l[i].op/\l[i].op<=22) &&l[i].ks.any (gU U)):=by
   unfold ust
   rw [if_neg (fun q=>q hs1)]
  have kq: ∀j,j<l[i].ks.length->0<=l[i].ks.getD j 0/\l[i].ks.getD j 0< (l.length:Int):=fun j hj=>by
   have:=v1 _ (a4B (z:=0) hj);exact⟨this.1,by omega⟩
  have kr: ∀j,j<l[i].ks.length->0<=l[i].ks.getD j 0/\l[i].ks.getD j 0< ((R.set i aL).length:Int):=fun j hj=>by
   rw [h3R,hRl];exact kq j hj
  have ku: ∀j,j<l[i].ks.length->0<=l[i].ks.getD j 0/\l[i].ks.getD j 0< (U.length:Int):=fun j hj=>by
   rw [hUl];exact kq j hj
  by_cases o1:l[i].op=1
  ·have e1:(l[i].im,l[i].im)=rst l ((aG l).getD i 0) kn (R.set i aL) l[i]:=by
    rw [hr,if_neg (by omega),if_neg (by omega)];unfold ist
    rw [if_pos o1]
   have e2:false=ust l ((aG l).getD i 0) un U l[i]:=by
    rw [hu,if_neg (by omega),if_neg (by omega),decide_eq_false (by omega)];rfl
   rw [beq_iff_eq.2 o1];exact bt rfl (aP hii (aB kR (aA hb1 ⟨(i+1,g1.set iR (.cells ((R.set i (l[i].im,l[i].im)).flatMap cR)),iR,iU,R.set i (l[i].im,l[i].im),U),rfl,rfl,rfl,rfl,rfl,hwr,(by rw [tn,stR]),⟨finR _ _ e1 e2,trivial⟩,hms⟩)))
  refine bf (beq_eq_false_iff_ne.2 o1) ?_
  by_cases o3:l[i].op=3
  ·have e1:((kn l[i].im).getD aL).1=((kn l[i].im).getD aL).1:=rfl;have e2:(((kn l[i].im).getD aL).1,((kn l[i].im).getD aL).2)=rst l ((aG l).getD i 0) kn (R.set i aL) l[i]:=by
    rw [hr,if_pos o3]
   have e3:un l[i].im=ust l ((aG l).getD i 0) un U l[i]:=by
    rw [hu,if_pos o3]
   obtain⟨es,s1,s2⟩:=hkn;refine bt (beq_iff_eq.2 o3) ⟨_,_,mu,mk,kn,un,kid1,⟨⟨es,(kj mk hmk).trans s1,s2⟩,?_,hun2 _⟩,aP hii (aB kR (aA hb1 (aP hii (aB kU2 (aA hb2 ⟨(i+1,(g1.set iR (.cells ((R.set i (((kn l[i].im).getD aL).1,((kn l[i].im).getD aL).2)).flatMap cR))).set iU (.cells ((U.set i (un l[i].im)).map IV.bool)),iR,iU,R.set i (((kn l[i].im).getD aL).1,((kn l[i].im).getD aL).2),U.set i (un l[i].im)),rfl,rfl,rfl,rfl,rfl,hwr,(by rw [tn,stR,stU]),⟨fin2 _ _ _ e2 e3,trivial⟩,hms⟩)))))⟩;rcases hun with q| ⟨m,es2,q1,q2,q3⟩
   ·exact .inl q
   ·exact .inr ⟨m,es2,q1,(kj m (hmu m q1)).trans q2,q3⟩
  refine bf (beq_eq_false_iff_ne.2 o3) ?_
  by_cases o25:l[i].op=25
  ·rcases v2 with⟨_,q,hq,hq2,q3,q4,q5,q6⟩| ⟨n25,_⟩
   case inr=>exact absurd o25 n25
   have hlp:=sG q3;have hod:=hlp.odd;have hlm:=hlp.im;have hql:q.toNat<l.length:=by omega
   have hk0:tU l l[i]=l[q.toNat]:=by unfold tU;rw [hq];exact cQ hql
   rw [cQ hql]at hod hlm q6;have hjm:l[i].im.toNat<l[q.toNat].ks.length/2:=by omega
   have hlv:=b5S (j:=l[i].im.toNat) hlp (by rw [cQ hql];exact hjm);rw [cQ hql]at hlv;obtain⟨f1,n1,_⟩:=hlv;have e1:(min (gR (R.set i aL) (bO l[q.toNat] l[i].im.toNat).f).1 (gR (R.set i aL) (bO l[q.toNat] l[i].im.toNat).n).1,max (gR (R.set i aL) (bO l[q.toNat] l[i].im.toNat).f).2 (gR (R.set i aL) (bO l[q.toNat] l[i].im.toNat).n).2)=rst l ((aG l).getD i 0) kn (R.set i aL) l[i]:=by
    rw [hr,if_neg o3,if_pos o25,hk0];rfl
   have e2:(gU U (bO l[q.toNat] l[i].im.toNat).f||gU U (bO l[q.toNat] l[i].im.toNat).n)=ust l ((aG l).getD i 0) un U l[i]:=by
    rw [hu,if_neg o3,if_pos o25,hk0]
   have f2:0<=(bO l[q.toNat] l[i].im.toNat).f/\(bO l[q.toNat] l[i].im.toNat).f< (l.length:Int):=⟨f1.1,by omega⟩;have n2:0<=(bO l[q.toNat] l[i].im.toNat).n/\(bO l[q.toNat] l[i].im.toNat).n< (l.length:Int):=⟨n1.1,by omega⟩;have f3:0<=(bO l[q.toNat] l[i].im.toNat).f/\(bO l[q.toNat] l[i].im.toNat).f< ((R.set i aL).length:Int):=by rw [h3R,hRl];exact f2
   have n3:0<=(bO l[q.toNat] l[i].im.toNat).n/\(bO l[q.toNat] l[i].im.toNat).n< ((R.set i aL).length:Int):=by rw [h3R,hRl];exact n2
   have f4:0<=(bO l[q.toNat] l[i].im.toNat).f/\(bO l[q.toNat] l[i].im.toNat).f< (U.length:Int):=by rw [hUl];exact f2
   have n4:0<=(bO l[q.toNat] l[i].im.toNat).n/\(bO l[q.toNat] l[i].im.toNat).n< (U.length:Int):=by rw [hUl];exact n2
   have hkl:l[i].ks.length=1:=by rw [hq];rfl
   have hkq:l[i].ks.getD 0 0=q:=by rw [hq];rfl
   refine bt (beq_iff_eq.2 o25) (aB kid1 (sA rfl (need2' (by omega) (a4G (by omega) rfl ?_))));rw [hkq];refine aP ⟨hq2.1,by omega⟩ (a6X hql rfl ⟨l[q.toNat].ks,l[i].im.toNat,⟨rfl,rfl,by omega⟩,⟨by omega,by omega,hks _ (h1B hql),hjm,hlm.1,hlm.2⟩,?_⟩);refine aP f2 (aB kR (a1L f3 (by rw [h1Q];rfl) (aP n2 (aB kR (a1L n3 (by rw [h1Q];rfl) (aP f2 (aB kU (a4F f4 (by rw [h1Q,h1W];rfl) (aD (fun cu=>?_) (fun cu=>?_))))))))))
   ·rw [cu,h7A]at e2;exact aP hii (aB kR (aA hb1 (aP hii (aB kU2 (aA hb2 ⟨(i+1,(g1.set iR (.cells ((R.set i (min (gR (R.set i aL) (bO l[q.toNat] l[i].im.toNat).f).1 (gR (R.set i aL) (bO l[q.toNat] l[i].im.toNat).n).1,max (gR (R.set i aL) (bO l[q.toNat] l[i].im.toNat).f).2 (gR (R.set i aL) (bO l[q.toNat] l[i].im.toNat).n).2)).flatMap cR))).set iU (.cells ((U.set i (true)).map IV.bool)),iR,iU,R.set i (min (gR (R.set i aL) (bO l[q.toNat] l[i].im.toNat).f).1 (gR (R.set i aL) (bO l[q.toNat] l[i].im.toNat).n).1,max (gR (R.set i aL) (bO l[q.toNat] l[i].im.toNat).f).2 (gR (R.set i aL) (bO l[q.toNat] l[i].im.toNat).n).2),U.set i (true)),rfl,rfl,rfl,rfl,rfl,hwr,(by rw [tn,stR,stU]),⟨fin2 _ _ _ e1 e2,trivial⟩,hms⟩)))))
   ·rw [cu,h4S]at e2;exact aP n2 (aB kU (a4F n4 (by rw [h1Q,h1W];rfl) (aP hii (aB kR (aA hb1 (aP hii (aB kU2 (aA hb2 ⟨(i+1,(g1.set iR (.cells ((R.set i (min (gR (R.set i aL) (bO l[q.toNat] l[i].im.toNat).f).1 (gR (R.set i aL) (bO l[q.toNat] l[i].im.toNat).n).1,max (gR (R.set i aL) (bO l[q.toNat] l[i].im.toNat).f).2 (gR (R.set i aL) (bO l[q.toNat] l[i].im.toNat).n).2)).flatMap cR))).set iU (.cells ((U.set i (gU U (bO l[q.toNat] l[i].im.toNat).n)).map IV.bool)),iR,iU,R.set i (min (gR (R.set i aL) (bO l[q.toNat] l[i].im.toNat).f).1 (gR (R.set i aL) (bO l[q.toNat] l[i].im.toNat).n).1,max (gR (R.set i aL) (bO l[q.toNat] l[i].im.toNat).f).2 (gR (R.set i aL) (bO l[q.toNat] l[i].im.toNat).n).2),U.set i (gU U (bO l[q.toNat] l[i].im.toNat).n)),rfl,rfl,rfl,rfl,rfl,hwr,(by rw [tn,stR,stU]),⟨fin2 _ _ _ e1 e2,trivial⟩,hms⟩))))))))
  refine bf (beq_eq_false_iff_ne.2 o25) ?_;rcases v2 with⟨n25,_⟩| ⟨_,_,_,har,_⟩
  case inl=>exact absurd n25 o25
  unfold ar at har;have hu2:ust l ((aG l).getD i 0) un U l[i]=(decide (4<=l[i].op/\l[i].op<=22) &&l[i].ks.any (gU U)):=by rw [hu,if_neg o3,if_neg o25]
  have hr2:rst l ((aG l).getD i 0) kn (R.set i aL) l[i]=ist (R.set i aL) l[i]:=by rw [hr,if_neg o3,if_neg o25]
  by_cases o22:l[i].op=22
  ·have hl3:l[i].ks.length=3:=by
    rw [if_neg (by omega),if_neg (by omega),if_neg (by omega),if_pos (by omega)]at har;omega
   have e1:((mB (gR (R.set i aL) (l[i].ks.getD 0 0)).1 (gR (R.set i aL) (l[i].ks.getD 0 0)).2 (gR (R.set i aL) (l[i].ks.getD 1 0)).1 (gR (R.set i aL) (l[i].ks.getD 1 0)).2 (gR (R.set i aL) (l[i].ks.getD 2 0)).1 (gR (R.set i aL) (l[i].ks.getD 2 0)).2).1,(mB (gR (R.set i aL) (l[i].ks.getD 0 0)).1 (gR (R.set i aL) (l[i].ks.getD 0 0)).2 (gR (R.set i aL) (l[i].ks.getD 1 0)).1 (gR (R.set i aL) (l[i].ks.getD 1 0)).2 (gR (R.set i aL) (l[i].ks.getD 2 0)).1 (gR (R.set i aL) (l[i].ks.getD 2 0)).2).2)=rst l ((aG l).getD i 0) kn (R.set i aL) l[i]:=by
    rw [hr2];unfold ist
    rw [if_neg o1,if_pos o22];rfl
   rw [g5W hl3,decide_eq_true (show 4<=l[i].op/\l[i].op<=22 by omega),h2G]at hu2;refine bt (beq_iff_eq.2 o22) (need2' (by omega) (a4G (by omega) rfl (aP (kq 0 (by omega)) (aB kR (a1L (kr 0 (by omega)) (by rw [h1Q]) (need2' (by omega) (a4G (by omega) rfl (aP (kq 1 (by omega)) (aB kR (a1L (kr 1 (by omega)) (by rw [h1Q]) (need2' (by omega) (a4G (by omega) rfl (aP (kq 2 (by omega)) (aB kR (a1L (kr 2 (by omega)) (by rw [h1Q]) (aP hii (aB kR (aA hb1 (need2' (by omega) (a4G (by omega) rfl (aP (kq 0 (by omega)) (aB kU2 (a4F (ku 0 (by omega)) (by rw [h1Q,h1W]) (aD (fun cu=>?_) (fun cu=>?_)))))))))))))))))))))))))
   ·rw [cu,h7A]at hu2;exact aP hii (aB kU2 (aA hb2 ⟨(i+1,(g1.set iR (.cells ((R.set i ((mB (gR (R.set i aL) (l[i].ks.getD 0 0)).1 (gR (R.set i aL) (l[i].ks.getD 0 0)).2 (gR (R.set i aL) (l[i].ks.getD 1 0)).1 (gR (R.set i aL) (l[i].ks.getD 1 0)).2 (gR (R.set i aL) (l[i].ks.getD 2 0)).1 (gR (R.set i aL) (l[i].ks.getD 2 0)).2).1,(mB (gR (R.set i aL) (l[i].ks.getD 0 0)).1 (gR (R.set i aL) (l[i].ks.getD 0 0)).2 (gR (R.set i aL) (l[i].ks.getD 1 0)).1 (gR (R.set i aL) (l[i].ks.getD 1 0)).2 (gR (R.set i aL) (l[i].ks.getD 2 0)).1 (gR (R.set i aL) (l[i].ks.getD 2 0)).2).2)).flatMap cR))).set iU (.cells ((U.set i (true)).map IV.bool)),iR,iU,R.set i ((mB (gR (R.set i aL) (l[i].ks.getD 0 0)).1 (gR (R.set i aL) (l[i].ks.getD 0 0)).2 (gR (R.set i aL) (l[i].ks.getD 1 0)).1 (gR (R.set i aL) (l[i].ks.getD 1 0)).2 (gR (R.set i aL) (l[i].ks.getD 2 0)).1 (gR (R.set i aL) (l[i].ks.getD 2 0)).2).1,(mB (gR (R.set i aL) (l[i].ks.getD 0 0)).1 (gR (R.set i aL) (l[i].ks.getD 0 0)).2 (gR (R.set i aL) (l[i].ks.getD 1 0)).1 (gR (R.set i aL) (l[i].ks.getD 1 0)).2 (gR (R.set i aL) (l[i].ks.getD 2 0)).1 (gR (R.set i aL) (l[i].ks.getD 2 0)).2).2),U.set i (true)),rfl,rfl,rfl,rfl,rfl,hwr,(by rw [tn,stR,stU]),⟨fin2 _ _ _ e1 hu2.symm,trivial⟩,hms⟩))
   ·rw [cu,h4S]at hu2;refine need2' (by omega) (a4G (by omega) rfl (aP (kq 1 (by omega)) (aB kU2 (a4F (ku 1 (by omega)) (by rw [h1Q,h1W]) (aD (fun cu2=>?_) (fun cu2=>?_))))))
    ·rw [cu2,h7A]at hu2;exact aP hii (aB kU2 (aA hb2 ⟨(i+1,(g1.set iR (.cells ((R.set i ((mB (gR (R.set i aL) (l[i].ks.getD 0 0)).1 (gR (R.set i aL) (l[i].ks.getD 0 0)).2 (gR (R.set i aL) (l[i].ks.getD 1 0)).1 (gR (R.set i aL) (l[i].ks.getD 1 0)).2 (gR (R.set i aL) (l[i].ks.getD 2 0)).1 (gR (R.set i aL) (l[i].ks.getD 2 0)).2).1,(mB (gR (R.set i aL) (l[i].ks.getD 0 0)).1 (gR (R.set i aL) (l[i].ks.getD 0 0)).2 (gR (R.set i aL) (l[i].ks.getD 1 0)).1 (gR (R.set i aL) (l[i].ks.getD 1 0)).2 (gR (R.set i aL) (l[i].ks.getD 2 0)).1 (gR (R.set i aL) (l[i].ks.getD 2 0)).2).2)).flatMap cR))).set iU (.cells ((U.set i (true)).map IV.bool)),iR,iU,R.set i ((mB (gR (R.set i aL) (l[i].ks.getD 0 0)).1 (gR (R.set i aL) (l[i].ks.getD 0 0)).2 (gR (R.set i aL) (l[i].ks.getD 1 0)).1 (gR (R.set i aL) (l[i].ks.getD 1 0)).2 (gR (R.set i aL) (l[i].ks.getD 2 0)).1 (gR (R.set i aL) (l[i].ks.getD 2 0)).2).1,(mB (gR (R.set i aL) (l[i].ks.getD 0 0)).1 (gR (R.set i aL) (l[i].ks.getD 0 0)).2 (gR (R.set i aL) (l[i].ks.getD 1 0)).1 (gR (R.set i aL) (l[i].ks.getD 1 0)).2 (gR (R.set i aL) (l[i].ks.getD 2 0)).1 (gR (R.set i aL) (l[i].ks.getD 2 0)).2).2),U.set i (true)),rfl,rfl,rfl,rfl,rfl,hwr,(by rw [tn,stR,stU]),⟨fin2 _ _ _ e1 hu2.symm,trivial⟩,hms⟩))
    ·rw [cu2,h4S]at hu2;exact need2' (by omega) (a4G (by omega) rfl (aP (kq 2 (by omega)) (aB kU2 (a4F (ku 2 (by omega)) (by rw [h1Q,h1W]) (aP hii (aB kU2 (aA hb2 ⟨(i+1,(g1.set iR (.cells ((R.set i ((mB (gR (R.set i aL) (l[i].ks.getD 0 0)).1 (gR (R.set i aL) (l[i].ks.getD 0 0)).2 (gR (R.set i aL) (l[i].ks.getD 1 0)).1 (gR (R.set i aL) (l[i].ks.getD 1 0)).2 (gR (R.set i aL) (l[i].ks.getD 2 0)).1 (gR (R.set i aL) (l[i].ks.getD 2 0)).2).1,(mB (gR (R.set i aL) (l[i].ks.getD 0 0)).1 (gR (R.set i aL) (l[i].ks.getD 0 0)).2 (gR (R.set i aL) (l[i].ks.getD 1 0)).1 (gR (R.set i aL) (l[i].ks.getD 1 0)).2 (gR (R.set i aL) (l[i].ks.getD 2 0)).1 (gR (R.set i aL) (l[i].ks.getD 2 0)).2).2)).flatMap cR))).set iU (.cells ((U.set i (gU U (l[i].ks.getD 2 0))).map IV.bool)),iR,iU,R.set i ((mB (gR (R.set i aL) (l[i].ks.getD 0 0)).1 (gR (R.set i aL) (l[i].ks.getD 0 0)).2 (gR (R.set i aL) (l[i].ks.getD 1 0)).1 (gR (R.set i aL) (l[i].ks.getD 1 0)).2 (gR (R.set i aL) (l[i].ks.getD 2 0)).1 (gR (R.set i aL) (l[i].ks.getD 2 0)).2).1,(mB (gR (R.set i aL) (l[i].ks.getD 0 0)).1 (gR (R.set i aL) (l[i].ks.getD 0 0)).2 (gR (R.set i aL) (l[i].ks.getD 1 0)).1 (gR (R.set i aL) (l[i].ks.getD 1 0)).2 (gR (R.set i aL) (l[i].ks.getD 2 0)).1 (gR (R.set i aL) (l[i].ks.getD 2 0)).2).2),U.set i (gU U (l[i].ks.getD 2 0))),rfl,rfl,rfl,rfl,rfl,hwr,(by rw [tn,stR,stU]),⟨fin2 _ _ _ e1 hu2.symm,trivial⟩,hms⟩)))))))
  refine bf (beq_eq_false_iff_ne.2 o22) ?_
  by_cases o20:l[i].op=20\/l[i].op=21
  ·have hl1:l[i].ks.length=1:=by
    rw [if_neg (by omega),if_pos (by omega)]at har;omega
   have e1:((iun l[i].op (gR (R.set i aL) (l[i].ks.getD 0 0)).1 (gR (R.set i aL) (l[i].ks.getD 0 0)).2).1,(iun l[i].op (gR (R.set i aL) (l[i].ks.getD 0 0)).1 (gR (R.set i aL) (l[i].ks.getD 0 0)).2).2)=rst l ((aG l).getD i 0) kn (R.set i aL) l[i]:=by
    rw [hr2];unfold ist
    rw [if_neg o1,if_neg o22,if_pos o20];rfl
   rw [g5U hl1,decide_eq_true (show 4<=l[i].op/\l[i].op<=22 by omega),h2G]at hu2;have go: ∀A B:Prop,A->aM (l[i].op==20) A (aM (l[i].op==21) A B):=fun A B a=>aD (fun _=>a) (fun c2=>aD (fun _=>a) (fun c3=>by rw [beq_eq_false_iff_ne]at c2 c3;rcases o20 with q|q<;>contradiction))
   refine go _ _ ?_;exact need2' (by omega) (a4G (by omega) rfl (aP (kq 0 (by omega)) (aB kR (a1L (kr 0 (by omega)) (by rw [h1Q]) (need2' (by omega) (a4G (by omega) rfl (aP (kq 0 (by omega)) (aB kU (a4F (ku 0 (by omega)) (by rw [h1Q,h1W]) (aP hii (aB kR (aA hb1 (aP hii (aB kU2 (aA hb2 ⟨(i+1,(g1.set iR (.cells ((R.set i ((iun l[i].op (gR (R.set i aL) (l[i].ks.getD 0 0)).1 (gR (R.set i aL) (l[i].ks.getD 0 0)).2).1,(iun l[i].op (gR (R.set i aL) (l[i].ks.getD 0 0)).1 (gR (R.set i aL) (l[i].ks.getD 0 0)).2).2)).flatMap cR))).set iU (.cells ((U.set i (gU U (l[i].ks.getD 0 0))).map IV.bool)),iR,iU,R.set i ((iun l[i].op (gR (R.set i aL) (l[i].ks.getD 0 0)).1 (gR (R.set i aL) (l[i].ks.getD 0 0)).2).1,(iun l[i].op (gR (R.set i aL) (l[i].ks.getD 0 0)).1 (gR (R.set i aL) (l[i].ks.getD 0 0)).2).2),U.set i (gU U (l[i].ks.getD 0 0))),rfl,rfl,rfl,rfl,rfl,hwr,(by rw [tn,stR,stU]),⟨fin2 _ _ _ e1 hu2.symm,trivial⟩,hms⟩)))))))))))))))
  refine bf (beq_eq_false_iff_ne.2 (fun q=>o20 (.inl q))) (bf (beq_eq_false_iff_ne.2 (fun q=>o20 (.inr q))) ?_)
  by_cases o4:4<=l[i].op/\l[i].op<=19
  ·have hl2:l[i].ks.length=2:=by
    rw [if_neg (by omega),if_neg (by omega),if_pos (by omega)]at har;omega
   have e1:((oT l[i].op (gR (R.set i aL) (l[i].ks.getD 0 0)).1 (gR (R.set i aL) (l[i].ks.getD 0 0)).2 (gR (R.set i aL) (l[i].ks.getD 1 0)).1 (gR (R.set i aL) (l[i].ks.getD 1 0)).2).1,(oT l[i].op (gR (R.set i aL) (l[i].ks.getD 0 0)).1 (gR (R.set i aL) (l[i].ks.getD 0 0)).2 (gR (R.set i aL) (l[i].ks.getD 1 0)).1 (gR (R.set i aL) (l[i].ks.getD 1 0)).2).2)=rst l ((aG l).getD i 0) kn (R.set i aL) l[i]:=by
    rw [hr2];unfold ist
    rw [if_neg o1,if_neg o22,if_neg o20,if_pos o4];rfl
   rw [g5V hl2,decide_eq_true (show 4<=l[i].op/\l[i].op<=22 by omega),h2G]at hu2;have rR: ∀j,j<l[i].ks.length->bJ (gR (R.set i aL) (l[i].ks.getD j 0)).1/\bJ (gR (R.set i aL) (l[i].ks.getD j 0)).2:=fun j hj=>by
    have a:=v1 _ (a4B (z:=0) hj);have b:=(a4E him hKO (l[i].ks.getD j 0).toNat (by omega)).2;have e:gR (R.set i aL) (l[i].ks.getD j 0)=(rG l kn).getD (l[i].ks.getD j 0).toNat (0,0):=by
     unfold gR
     rw [zO (by omega),<-g1J hi (by omega),<-hRt,a1Y (by omega)]
    rw [e];exact b
   refine dW (fun _=>dW (fun _=>need2' (by omega) (a4G (by omega) rfl (need2' (by omega) (a4G (by omega) rfl (aP (kq 0 (by omega)) (aB kR (a1L (kr 0 (by omega)) (by rw [h1Q]) (aP (kq 1 (by omega)) (aB kR (a1L (kr 1 (by omega)) (by rw [h1Q]) (⟨⟨rR 0 (by omega),rR 1 (by omega)⟩,aP (kq 0 (by omega)) (aB kU (a4F (ku 0 (by omega)) (by rw [h1Q,h1W]) (aD (fun cu=>?_) (fun cu=>?_))))⟩))))))))))) (fun c2=>absurd o4.2 c2)) (fun c2=>absurd o4.1 c2)
   ·rw [cu,h7A]at hu2;exact aP hii (aB kR (aA hb1 (aP hii (aB kU2 (aA hb2 ⟨(i+1,(g1.set iR (.cells ((R.set i ((oT l[i].op (gR (R.set i aL) (l[i].ks.getD 0 0)).1 (gR (R.set i aL) (l[i].ks.getD 0 0)).2 (gR (R.set i aL) (l[i].ks.getD 1 0)).1 (gR (R.set i aL) (l[i].ks.getD 1 0)).2).1,(oT l[i].op (gR (R.set i aL) (l[i].ks.getD 0 0)).1 (gR (R.set i aL) (l[i].ks.getD 0 0)).2 (gR (R.set i aL) (l[i].ks.getD 1 0)).1 (gR (R.set i aL) (l[i].ks.getD 1 0)).2).2)).flatMap cR))).set iU (.cells ((U.set i (true)).map IV.bool)),iR,iU,R.set i ((oT l[i].op (gR (R.set i aL) (l[i].ks.getD 0 0)).1 (gR (R.set i aL) (l[i].ks.getD 0 0)).2 (gR (R.set i aL) (l[i].ks.getD 1 0)).1 (gR (R.set i aL) (l[i].ks.getD 1 0)).2).1,(oT l[i].op (gR (R.set i aL) (l[i].ks.getD 0 0)).1 (gR (R.set i aL) (l[i].ks.getD 0 0)).2 (gR (R.set i aL) (l[i].ks.getD 1 0)).1 (gR (R.set i aL) (l[i].ks.getD 1 0)).2).2),U.set i (true)),rfl,rfl,rfl,rfl,rfl,hwr,(by rw [tn,stR,stU]),⟨fin2 _ _ _ e1 hu2.symm,trivial⟩,hms⟩)))))
   ·rw [cu,h4S]at hu2;exact aP (kq 1 (by omega)) (aB kU (a4F (ku 1 (by omega)) (by rw [h1Q,h1W]) (aP hii (aB kR (aA hb1 (aP hii (aB kU2 (aA hb2 ⟨(i+1,(g1.set iR (.cells ((R.set i ((oT l[i].op (gR (R.set i aL) (l[i].ks.getD 0 0)).1 (gR (R.set i aL) (l[i].ks.getD 0 0)).2 (gR (R.set i aL) (l[i].ks.getD 1 0)).1 (gR (R.set i aL) (l[i].ks.getD 1 0)).2).1,(oT l[i].op (gR (R.set i aL) (l[i].ks.getD 0 0)).1 (gR (R.set i aL) (l[i].ks.getD 0 0)).2 (gR (R.set i aL) (l[i].ks.getD 1 0)).1 (gR (R.set i aL) (l[i].ks.getD 1 0)).2).2)).flatMap cR))).set iU (.cells ((U.set i (gU U (l[i].ks.getD 1 0))).map IV.bool)),iR,iU,R.set i ((oT l[i].op (gR (R.set i aL) (l[i].ks.getD 0 0)).1 (gR (R.set i aL) (l[i].ks.getD 0 0)).2 (gR (R.set i aL) (l[i].ks.getD 1 0)).1 (gR (R.set i aL) (l[i].ks.getD 1 0)).2).1,(oT l[i].op (gR (R.set i aL) (l[i].ks.getD 0 0)).1 (gR (R.set i aL) (l[i].ks.getD 0 0)).2 (gR (R.set i aL) (l[i].ks.getD 1 0)).1 (gR (R.set i aL) (l[i].ks.getD 1 0)).2).2),U.set i (gU U (l[i].ks.getD 1 0))),rfl,rfl,rfl,rfl,rfl,hwr,(by rw [tn,stR,stU]),⟨fin2 _ _ _ e1 hu2.symm,trivial⟩,hms⟩))))))))
  have e1:aL=rst l ((aG l).getD i 0) kn (R.set i aL) l[i]:=by
   rw [hr2];unfold ist
   rw [if_neg o1,if_neg o22,if_neg o20,if_neg o4];rfl
  have e2:false=ust l ((aG l).getD i 0) un U l[i]:=by
   rw [hu2,decide_eq_false (by omega),h3Z]
  exact dW (fun c3=>dW (fun c4=>absurd ⟨c3,c4⟩ o4) (fun _=>⟨(i+1,g1,iR,iU,R.set i aL,U),rfl,rfl,rfl,rfl,rfl,hwr,rfl,⟨fin0 e1 e2,trivial⟩,hms⟩)) (fun _=>⟨(i+1,g1,iR,iU,R.set i aL,U),rfl,rfl,rfl,rfl,rfl,hwr,rfl,⟨fin0 e1 e2,trivial⟩,hms⟩)
 ·exact hk.elim
def e2N:=bB 57 e2H e2F
theorem e2O:aT env e2N:=aI g4B (e2G)
def e2P(xs:List IV)(h:Heap)(K:KT):Prop:=match xs with
 | [.ptr id 0,.agg [.int .i64 v,.int .i64 f,.int .i64 n,.int .i64 d],.agg [.int .i64 a,.int .i64 b],.hslice iR 0 len 2]=> ∃(l:List Nd)(x y z:IV)(R:List Iv),(h.get id= .cells [.vslice none 0 (l).length 3 ((l).flatMap cN),x,y,z]/\h.get iR= .cells (R.flatMap cR)/\R.length=l.length/\len=l.length)/\(∀i,i<l.length->(R.getD i (0,0)).1<=(R.getD i (0,0)).2/\dB (R.getD i (0,0)))/\(0<=d/\d<l.length/\(aG l).getD d.toNat 0=1/\l.length<=100000)/\K (.tuple [eI (mC l ⟨v,f,n,d⟩ (a,b) R).1,.bool (mC l ⟨v,f,n,d⟩ (a,b) R).2]) h
 |_=>False
def a0D:=IV.tuple [.agg [.int .i64 0,iI 0],IV.bool false]
def yK(a b:Int):=IV.tuple [.agg [.int .i64 a,iI b],IV.bool true]
def lM(n5:Int):=n5==17
def d2O(len:Nat)(n12:Int):=decide (0<=n12) &&decide (n12< (↑len:Int))
def d2P(len:Nat)(n28:Int):=decide (0<=n28) &&decide (n28< (↑len:Int))
def d2Q(len:Nat)(n44:Int):=decide (0<=n44) &&decide (n44< (↑len:Int))
def e2Q(n12:Int):=(0:Nat)+n12.toNat*2+1
def e2R(n28:Int):=(0:Nat)+n28.toNat*2+1
def e2S(n44:Int):=(0:Nat)+n44.toNat*2+1
def e8H(l9:Nat):=true&&decide (0< (↑l9:Int))
def e8I(l9:Nat):=true&&decide (1< (↑l9:Int))
def a7F(n5:Int):=n5==19
def e8J(n16:Int):=wW (n16-1)
def c4I(n5 n18:Int):=(upB n18 (lM n5)).1
def c4J(n5 n20:Int):=(frB n20 (lM n5)).1
def e8K(n22:Int):=wW (n22-1)
def c4K(n5 n24:Int):=(upB n24 (lM n5)).1
def c4L(n5 n26:Int):=(frB n26 (lM n5)).1
def e8L(n32:Int):=wW (n32-1)
def c4M(n5 n34:Int):=(upB n34 (lM n5)).1
def c4N(n5 n36:Int):=(frB n36 (lM n5)).1
def e8M(n38:Int):=wW (n38-1)
def c4O(n5 n40:Int):=(upB n40 (lM n5)).1
def c4P(n5 n42:Int):=(frB n42 (lM n5)).1
def e8N(n48:Int):=wW (n48-1)
def c4Q(n5 n50:Int):=(upB n50 (lM n5)).1
def a6E(n5 n52:Int):=(frB n52 (lM n5)).1
def c9J(n54:Int):=wW (n54-1)
def a6F(n5 n56:Int):=(upB n56 (lM n5)).1
def a6G(n5 n58:Int):=(frB n58 (lM n5)).1
theorem g4C(id:Nat)(v f n d a b:Int)(iR len:Nat)(h:Heap)(Q:KT):dF (aV e2N) env 60 dV bT bT [.ptr id 0,.agg [.int .i64 v,.int .i64 f,.int .i64 n,.int .i64 d],.agg [.int .i64 a,.int .i64 b],.hslice iR 0 len 2] h Q=(
 aF h id fun r0=>bH 3 r0 0 fun(i1:Option Nat)(e2 l3:Nat)(c4:List IV)=>aC (decide (0<=d) &&decide (d< (↑l3:Int))) (aK .i64 c4 (d.toNat*3) fun n5=>aK .i64 c4 (d.toNat*3+1) fun(n6:Int)=>bH 1 c4 (d.toNat*3+1+1) fun(i7:Option Nat)(e8 l9:Nat)(c10:List IV)=>aM (n5 !=17) (aM (n5 !=18) (aM (n5 !=19) (Q (yK a b) h) (aC (e8H l9) (aK .i64 c10 0 fun n11=>aC (e8I l9) (aK .i64 c10 1 fun n12=>aM (a7F n5) (aM (n11 !=n) (Q (yK a b) h) (aC (d2O len n12) (aF h iR fun r13=>aK .i64 r13 ((0:Nat)+n12.toNat*2+0) fun n14=>aM (decide (n14<0)) (Q (yK a b) h) (aM (a7F n5) (aC (d2O len n12) (aF h iR fun r15=>aK .i64 r15 (e2Q n12) fun n16=>Q (.tuple [.agg [.int .i64 ((cP a b (0:Int) (e8J n16)).1),iI ((cP a b (0:Int) (e8J n16)).2)],IV.bool (dU a b (0:Int) (e8J n16))]) h)) (aM (n11==n) (aC (d2O len n12) (aF h iR fun r17=>aK .i64 r17 (e2Q n12) fun n18=>bJ n18/\aM (!Prod.snd (upB n18 (lM n5))) (Q a0D h) (Q (.tuple [.agg [.int .i64 ((cP a b ((c4I n5 n18).1) ((c4I n5 n18).2)).1),iI ((cP a b ((c4I n5 n18).1) ((c4I n5 n18).2)).2)],IV.bool (dU a b ((c4I n5 n18).1) ((c4I n5 n18).2))]) h))) (aM (n12==n) (aC (decide (0<=n11) &&decide (n11< (↑len:Int))) (aF h iR fun r19=>aK .i64 r19 ((0:Nat)+n11.toNat*2+0) fun n20=>bJ n20/\aM (!Prod.snd (frB n20 (lM n5))) (Q a0D h) (Q (.tuple [.agg [.int .i64 ((cP a b ((c4J n5 n20).1) ((c4J n5 n20).2)).1),iI ((cP a b ((c4J n5 n20).1) ((c4J n5 n20).2)).2)],IV.bool (dU a b ((c4J n5 n20).1) ((c4J n5 n20).2))]) h))) (Q (yK a b) h))))))) (aM (a7F n5) (aC (d2O len n12) (aF h iR fun r21=>aK .i64 r21 (e2Q n12) fun n22=>Q (.tuple [.agg [.int .i64 ((cP a b (0:Int) (e8K n22)).1),iI ((cP a b (0:Int) (e8K n22)).2)],IV.bool (dU a b (0:Int) (e8K n22))]) h)) (aM (n11==n) (aC (d2O len n12) (aF h iR fun r23=>aK .i64 r23 (e2Q n12) fun n24=>bJ n24/\aM (!Prod.snd (upB n24 (lM n5))) (Q a0D h) (Q (.tuple [.agg [.int .i64 ((cP a b ((c4K n5 n24).1) ((c4K n5 n24).2)).1),iI ((cP a b ((c4K n5 n24).1) ((c4K n5 n24).2)).2)],IV.bool (dU a b ((c4K n5 n24).1) ((c4K n5 n24).2))]) h))) (aM (n12==n) (aC (decide (0<=n11) &&decide (n11< (↑len:Int))) (aF h iR fun r25=>aK .i64 r25 ((0:Nat)+n11.toNat*2+0) fun n26=>bJ n26/\aM (!Prod.snd (frB n26 (lM n5))) (Q a0D h) (Q (.tuple [.agg [iI ((cP a b ((c4L n5 n26).1) ((c4L n5 n26).2)).1),iI ((cP a b ((c4L n5 n26).1) ((c4L n5 n26).2)).2)],IV.bool (dU a b ((c4L n5 n26).1) ((c4L n5 n26).2))]) h))) (Q (yK a b) h)))))))) (aC (e8H l9) (aK .i64 c10 0 fun n27=>aC (e8I l9) (aK .i64 c10 1 fun n28=>aM (a7F n5) (aM (n27 !=n) (Q (yK a b) h) (aC (d2P len n28) (aF h iR fun r29=>aK .i64 r29 ((0:Nat)+n28.toNat*2+0) fun(n30:Int)=>aM (decide (n30<0)) (Q (yK a b) h) (aM (a7F n5) (aC (d2P len n28) (aF h iR fun r31=>aK .i64 r31 (e2R n28) fun n32=>Q (.tuple [.agg [.int .i64 ((cP a b (0:Int) (e8L n32)).1),iI ((cP a b (0:Int) (e8L n32)).2)],IV.bool (dU a b (0:Int) (e8L n32))]) h)) (aM (n27==n) (aC (d2P len n28) (aF h iR fun r33=>aK .i64 r33 (e2R n28) fun n34=>bJ n34/\aM (!Prod.snd (upB n34 (lM n5))) (Q a0D h) (Q (.tuple [.agg [.int .i64 ((cP a b ((c4M n5 n34).1) ((c4M n5 n34).2)).1),iI ((cP a b ((c4M n5 n34).1) ((c4M n5 n34).2)).2)],IV.bool (dU a b ((c4M n5 n34).1) ((c4M n5 n34).2))]) h))) (aM (n28==n) (aC (decide (0<=n27) &&decide (n27< (↑len:Int))) (aF h iR fun r35=>aK .i64 r35 ((0:Nat)+n27.toNat*2+0) fun n36=>bJ n36/\aM (!Prod.snd (frB n36 (lM n5))) (Q a0D h) (Q (.tuple [.agg [.int .i64 ((cP a b ((c4N n5 n36).1) ((c4N n5 n36).2)).1),iI ((cP a b ((c4N n5 n36).1) ((c4N n5 n36).2)).2)],IV.bool (dU a b ((c4N n5 n36).1) ((c4N n5 n36).2))]) h))) (Q (yK a b) h))))))) (aM (a7F n5) (aC (d2P len n28) (aF h iR fun r37=>aK .i64 r37 (e2R n28) fun n38=>Q (.tuple [.agg [.int .i64 ((cP a b (0:Int) (e8M n38)).1),iI ((cP a b (0:Int) (e8M n38)).2)],IV.bool (dU a b (0:Int) (e8M n38))]) h)) (aM (n27==n) (aC (d2P len n28) (aF h iR fun r39=>aK .i64 r39 (e2R n28) fun n40=>bJ n40/\aM (!Prod.snd (upB n40 (lM n5))) (Q a0D h) (Q (.tuple [.agg [.int .i64 ((cP a b ((c4O n5 n40).1) ((c4O n5 n40).2)).1),iI ((cP a b ((c4O n5 n40).1) ((c4O n5 n40).2)).2)],IV.bool (dU a b ((c4O n5 n40).1) ((c4O n5 n40).2))]) h))) (aM (n28==n) (aC (decide (0<=n27) &&decide (n27< (↑len:Int))) (aF h iR fun r41=>aK .i64 r41 ((0:Nat)+n27.toNat*2+0) fun n42=>bJ n42/\aM (!Prod.snd (frB n42 (lM n5))) (Q a0D h) (Q (.tuple [.agg [.int .i64 ((cP a b ((c4P n5 n42).1) ((c4P n5 n42).2)).1),iI ((cP a b ((c4P n5 n42).1) ((c4P n5 n42).2)).2)],IV.bool (dU a b ((c4P n5 n42).1) ((c4P n5 n42).2))]) h))) (Q (yK a b) h)))))))) (aC (e8H l9) (aK .i64 c10 0 fun n43=>aC (e8I l9) (aK .i64 c10 1 fun n44=>aM (a7F n5) (aM (n43 !=n) (Q (yK a b) h) (aC (d2Q len n44) (aF h iR fun r45=>aK .i64 r45 ((0:Nat)+n44.toNat*2+0) fun n46=>aM (decide (n46<0)) (Q (yK a b) h) (aM (a7F n5) (aC (d2Q len n44) (aF h iR fun r47=>aK .i64 r47 (e2S n44) fun n48=>Q (.tuple [.agg [.int .i64 ((cP a b (0:Int) (e8N n48)).1),iI ((cP a b (0:Int) (e8N n48)).2)],IV.bool (dU a b (0:Int) (e8N n48))]) h)) (aM (n43==n) (aC (d2Q len n44) (aF h iR fun r49=>aK .i64 r49 (e2S n44) fun n50=>bJ n50/\aM (!Prod.snd (upB n50 (lM n5))) (Q a0D h) (Q (.tuple [.agg [.int .i64 ((cP a b ((c4Q n5 n50).1) ((c4Q n5 n50).2)).1),iI ((cP a b ((c4Q n5 n50).1) ((c4Q n5 n50).2)).2)],IV.bool (dU a b ((c4Q n5 n50).1) ((c4Q n5 n50).2))]) h))) (aM (n44==n) (aC (decide (0<=n43) &&decide (n43< (↑len:Int))) (aF h iR fun r51=>aK .i64 r51 ((0:Nat)+n43.toNat*2+0) fun n52=>bJ n52/\aM (!Prod.snd (frB n52 (lM n5))) (Q a0D h) (Q (.tuple [.agg [.int .i64 ((cP a b ((a6E n5 n52).1) ((a6E n5 n52).2)).1),iI ((cP a b ((a6E n5 n52).1) ((a6E n5 n52).2)).2)],IV.bool (dU a b ((a6E n5 n52).1) ((a6E n5 n52).2))]) h))) (Q (yK a b) h))))))) (aM (a7F n5) (aC (d2Q len n44) (aF h iR fun r53=>aK .i64 r53 (e2S n44) fun n54=>Q (.tuple [.agg [.int .i64 ((cP a b (0:Int) (c9J n54)).1),iI ((cP a b (0:Int) (c9J n54)).2)],IV.bool (dU a b (0:Int) (c9J n54))]) h)) (aM (n43==n) (aC (d2Q len n44) (aF h iR fun r55=>aK .i64 r55 (e2S n44) fun n56=>bJ n56/\aM (!Prod.snd (upB n56 (lM n5))) (Q a0D h) (Q (.tuple [.agg [.int .i64 ((cP a b ((a6F n5 n56).1) ((a6F n5 n56).2)).1),iI ((cP a b ((a6F n5 n56).1) ((a6F n5 n56).2)).2)],IV.bool (dU a b ((a6F n5 n56).1) ((a6F n5 n56).2))]) h))) (aM (n44==n) (aC (decide (0<=n43) &&decide (n43< (↑len:Int))) (aF h iR fun r57=>aK .i64 r57 ((0:Nat)+n43.toNat*2+0) fun n58=>bJ n58/\aM (!Prod.snd (frB n58 (lM n5))) (Q a0D h) (Q (.tuple [.agg [.int .i64 ((cP a b ((a6G n5 n58).1) ((a6G n5 n58).2)).1),iI ((cP a b ((a6G n5 n58).1) ((a6G n5 n58).2)).2)],IV.bool (dU a b ((a6G n5 n58).1) ((a6G n5 n58).2))]) h))) (Q (yK a b) h))))))))):=by kernel_rfl
theorem g4D: ∀xs h Q,e2P xs h Q->aU env 60 xs h Q:=by
 intro xs h Q hk;unfold e2P at hk;split at hk
 ·rename_i id v f n d a b iR len;obtain⟨l,x,y,z,R,⟨hg,hgR,hRl,hlen⟩,hR,hd,hk⟩:=hk;refine aS (e2O) (g4C id v f n d a b iR len h Q) ?_;delta a0D yK lM d2O d2P d2Q e2Q e2R e2S e8H e8I a7F e8J c4I c4J e8K c4K c4L e8L c4M c4N e8M c4O c4P e8N c4Q a6E c9J a6F a6G wW iI;have tn: ∀x:Nat,(x:Int).toNat=x:=h0Z
  have hlt:d.toNat<l.length:=by omega
  obtain⟨h1,h2⟩:=zJ hlt hd.2.2.1;have hll:=hd.2.2.2;have hD:l.getD d.toNat default=l[d.toNat]:=cQ hlt;have hRb: ∀q:Int,(hq:0<=q/\q<l.length)->gR R q=R[q.toNat]'(by omega)/\True/\bJ (gR R q).1/\bJ (gR R q).2:=fun q hq=>⟨cQ (by omega),trivial,(hR q.toNat (by omega)).2⟩
  have hAt: ∀q:Int,(hq:0<=q/\q<l.length)->(R.flatMap cR)[0+q.toNat*2+0]?=some (.int .i64 (gR R q).1)/\(R.flatMap cR)[0+q.toNat*2+1]?=some (.int .i64 (gR R q).2):=fun q hq=>by
   rw [(hRb q hq).1,h1Q];exact a3X (show q.toNat<R.length by omega)
  have need2': ∀{p:Prop}[Decidable p]{A:Prop},p->A->aC (true&&decide p) A:=fun h a=>aA (by rw [decide_eq_true h];rfl) a
  refine aB hg (sA rfl (aP ⟨hd.1,by omega⟩ (a6X hlt rfl ?_)));unfold mC at hk;dsimp only at hk;rw [hD]at hk;have two:(l[d.toNat].op=17\/l[d.toNat].op=18\/l[d.toNat].op=19)->l[d.toNat].ks.length=2:=fun o=>by
   rcases h2 with⟨o25,_⟩| ⟨_,_,_,ha,_⟩
   ·omega
   ·unfold ar at ha;rw [if_neg (by omega),if_neg (by omega),if_pos (by omega)]at ha;omega
  by_cases o17:l[d.toNat].op=17\/l[d.toNat].op=18\/l[d.toNat].op=19
  case neg=>
   rw [if_pos ⟨fun q=>o17 (.inl q),fun q=>o17 (.inr (.inl q)),fun q=>o17 (.inr (.inr q))⟩]at hk;refine aD (fun _=>aD (fun _=>aD (fun _=>hk) (fun c=>?_)) (fun c=>?_)) (fun c=>?_)
   ·rw [bne_eq_false_iff_eq]at c;exact absurd (.inr (.inr c)) o17
   ·rw [bne_eq_false_iff_eq]at c;exact absurd (.inr (.inl c)) o17
   ·rw [bne_eq_false_iff_eq]at c;exact absurd (.inl c) o17
  have hl2:=two o17;have k0:0<l[d.toNat].ks.length:=by omega
  have k1:1<l[d.toNat].ks.length:=by omega
  have b0:=h1 _ (h1B k0);have b1:=h1 _ (h1B k1);have e0:l[d.toNat].ks.getD 0 0=l[d.toNat].ks[0]:=cQ k0;have e1:l[d.toNat].ks.getD 1 0=l[d.toNat].ks[1]:=cQ k1;replace b0:0<=l[d.toNat].ks[0]/\l[d.toNat].ks[0]< (l.length:Int):=⟨b0.1,by omega⟩;replace b1:0<=l[d.toNat].ks[1]/\l[d.toNat].ks[1]< (l.length:Int):=⟨b1.1,by omega⟩;rcases o17 with o|o|o
  ·rw [o]at hk⊢;rw [if_neg (by decide),if_neg (by decide)]at hk;refine(bf rfl (need2' (by omega) (jM k0 rfl (need2' (by omega) (jM k1 rfl (bf rfl (bf rfl (aD (fun c=>?_) (fun c=>?_)))))))))
   ·rw [beq_iff_eq]at c;rw [if_pos (e0.trans c)]at hk;refine aP ⟨b1.1,by omega⟩ (aB hgR (bF (hAt l[d.toNat].ks[1] b1).2 ⟨(hRb l[d.toNat].ks[1] b1).2.2.2,?_⟩))
    cases u:(upB (gR R l[d.toNat].ks[1]).2 ((17:Int)==17)).2 with
    |true=>
     rw [e1,u,if_pos rfl]at hk;exact bf rfl hk
    |false=>
     rw [e1,u,if_neg (by decide)]at hk;exact bt rfl hk
   ·rw [beq_eq_false_iff_ne]at c;rw [if_neg (fun q=>c (e0.symm.trans q))]at hk;refine aD (fun c2=>?_) (fun c2=>?_)
    ·rw [beq_iff_eq]at c2;rw [if_pos (e1.trans c2)]at hk;refine aP ⟨b0.1,by omega⟩ (aB hgR (bF (hAt l[d.toNat].ks[0] b0).1 ⟨(hRb l[d.toNat].ks[0] b0).2.2.1,?_⟩))
     cases u:(frB (gR R l[d.toNat].ks[0]).1 ((17:Int)==17)).2 with
     |true=>
      rw [e0,u,if_pos rfl]at hk;exact bf rfl hk
     |false=>
      rw [e0,u,if_neg (by decide)]at hk;exact bt rfl hk
    ·rw [beq_eq_false_iff_ne]at c2;rw [if_neg (fun q=>c2 (e1.symm.trans q))]at hk;exact hk
  ·rw [o]at hk⊢;rw [if_neg (by decide),if_neg (by decide)]at hk;refine(bt rfl (bf rfl (need2' (by omega) (jM k0 rfl (need2' (by omega) (jM k1 rfl (bf rfl (bf rfl (aD (fun c=>?_) (fun c=>?_))))))))))
   ·rw [beq_iff_eq]at c;rw [if_pos (e0.trans c)]at hk;refine aP ⟨b1.1,by omega⟩ (aB hgR (bF (hAt l[d.toNat].ks[1] b1).2 ⟨(hRb l[d.toNat].ks[1] b1).2.2.2,?_⟩))
    cases u:(upB (gR R l[d.toNat].ks[1]).2 ((18:Int)==17)).2 with
    |true=>
     rw [e1,u,if_pos rfl]at hk;exact bf rfl hk
    |false=>
     rw [e1,u,if_neg (by decide)]at hk;exact bt rfl hk
   ·rw [beq_eq_false_iff_ne]at c;rw [if_neg (fun q=>c (e0.symm.trans q))]at hk;refine aD (fun c2=>?_) (fun c2=>?_)
    ·rw [beq_iff_eq]at c2;rw [if_pos (e1.trans c2)]at hk;refine aP ⟨b0.1,by omega⟩ (aB hgR (bF (hAt l[d.toNat].ks[0] b0).1 ⟨(hRb l[d.toNat].ks[0] b0).2.2.1,?_⟩))
     cases u:(frB (gR R l[d.toNat].ks[0]).1 ((18:Int)==17)).2 with
     |true=>
      rw [e0,u,if_pos rfl]at hk;exact bf rfl hk
     |false=>
      rw [e0,u,if_neg (by decide)]at hk;exact bt rfl hk
    ·rw [beq_eq_false_iff_ne]at c2;rw [if_neg (fun q=>c2 (e1.symm.trans q))]at hk;exact hk
  ·rw [o]at hk⊢;rw [if_neg (by decide),if_pos rfl]at hk;refine bt rfl (bt rfl (bf rfl (need2' (by omega) (jM k0 rfl (need2' (by omega) (jM k1 rfl (bt rfl (aD (fun c=>?_) (fun c=>?_)))))))))
   ·rw [bne_iff_ne]at c;rw [if_pos (.inl (fun q=>c (e0.symm.trans q)))]at hk;exact hk
   ·rw [bne_eq_false_iff_eq]at c;refine aP ⟨b1.1,by omega⟩ (aB hgR (bF (hAt l[d.toNat].ks[1] b1).1 ?_));refine dW (fun c2=>?_) (fun c2=>?_)
    ·rw [if_pos (.inr (by rw [e1];exact c2))]at hk;exact hk
    ·rw [if_neg (fun q=>q.elim (fun q=>q (e0.trans c)) (fun q=>c2 (by rw [e1]at q;exact q))),e1]at hk;refine bt rfl (aP ⟨b1.1,by omega⟩ (aB hgR (bF (hAt l[d.toNat].ks[1] b1).2 ?_)));exact hk
 ·exact hk.elim
def e2T:=bB 60 e2P e2N
theorem e2U:aT env e2T:=aI g4D (e2O)
def f8P(xs:List IV)(h:Heap)(K:KT):Prop:=match xs with
 | [.agg [.int .i64 a,.int .i64 b],.ptr s 0,.ptr w 0]=> ∃o:Option Iv,vH h s w o/\s≠w/\∀h2:Heap,vH h2 s w (joG o (a,b))->(∀j,j≠s->j≠w->h2.get j=h.get j)->h2.next=h.next->K (.tuple []) h2
 |_=>False
theorem g9F(a b:Int)(s w:Nat)(h:Heap)(Q:KT):dF (aV e2T) env 101 dV bT bT [.agg [.int .i64 a,.int .i64 b],.ptr s 0,.ptr w 0] h Q=(
 aF h s fun r0=>iS r0 0 fun b1=>aM b1 (aF h w fun r2=>aK .i64 r2 0 fun n3=>aK .i64 r2 1 fun n4=>aF h w fun r5=>aC (Nat.ble 2 r5.length) (aF (h.set w (IObj.cells (iI (min n3 a)::iI (max n4 b)::List.drop 2 r5))) s fun r6=>aC (Nat.ble 1 r6.length) (Q (.tuple []) ((h.set w (IObj.cells (iI (min n3 a)::iI (max n4 b)::List.drop 2 r5))).set s (IObj.cells (IV.bool true::List.drop 1 r6)))))) (aF h w fun r7=>aC (Nat.ble 2 r7.length) (aF (h.set w (IObj.cells (iI a::iI b::List.drop 2 r7))) s fun r8=>aC (Nat.ble 1 r8.length) (Q (.tuple []) ((h.set w (IObj.cells (iI a::iI b::List.drop 2 r7))).set s (IObj.cells (IV.bool true::List.drop 1 r8))))))):=by kernel_rfl
theorem g9G: ∀xs h Q,f8P xs h Q->aU env 101 xs h Q:=by
 intro xs h Q hk;unfold f8P at hk;split at hk
 ·rename_i a b s w;obtain⟨o,ho,hsw,hk⟩:=hk;refine aS (e2U) (g9F a b s w h Q) ?_;delta iI;obtain⟨q,w1,s1,e1⟩:=ho;refine aB s1 (lG rfl (aD (fun c=>?_) (fun c=>?_)))
  ·have e2:joG o (a,b)=some (min q.1 a,max q.2 b):=by
    cases o with
    |none=>cases c
    |some z=>rw [e1 z rfl];rfl
   rw [e2]at hk;exact aB w1 (bF rfl (bF rfl (aB w1 (aA rfl (aB ((aE hsw).trans s1) (aA rfl (hk _ ⟨(min q.1 a,max q.2 b),(aE hsw.symm).trans aH,aH,fun z hz=>(h1M hz).symm⟩ (fun j x y=>(aE x).trans (aE y)) rfl)))))))
  ·have e2:joG o (a,b)=some (a,b):=by
    cases o with
    |none=>rfl
    |some z=>cases c
   rw [e2]at hk;exact aB w1 (aA rfl (aB ((aE hsw).trans s1) (aA rfl (hk _ ⟨(a,b),(aE hsw.symm).trans aH,aH,fun z hz=>(h1M hz).symm⟩ (fun j x y=>(aE x).trans (aE y)) rfl))))
 ·exact hk.elim
def f8Q:=bB 101 f8P e2T
theorem f1B:aT env f8Q:=aI g9G (e2U)
def f8R(xs:List IV)(h:Heap)(K:KT):Prop:=match xs with
 | [.agg [.int .i64 a,.int .i64 b],.ptr s 0,.ptr r 0,.ptr w 0]=> ∃(o:Option Iv)(m:Nat),vH h s w o/\h.get r= .cells [.int .i64 (m:Int)]/\K (eI (pO o m (a,b))) h
 |_=>False
theorem g9H(a b:Int)(s r w:Nat)(h:Heap)(Q:KT):dF (aV f8Q) env 103 dV bT bT [.agg [.int .i64 a,.int .i64 b],.ptr s 0,.ptr r 0,.ptr w 0] h Q=(
 aF h s fun r0=>iS r0 0 fun b1=>aM b1 (aF h r fun r2=>aK .i64 r2 0 fun n3=>aM (decide (n3>3)) (aF h w fun r4=>aK .i64 r4 0 fun n5=>aK .i64 r4 1 fun n6=>aF h w fun r7=>aK .i64 r7 0 fun n8=>aK .i64 r7 1 fun n9=>Q (.agg [.int .i64 (wlo n5 (min n8 a)),iI (whi n6 (max n9 b))]) h) (Q (.agg [.int .i64 a,iI b]) h)) (Q (.agg [.int .i64 a,iI b]) h)):=by kernel_rfl
theorem g9I: ∀xs h Q,f8R xs h Q->aU env 103 xs h Q:=by
 intro xs h Q hk;unfold f8R at hk;split at hk
 ·rename_i a b s r w;obtain⟨o,m,ho,hr,hk⟩:=hk;refine aS (f1B) (g9H a b s r w h Q) ?_;delta iI;obtain⟨q,w1,s1,e1⟩:=ho;refine aB s1 (lG rfl (aD (fun c=>?_) (fun c=>?_)))
  ·cases o with
   |none=>cases c
   |some z=>
    obtain rfl:z=q:=e1 z rfl;refine aB hr (bF rfl (dW (fun c2=>?_) (fun c2=>?_)))
    ·have e2:pO (some z) m (a,b)=(wlo z.1 (min z.1 a),whi z.2 (max z.2 b)):=by
      unfold pO
      dsimp only;rw [if_pos (by omega)]
     rw [e2]at hk;exact aB w1 (bF rfl (bF rfl (aB w1 (bF rfl (bF rfl hk)))))
    ·have e2:pO (some z) m (a,b)=(a,b):=by
      unfold pO
      dsimp only;rw [if_neg (by omega)]
     rw [e2]at hk;exact hk
  ·cases o with
   |none=>exact hk
   |some z=>cases c
 ·exact hk.elim
def f8S:=bB 103 f8R f8Q
theorem f1C:aT env f8S:=aI g9I (f1B)
def g9J(id:Nat)(l:List Nd)(mk mU:Nat)(kn:KnT)(un:UnT)(v f n d:Int)(r:Nat)(h:Heap):Inv':=hJ (Heap×UpN) (fun x=>[(0,.v (.ptr id 0)),(4,.l 4 0),(5,.v (.ptr x.2.i5 0)),(7,.v (.hslice x.2.iR 0 l.length 2)),(8,.v (.hslice x.2.iU 0 l.length 1)),(9,.v (.ptr x.2.i9 0)),(10,.v (.ptr x.2.i10 0))]) (fun x=>[(4,[.int .i64 v,.int .i64 f,.int .i64 n,.int .i64 d])]) (fun x=>x.1) (fun x=>UpS l kn un v r h x.1 x.2 x.1.next/\True) (fun _=>0)
def g9K(id:Nat)(l:List Nd)(mk mU:Nat)(kn:KnT)(un:UnT)(v f n d:Int)(r:Nat)(h:Heap):Inv':=hJ (Heap×UpN×Nat) (fun x=>[(0,.v (.ptr id 0)),(4,.l 4 0),(5,.v (.ptr x.2.1.i5 0)),(7,.v (.hslice x.2.1.iR 0 l.length 2)),(8,.v (.hslice x.2.1.iU 0 l.length 1)),(9,.v (.ptr x.2.1.i9 0)),(10,.v (.ptr x.2.1.i10 0)),(11,.v (.ptr x.2.1.i11 0)),(12,.v (.ptr x.2.1.i12 0)),(13,.v (.func (.func 101) [] [.ptr x.2.1.i12 0,.ptr x.2.1.i11 0])),(14,.v (.func (.func 103) [] [.ptr x.2.1.i10 0,.ptr x.2.1.i5 0,.ptr x.2.1.i9 0]))]) (fun x=>[(4,[.int .i64 v,.int .i64 f,.int .i64 n,.int .i64 d])]) (fun x=>x.1) (fun x=>UpS l kn un v r h x.1 x.2.1 x.2.2/\UpM x.1 x.2.1 x.2.2 (j1G l kn un v f r)) (fun _=>0)
def g4E(id:Nat)(l:List Nd)(mk mU:Nat)(kn:KnT)(un:UnT)(v f n d:Int)(r:Nat)(h:Heap):Inv':=hJ (Heap×UpN×Nat) (fun x=>[(0,.v (.ptr id 0)),(4,.l 4 0),(5,.v (.ptr x.2.1.i5 0)),(7,.v (.hslice x.2.1.iR 0 l.length 2)),(8,.v (.hslice x.2.1.iU 0 l.length 1)),(9,.v (.ptr x.2.1.i9 0)),(10,.v (.ptr x.2.1.i10 0)),(11,.v (.ptr x.2.1.i11 0)),(12,.v (.ptr x.2.1.i12 0)),(13,.v (.func (.func 101) [] [.ptr x.2.1.i12 0,.ptr x.2.1.i11 0])),(14,.v (.func (.func 103) [] [.ptr x.2.1.i10 0,.ptr x.2.1.i5 0,.ptr x.2.1.i9 0])),(15,.l 15 0),(16,.v (.bool (p2G l kn un v f n d r).2))]) (fun x=>[(4,[.int .i64 v,.int .i64 f,.int .i64 n,.int .i64 d]),(15,[.int .i64 (p2G l kn un v f n d r).1.1,.int .i64 (p2G l kn un v f n d r).1.2])]) (fun x=>x.1) (fun x=>UpS l kn un v r h x.1 x.2.1 x.2.2/\UpM x.1 x.2.1 x.2.2 (j1G l kn un v f r)/\gU (uG l un) n=false) (fun _=>0)
def g4F(id:Nat)(l:List Nd)(mk mU:Nat)(kn:KnT)(un:UnT)(v f n d:Int)(r:Nat)(h:Heap):Inv':=hJ (Heap×UpN×Nat) (fun x=>[(0,.v (.ptr id 0)),(4,.l 4 0),(9,.v (.ptr x.2.1.i9 0)),(10,.v (.ptr x.2.1.i10 0)),(11,.v (.ptr x.2.1.i11 0)),(12,.v (.ptr x.2.1.i12 0))]) (fun x=>[(4,[.int .i64 v,.int .i64 f,.int .i64 n,.int .i64 d])]) (fun x=>x.1) (fun x=>UpS l kn un v r h x.1 x.2.1 x.2.2/\UpM x.1 x.2.1 x.2.2 (sH l kn un ⟨v,f,n,d⟩ r)) (fun _=>0)
def f8T(xs:List IV)(h:Heap)(K:KT):Prop:=match xs with
 | [.ptr id 0,.agg [.int .i64 v,.int .i64 f,.int .i64 n,.int .i64 d],.int .i64 q]=> ∃(l:List Nd)(mk mU:Nat)(kn:KnT)(un:UnT)(r:Nat),(q=(r:Int)/\h.get id= .cells [.vslice none 0 (l).length 3 ((l).flatMap cN),.vslice none 0 (aG l).length 1 ((aG l).map (IV.int .i64)),.map mk,.map mU]/\id<h.next)/\AzS h l mk (.map mU) kn un/\mk≠mU/\LvS l f n d/\(tV l kn un ⟨v,f,n,d⟩ r=none-> ∀h2:Heap,(∀j,j<h.next->h2.get j=h.get j)->h.next<=h2.next->K (.bool false) h2)/\(∀y,tV l kn un ⟨v,f,n,d⟩ r=some y-> ∀h2:Heap,knS h2 mk (zN kn v y)->unS h2 (.map mU) (fun w=>if w=v then false else un w)->(∀j,j<h.next->j≠mk->j≠mU->h2.get j=h.get j)->h.next<=h2.next->K (.bool true) h2)
 |_=>False
def vY:=IObj.cells [iI 0,iI 0]
def a1Q:=IObj.cells [IV.bool false]
def b9A(h2:Heap):=(h2.push IObj.free).push IObj.free
def b3F(h2:Heap):=h2.next+1
def e2V(h2:Heap):=((b9A h2).set (h2.next) vY).set (b3F h2) a1Q
def a7G(n11 n12:Int)(r15:List IV):=IObj.cells (iI n11::iI n12::List.drop 2 r15)
def b3G(v f n d:Int):=[iI v,iI f,iI n,iI d]
def b9B(b14:Bool)(r16:List IV):=IObj.cells (IV.bool b14::List.drop 1 r16)
def b3H:=TV.l 4 0
def b3I(id:Nat):=TV.v (.ptr id 0)
def f8U(h2:Heap)(r8:List IV):=(e2V h2).set (h2.next) (IObj.cells (iI 0::iI 0::List.drop 2 r8))
def d2R:=TypeDesc.int .i64
def e8O(r:Nat)(h:Heap):=h.push (IObj.cells [iI (↑r:Int)])
def uA(l:List Nd):=l.length
def f8V:=IV.agg [.int .i64 0,iI 0]
def c4R:=IV.bool false
def f8W(h2:Heap)(n4 n5:Int)(r6:List IV):=(e2V h2).set (h2.next) (IObj.cells (iI n4::iI n5::List.drop 2 r6))
def d2S(v:Int):=iI v
def e8P:=Fn.func (101:FuncId)
def e8Q:=Fn.func (103:FuncId)
def e2W(d f n v:Int)(h h2:Heap)(iR iU id r:Nat)(kn:KnT)(l l_1:List Nd)(un:UnT)(y0:Heap):Prop:= ∃(yy:Heap×UpN),some (b3I id)=some (b3I id)/\some b3H=some b3H/\some (TV.v (.ptr (h.next) 0))=some (TV.v (.ptr (UpN.i5 yy.2) 0))/\some (TV.v (.hslice iR 0 l_1.length 2))=some (TV.v (.hslice (UpN.iR yy.2) 0 (uA l) 2))/\some (TV.v (.hslice iU 0 l_1.length 1))=some (TV.v (.hslice
 (UpN.iU yy.2) 0 (uA l) 1))/\some (TV.v (.ptr (h2.next) 0))=some (TV.v (.ptr (UpN.i9 yy.2) 0))/\some (TV.v (.ptr (b3F h2) 0))=some (TV.v (.ptr (UpN.i10 yy.2) 0))/\some (b3G v f n d)=some (b3G v f n d)/\y0=yy.1/\(UpS l kn un v r h yy.1 yy.2 (yy.1.next)/\True)/\True
def e2X(d f n v:Int)(h:Heap)(id r:Nat)(kn:KnT)(l:List Nd)(un:UnT)(x:Heap×UpN)(y0:Heap):Prop:= ∃(yy:Heap×UpN×Nat),some (b3I id)=some (b3I id)/\some b3H=some b3H/\some (TV.v (.ptr (UpN.i5 x.2) 0))=some (TV.v (.ptr (UpN.i5 yy.2.1) 0))/\some (TV.v (.hslice (UpN.iR x.2) 0 (uA l) 2))=some (TV.v (.hslice (UpN.iR yy.2.1) 0 (uA l) 2))/\some (TV.v (.hslice (UpN.iU x.2) 0 (uA
 l) 1))=some (TV.v (.hslice (UpN.iU yy.2.1) 0 (uA l) 1))/\some (TV.v (.ptr (UpN.i9 x.2) 0))=some (TV.v (.ptr (UpN.i9 yy.2.1) 0))/\some (TV.v (.ptr (UpN.i10 x.2) 0))=some (TV.v (.ptr (UpN.i10 yy.2.1) 0))/\some (TV.v (.ptr (x.1.next) 0))=some (TV.v (.ptr (UpN.i11 yy.2.1) 0))/\some (TV.v
 (.ptr (x.1.next+1) 0))=some (TV.v (.ptr (UpN.i12 yy.2.1) 0))/\some (TV.v (.func (Fn.func (101:Nat)) [] [IV.ptr (x.1.next+1) 0,IV.ptr (x.1.next) 0]))=some (TV.v (.func e8P [] [IV.ptr (UpN.i12 yy.2.1) 0,IV.ptr (UpN.i11 yy.2.1) 0]))/\some (TV.v (.func (Fn.func (103:Nat))
 [] [IV.ptr (UpN.i10 x.2) 0,IV.ptr (UpN.i5 x.2) 0,IV.ptr (UpN.i9 x.2) 0]))=some (TV.v (.func e8Q [] [IV.ptr (UpN.i10 yy.2.1) 0,IV.ptr (UpN.i5 yy.2.1) 0,IV.ptr (UpN.i9 yy.2.1) 0]))/\some (b3G v f n d)=some (b3G v f n d)/\y0=yy.1/\(UpS l kn un v r h yy.1 yy.2.1 yy.2.2/\UpM yy.1 yy.2.1 yy.2.2
 (j1G l kn un v f r))/\True
def c9K(d f n v:Int)(h:Heap)(id r:Nat)(kn:KnT)(l:List Nd)(un:UnT)(x:Heap×UpN×Nat)(y0:Bool)(y1:List IV):Prop:= ∃(yy:Heap×UpN×Nat),some (b3I id)=some (b3I id)/\some b3H=some b3H/\some (TV.v (.ptr (UpN.i5 x.2.1) 0))=some (TV.v (.ptr (UpN.i5 yy.2.1) 0))/\some (TV.v (.hslice (UpN.iR x.2.1) 0 (uA l) 2))=some (TV.v (.hslice (UpN.iR yy.2.1) 0 (uA l) 2))/\some (TV.v (.hslice (UpN.iU x.2.1)
 0 (uA l) 1))=some (TV.v (.hslice (UpN.iU yy.2.1) 0 (uA l) 1))/\some (TV.v (.ptr (UpN.i9 x.2.1) 0))=some (TV.v (.ptr (UpN.i9 yy.2.1) 0))/\some (TV.v (.ptr (UpN.i10 x.2.1) 0))=some (TV.v (.ptr (UpN.i10 yy.2.1) 0))/\some (TV.v (.ptr (UpN.i11 x.2.1) 0))=some (TV.v (.ptr (UpN.i11 yy.2.1) 0))
 /\some (TV.v (.ptr (UpN.i12 x.2.1) 0))=some (TV.v (.ptr (UpN.i12 yy.2.1) 0))/\some (TV.v (.func e8P [] [IV.ptr (UpN.i12 x.2.1) 0,IV.ptr (UpN.i11 x.2.1) 0]))=some (TV.v (.func e8P [] [IV.ptr (UpN.i12 yy.2.1) 0,IV.ptr (UpN.i11 yy.2.1) 0]))/\some (TV.v (.func e8Q [] [IV.ptr (UpN.i10 x.2.1) 0,
 IV.ptr (UpN.i5 x.2.1) 0,IV.ptr (UpN.i9 x.2.1) 0]))=some (TV.v (.func e8Q [] [IV.ptr (UpN.i10 yy.2.1) 0,IV.ptr (UpN.i5 yy.2.1) 0,IV.ptr (UpN.i9 yy.2.1) 0]))/\some (TV.l 15 0)=some (TV.l 15 0)/\some (TV.v (.bool (y0)))=some (TV.v (.bool ((p2G l kn un v f n d r).2)))/\some (b3G v f
 n d)=some (b3G v f n d)/\some (y1)=some [iI (((p2G l kn un v f n d r).1).1),iI (((p2G l kn un v f n d r).1).2)]/\x.1=yy.1/\(UpS l kn un v r h yy.1 yy.2.1 yy.2.2/\UpM yy.1 yy.2.1 yy.2.2 (j1G l kn un v f r)/\gU (uG l un) n=false)/\True
def c9L(d f n v:Int)(h:Heap)(id r:Nat)(kn:KnT)(l:List Nd)(un:UnT)(x:Heap×UpN×Nat)(y0:Heap):Prop:= ∃(yy:Heap×UpN×Nat),some (b3I id)=some (b3I id)/\some b3H=some b3H/\some (TV.v (.ptr (UpN.i9 x.2.1) 0))=some (TV.v (.ptr (UpN.i9 yy.2.1) 0))/\some (TV.v (.ptr (UpN.i10 x.2.1) 0))=some (TV.v (.ptr (UpN.i10 yy.2.1) 0))/\some (TV.v (.ptr (UpN.i11 x.2.1) 0))=some (TV.v (.ptr (UpN.i11
 yy.2.1) 0))/\some (TV.v (.ptr (UpN.i12 x.2.1) 0))=some (TV.v (.ptr (UpN.i12 yy.2.1) 0))/\some (b3G v f n d)=some (b3G v f n d)/\y0=yy.1/\(UpS l kn un v r h yy.1 yy.2.1 yy.2.2/\UpM yy.1 yy.2.1 yy.2.2 (sH l kn un (LV.mk v f n d) r))/\True
theorem g9L(id:Nat)(l:List Nd)(mk mU:Nat)(kn:KnT)(un:UnT)(v f n d:Int)(r:Nat)(h:Heap)(Q:KT):dF (aV f8S) env 55 dV bT (icS (icA 4 (g9J id l mk mU kn un v f n d r h) (icA 9 (g9K id l mk mU kn un v f n d r h) (icA 13 (g4E id l mk mU kn un v f n d r h) (icA 15 (g4F id l mk mU kn un v f n d r h) bT))))) [.ptr id 0,.agg [.int .i64 v,.int .i64 f,.int .i64 n,.int .i64 d],.int .i64 (r:Int)] h Q=(
 (∃(l_1:List Nd),∃(mk:Nat),∃(mu:IV),∃(kn_1:Int->Option Iv),∃(un_1:Int->Bool),((e8O r h).get id=IObj.cells [IV.vslice none 0 l_1.length 3 (List.flatMap cN l_1),IV.vslice none 0 ((aG l_1).length) 1 (List.map (IV.int .i64) (aG l_1)),IV.map mk,mu]/\id<h.next+1)/\AzS (e8O r h) l_1 mk mu kn_1 un_1/\∀(h2:Heap)(iR iU:Nat),h2.get iR=IObj.cells (List.flatMap cR (rG l_1 kn_1))->Heap.get h2 iU=IObj.cells (List.map IV.bool (uG l_1 un_1))->Heap.next h+1<=iR/\iR<h2.next/\Heap.next h+1<=iU/\iU<h2.next/\iR≠iU->(∀(j:Nat),j<h.next+1->Heap.get h2 j=(e8O r h).get j)->aF (b9A h2) id fun r0=>qY r0 2 fun(i1:Nat)=>fV (b9A h2) i1 d2R (d2S v) (fun r2=>a1B (2:Nat) r2 0 fun x3=>aK .i64 x3 0 fun n4=>aK .i64 x3 1 fun n5=>yY (b9A h2) (h2.next) (yY ((b9A h2).set (h2.next) vY) (b3F h2) (aF (e2V h2) (h2.next) fun r6=>aC (Nat.ble 2 (r6.length)) (aF (f8W h2 n4 n5 r6) (b3F h2) fun r7=>aC (Nat.ble 1 r7.length) (e2W d f n v h h2 iR iU id r kn l l_1 un ((f8W h2 n4 n5 r6).set (b3F h2) (IObj.cells (IV.bool true::List.drop 1 r7)))))))) (yY (b9A h2) (h2.next) (yY ((b9A h2).set (h2.next) vY) (b3F h2) (aF (e2V h2) (h2.next) fun r8=>aC (Nat.ble 2 r8.length) (aF (f8U h2 r8) (b3F h2) fun r9=>aC (Nat.ble 1 r9.length) (e2W d f n v h h2 iR iU id r kn l l_1 un ((f8U h2 r8).set (b3F h2) (IObj.cells (IV.bool false::List.drop 1 r9)))))))))/\(∀(x:Heap×UpN)(b:FF),UpS l kn un v r h x.1 x.2 (x.1.next)/\True->aF ((x.1.push IObj.free).push IObj.free) (UpN.i9 x.2) fun r10=>aK .i64 r10 0 fun n11=>aK .i64 r10 1 fun n12=>aF ((x.1.push IObj.free).push IObj.free) (UpN.i10 x.2) fun r13=>iS r13 0 fun b14=>yY ((x.1.push IObj.free).push IObj.free) ((x.1).next) (yY (((x.1.push IObj.free).push IObj.free).set (x.1.next) vY) (x.1.next+1) (aF ((((x.1.push IObj.free).push IObj.free).set (x.1.next) vY).set (x.1.next+1) a1Q) (x.1.next) fun r15=>aC (Nat.ble 2 r15.length) (aY (((((x.1.push IObj.free).push IObj.free).set (x.1.next) vY).set (x.1.next+1) a1Q).set (x.1.next) (a7G n11 n12 r15)) (UpN.i10 x.2) (0:Nat)=aY ((x.1.push IObj.free).push IObj.free) (UpN.i10 x.2) (0:Nat)/\aF (((((x.1.push IObj.free).push IObj.free).set (x.1.next) vY).set (x.1.next+1) a1Q).set (x.1.next) (a7G n11 n12 r15)) (x.1.next+1) fun r16=>aC (Nat.ble 1 r16.length) (aC (decide (0<=f) &&decide (f< (↑(uA l):Int))) (aF ((((((x.1.push IObj.free).push IObj.free).set (x.1.next) vY).set (x.1.next+1) a1Q).set (x.1.next) (a7G n11 n12 r15)).set (x.1.next+1) (b9B b14 r16)) (UpN.iU x.2) fun r17=>iS r17 ((0:Nat)+f.toNat*1) fun b18=>aM (!b18) (aC (decide (0<=f) &&decide (f< (↑(uA l):Int))) (aF ((((((x.1.push IObj.free).push IObj.free).set (x.1.next) vY).set (x.1.next+1) a1Q).set (x.1.next) (a7G n11 n12 r15)).set ((x.1).next+1) (b9B b14 r16)) (UpN.iR x.2) fun r19=>aK .i64 r19 ((0:Nat)+f.toNat*2) fun n20=>aK .i64 r19 ((0:Nat)+f.toNat*2+1) fun n21=> ∃(o:Option Iv),∃(m:Nat),vH ((((((x.1.push IObj.free).push IObj.free).set (x.1.next) vY).set (x.1.next+1) a1Q).set (x.1.next) (a7G n11 n12 r15)).set (x.1.next+1) (b9B b14 r16)) (UpN.i10 x.2) (UpN.i9 x.2) o/\Heap.get ((((((x.1.push IObj.free).push IObj.free).set (x.1.next) vY).set (x.1.next+1) a1Q).set (x.1.next) (a7G n11 n12 r15)).set (x.1.next+1) (b9B b14 r16)) (UpN.i5 x.2)=IObj.cells [iI (↑m:Int)]/\∃(o_1:Option Iv),vH ((((((x.1.push IObj.free).push IObj.free).set (x.1.next) vY).set (x.1.next+1) a1Q).set (x.1.next) (a7G n11 n12 r15)).set (x.1.next+(1:Nat)) (b9B b14 r16)) (x.1.next+1) (x.1.next) o_1/\Heap.next x.1+1≠Heap.next x.1/\∀(h2:Heap),vH h2 (x.1.next+1) (x.1.next) (joG o_1 ((pO o m (n20,n21)).1,(pO o m (n20,n21)).2))->(∀(j:Nat),j≠Heap.next x.1+1->j≠Heap.next x.1->Heap.get h2 j=((((((x.1.push IObj.free).push IObj.free).set (x.1.next) vY).set (x.1.next+1) a1Q).set (x.1.next) (a7G n11 n12 r15)).set (x.1.next+1) (b9B b14 r16)).get j)->Heap.next h2=(Heap.reserve._f x.1 Nat.zero PUnit.unit).next+1+1->e2X d f n v h id r kn l un x h2)) (e2X d f n v h id r kn l un x ((((((x.1.push IObj.free).push IObj.free).set (x.1.next) vY).set (x.1.next+1) a1Q).set (x.1.next) (a7G n11 n12 r15)).set (x.1.next+1) (b9B b14 r16)))))))))/\(∀(x:Heap×UpN×Nat)(b:FF),UpS l kn un v r h (x.1) x.2.1 x.2.2/\UpM x.1 x.2.1 x.2.2 (j1G l kn un v f r)->aC (decide (0<=n) &&decide (n< (↑(uA l):Int))) (aF x.1 (UpN.iU x.2.1) fun r22=>iS r22 ((0:Nat)+n.toNat*1) fun b23=>aM (!b23) (aC (decide (0<=n) &&decide (n< (↑(uA l):Int))) (aF x.1 (UpN.iR x.2.1) fun r24=>aK .i64 r24 ((0:Nat)+n.toNat*2) fun n25=>aK .i64 r24 ((0:Nat)+n.toNat*2+1) fun n26=> ∃(o:Option Iv),∃(m:Nat),vH x.1 (UpN.i10 x.2.1) (UpN.i9 x.2.1) o/\Heap.get x.1 (UpN.i5 x.2.1)=IObj.cells [iI (↑m:Int)]/\(aF (x.1) (UpN.i5 x.2.1) fun r27=>aK .i64 r27 0 fun n28=>aM (decide (n28<=12)) (aC (decide (0<=d) &&decide (d< (↑(uA l):Int))) (aF x.1 (UpN.iU x.2.1) fun r29=>iS r29 ((0:Nat)+d.toNat*1) fun b30=>aM (!b30) (∃(l_1:List Nd),∃(x_1 y z:IV),∃(R:List Iv),(x.1.get id=IObj.cells [IV.vslice none 0 l_1.length 3 (List.flatMap cN l_1),x_1,y,z]/\Heap.get x.1 (UpN.iR (x.2.1))=IObj.cells (List.flatMap cR R)/\R.length=l_1.length/\l.length=l_1.length)/\(∀(i:Nat),i<l_1.length->Prod.fst (List.getD R i ((0:Int),(0:Int)))<=Prod.snd (List.getD R i ((0:Int),(0:Int)))/\dB (List.getD R i ((0:Int),(0:Int))))/\(0<=d/\d< (↑l_1.length:Int)/\List.getD (aG l_1) d.toNat 0=1/\l_1.length<=100000)/\c9K d f n v h id r kn l un x ((mC l_1 (LV.mk v f n d) ((pO o m (n25,n26)).1,(pO o m (n25,n26)).2) R).2) [iI (((mC l_1 (LV.mk v f n d) ((pO o m (n25,n26)).1,(pO o m (n25,n26)).2) R).1).1),iI (((mC l_1 (LV.mk v f n d) ((pO o m (n25,n26)).1,(pO o m (n25,n26)).2) R).1).2)]) (c9K d f n v h id r kn l un x true [iI ((pO o m (n25,n26)).1),iI ((pO o m (n25,n26)).2)]))) (c9K d f n v h id r kn l un x true [iI ((pO o m (n25,n26)).1),iI ((pO o m (n25,n26)).2)]))/\∀(x:Heap×UpN×Nat)(b:FF),UpS l kn un v r h x.1 (x.2.1) x.2.2/\UpM x.1 x.2.1 x.2.2 (j1G l kn un v f r)/\gU (uG l un) n=false->aM ((p2G l kn un v f n d r).2) (∃(o:Option Iv),vH x.1 (UpN.i12 x.2.1) (UpN.i11 x.2.1) o/\UpN.i12 x.2.1≠UpN.i11 x.2.1/\∀(h2:Heap),vH h2 (UpN.i12 x.2.1) (UpN.i11 x.2.1) (joG o (((p2G l kn un v f n d r).1).1,((p2G l kn un v f n d r).1).2))->(∀(j:Nat),j≠UpN.i12 ((x.2).1)->j≠UpN.i11 x.2.1->Heap.get h2 j=x.1.get j)->Heap.next h2=x.1.next->c9L d f n v h id r kn l un x h2) (c9L d f n v h id r kn l un x x.1))) (c9L d f n v h id r kn l un x x.1)))/\(∀(x:Heap×UpN×Nat)(b:FF),UpS l kn un v r h x.1 x.2.1 x.2.2/\UpM x.1 x.2.1 x.2.2 (sH l kn un (LV.mk v f n d) r)->aF x.1 (UpN.i12 x.2.1) fun r31=>iS r31 0 fun b32=>aM (!b32) (Q c4R x.1) (aF x.1 (UpN.i10 x.2.1) fun r33=>iS r33 0 fun b34=>aM b34 (aF x.1 (UpN.i11 x.2.1) fun r35=>aK .i64 r35 0 fun n36=>aK .i64 r35 1 fun n37=>aF x.1 (UpN.i9 x.2.1) fun r38=>aK .i64 r38 0 fun n39=>aK .i64 r38 1 fun n40=>aM (n36==n39&& (n37==n40&&true)) (Q c4R x.1) (aF x.1 id fun r41=>qY r41 2 fun(i42:Nat)=>aF x.1 id fun r43=>qY r43 3 fun(i44:Nat)=>aF x.1 (UpN.i11 x.2.1) fun r45=>aK .i64 r45 0 fun n46=>aK .i64 r45 1 fun n47=>b4N x.1 i42 d2R (d2S v) f8V fun(v48:IV)(n49:Nat)(es50:List (IV×IV))=>(x.1.set i42 (IObj.map es50)).get (UpN.i11 x.2.1)=x.1.get (UpN.i11 x.2.1)/\a0M (x.1.set i42 (IObj.map es50)) i42 (↑n49:Int) (IV.agg [.int .i64 n46,iI n47]) fun(es51:List (IV×IV))=>b4N ((x.1.set i42 (IObj.map es50)).set i42 (IObj.map es51)) i44 d2R (d2S v) c4R fun(v52:IV)(n53:Nat)(es54:List (IV×IV))=>a0M (((x.1.set i42 (IObj.map es50)).set i42 (IObj.map es51)).set i44 (IObj.map es54)) i44 (↑n53:Int) c4R fun(es55:List (IV×IV))=>Q (.bool true) ((((x.1.set i42 (IObj.map es50)).set i42 (IObj.map es51)).set i44 (IObj.map es54)).set i44 (IObj.map es55)))) (aF x.1 id fun(r56:List IV)=>qY r56 2 fun(i57:Nat)=>aF x.1 id fun r58=>qY r58 3 fun(i59:Nat)=>aF x.1 (UpN.i11 x.2.1) fun r60=>aK .i64 r60 0 fun n61=>aK .i64 r60 1 fun n62=>b4N x.1 i57 d2R (d2S v) f8V fun(v63:IV)(n64:Nat)(es65:List (IV×IV))=>(x.1.set i57 (IObj.map es65)).get (UpN.i11 x.2.1)=x.1.get (UpN.i11 x.2.1)/\a0M (x.1.set i57 (IObj.map es65)) i57 (↑n64:Int) (IV.agg [.int .i64 n61,iI n62]) fun(es66:List (IV×IV))=>b4N ((x.1.set i57 (IObj.map es65)).set i57 (IObj.map es66)) i59 d2R (d2S v) c4R fun(v67:IV)(n68:Nat)(es69:List (IV×IV))=>a0M (((x.1.set i57 (IObj.map es65)).set i57 (IObj.map es66)).set i59 (IObj.map es69)) i59 (↑n68:Int) c4R fun(es70:List (IV×IV))=>Q (.bool true) ((((x.1.set i57 (IObj.map es65)).set i57 (IObj.map es66)).set i59 (IObj.map es69)).set i59 (IObj.map es70)))))/\True):=by kernel_rfl
theorem g9M: ∀xs h Q,f8T xs h Q->aU env 55 xs h Q:=by
 intro xs h Q hk;unfold f8T at hk;split at hk
 ·rename_i id v f n d q;obtain⟨l,mk,mU,kn,un,r,⟨rfl,hb⟩,hw,hn1,hlv,hk1,hk2⟩:=hk;refine aS (f1C) (g9L id l mk mU kn un v f n d r h Q) ?_;delta e2W e2X c9K c9L vY e2V a7G b3G a1Q b9B b9A b3H b3I f8U d2R b3F e8O uA f8V c4R f8W d2S e8P e8Q iI;obtain⟨hg,hid⟩:=hb;have hw0:=hw;obtain⟨hL,him,⟨hkn,hmk⟩,⟨hun,hmu⟩,hKO,hun2⟩:=(show AzS h l mk (.map mU) kn un from hw);have hmU:mU<h.next:=hmu mU rfl;obtain⟨kes,k1,k2⟩:=hkn;obtain⟨m',ues,e',u2,u3⟩: ∃(m:Nat)(es:List (Int×Bool)),IV.map mU= .map m/\h.get m= .map (cM IV.bool es)/\∀k,un k=(kG k es).getD false:=by
   rcases hun with⟨q,_⟩|q
   ·cases q
   ·exact q
  obtain rfl:mU=m':=by cases e';rfl
  obtain⟨lf,ln,ld⟩:=(show LvS l f n d from hlv);have hRl:=lH l kn;have hUl:=f3D l un;refine⟨⟨l,mk,.map mU,kn,un,⟨(aJ hid).trans hg,h1T hid⟩,⟨hL,him,⟨⟨kes,(aJ hmk).trans k1,k2⟩,h1T hmk⟩,⟨.inr ⟨mU,ues,rfl,(aJ hmU).trans u2,u3⟩,fun m hm=>by cases hm;exact h1T hmU⟩,hKO,hun2⟩,fun h2 iR iU eR eU ⟨n1,n2,n3,n4,n5⟩ fr=>?_⟩,?_,?_,?_⟩
  ·have fr2: ∀j,j<h.next->((h2.push .free).push .free).get j=h.get j:=fun j hj=>by
    rw [aJ (show j< (h2.push .free).next by show j<h2.next+1;omega),aJ (by omega),fr j (by omega),aJ hj]
   have p2:((h2.push .free).push .free).get h2.next= .free:=by rw [aJ (show h2.next< (h2.push .free).next from h1G _),aR]
   have p3:((h2.push .free).push .free).get (h2.next+1)= .free:=aR;have m3:h2.next≠h2.next+1:=by omega
   have fin: ∀q:Iv,(∀z,kn v=some z->z=q)->UpS l kn un v r h (xN h2 q.1 q.2 (kn v).isSome) ⟨h.next,iR,iU,h2.next,h2.next+1,0,0⟩ (xN h2 q.1 q.2 (kn v).isSome).next:=fun q hq=>
    ⟨(xO n2).trans eR,(xO n4).trans eU,(xO (show h.next<h2.next by omega)).trans ((fr _ (h1G _)).trans aR),b5W hq,⟨by show h.next<=iR;omega,by show h.next<=iU;omega,h1D _,by show h.next<=h2.next;omega,by show h.next<=h2.next+1;omega⟩,⟨by show iR<h2.next+2;omega,by show iU<h2.next+2;omega,by show h.next<h2.next+2;omega,by show h2.next<h2.next+2;omega,by show h2.next+1<h2.next+2;omega,h1D _⟩,fun j hj=>(xO (by omega)).trans ((fr j (by omega)).trans (aJ hj))⟩
   refine aB ((fr2 id hid).trans hg) (jY rfl ?_)
   cases e:kn v with
   |some q=>
    rw [e]at fin;exact eQ ((fr2 mk hmk).trans k1) (cX ((k2 v).trans e)) (a4A rfl rfl (bF rfl (bF rfl (jD p2 (jD ((aE m3.symm).trans p3) (aB ((aE m3).trans aH) (aA rfl (aB ((aE m3.symm).trans aH) (aA rfl ⟨(xN h2 q.1 q.2 true,⟨h.next,iR,iU,h2.next,h2.next+1,0,0⟩),rfl,rfl,rfl,rfl,rfl,rfl,rfl,rfl,rfl,⟨fin q (fun z hz=>(h1M hz).symm),trivial⟩,trivial⟩)))))))))
   |none=>
    rw [e]at fin;exact iV ((fr2 mk hmk).trans k1) (eL ((k2 v).trans e)) (jD p2 (jD ((aE m3.symm).trans p3) (aB ((aE m3).trans aH) (aA rfl (aB ((aE m3.symm).trans aH) (aA rfl ⟨(xN h2 0 0 false,⟨h.next,iR,iU,h2.next,h2.next+1,0,0⟩),rfl,rfl,rfl,rfl,rfl,rfl,rfl,rfl,rfl,⟨fin (0,0) (fun z hz=>by cases hz),trivial⟩,trivial⟩))))))
  ·rintro⟨g,x⟩ _ ⟨hS0,_⟩;have hS:=(show UpS l kn un v r h g x g.next from hS0);obtain⟨l1,l2,l3,l4,l5,_⟩:=hS.lt;obtain⟨q,w1,s1,e1⟩:=hS.old;have pp: ∀j,j<g.next->((g.push .free).push .free).get j=g.get j:=fun j hj=>by
    rw [aJ (show j< (g.push .free).next from h1T hj),aJ hj]
   have p2:((g.push .free).push .free).get g.next= .free:=by rw [aJ (show g.next< (g.push .free).next from h1G _),aR]
   have p3:((g.push .free).push .free).get (g.next+1)= .free:=aR;have m3:g.next≠g.next+1:=by omega
   have G:=b5W (g:=g) e1;have gl: ∀j,j<g.next->(xN g q.1 q.2 (kn v).isSome).get j=g.get j:=fun j hj=>xO hj
   have hS2: ∀i11 i12,UpS l kn un v r h (xN g q.1 q.2 (kn v).isSome) ⟨x.i5,x.iR,x.iU,x.i9,x.i10,i11,i12⟩ g.next:=fun i11 i12=>by
    have:=hS.mono (g2:=xN g q.1 q.2 (kn v).isSome) gl (show g.next<=g.next+2 by omega);exact⟨this.R,this.U,this.r5,this.old,this.ge,this.lt,this.fr⟩
   refine aB ((pp _ l4).trans w1) (bF rfl (bF rfl (aB ((pp _ l5).trans s1) (lG rfl (jD p2 (jD ((aE m3.symm).trans p3) (aB ((aE m3).trans aH) (aA rfl ⟨?_,aB ((aE m3.symm).trans aH) (aA rfl ?_)⟩))))))))
   ·unfold aY
    rw [aE (by(try dsimp only);omega),aE (by(try dsimp only);omega),aE (by(try dsimp only);omega)]
   refine aP lf (aB ((gl _ l2).trans hS.U) (a4F (by rw [hUl];exact lf) (by rw [h1Q,h1W]) (aD (fun c=>?_) (fun c=>?_))))
   ·rw [h2K]at c;have ej:j1G l kn un v f r=joG (kn v) (pO (kn v) r (gR (rG l kn) f)):=if_neg (by rw [c];decide);refine aP lf (aB ((gl _ l1).trans hS.R) (a1L (by rw [hRl];exact lf) (by rw [h1Q]) ⟨kn v,r,hS2 0 0|>.old,(gl _ l3).trans hS.r5,kn v,G,m3.symm,fun h3 ho fr nx=>⟨(h3,⟨x.i5,x.iR,x.iU,x.i9,x.i10,g.next,g.next+1⟩,g.next),rfl,rfl,rfl,rfl,rfl,rfl,rfl,rfl,rfl,rfl,rfl,rfl,rfl,⟨(hS2 g.next (g.next+1)).mono (fun j hj=>fr j (by(try dsimp only);omega) (by(try dsimp only);omega)) (h6V nx.symm),by dsimp only;rw [ej];exact ho,⟨h1D _,h4E _,by rw [nx];show g.next<g.next+2;omega,by rw [nx];show g.next+1<g.next+2;omega,m3.symm⟩⟩,trivial⟩⟩))
   ·rw [h3A]at c;have ej:j1G l kn un v f r=kn v:=if_pos c;exact⟨(xN g q.1 q.2 (kn v).isSome,⟨x.i5,x.iR,x.iU,x.i9,x.i10,g.next,g.next+1⟩,g.next),rfl,rfl,rfl,rfl,rfl,rfl,rfl,rfl,rfl,rfl,rfl,rfl,rfl,⟨hS2 g.next (g.next+1),by dsimp only;rw [ej];exact G,⟨h1D _,h4E _,by show g.next<g.next+2;omega,by show g.next+1<g.next+2;omega,m3.symm⟩⟩,trivial⟩
  ·rintro⟨g,x,b⟩ _ ⟨hS0,hM0⟩;have hS:=(show UpS l kn un v r h g x b from hS0);have hM:=(show UpM g x b (j1G l kn un v f r)from hM0);have eu:=d5Q l kn un v f n d r;have hgid:g.get id=h.get id:=hS.fr id hid;refine aP ln (aB hS.U (a4F (by rw [hUl];exact ln) (by rw [h1Q,h1W]) (aD (fun c=>?_) (fun c=>?_))))
   ·rw [h2K]at c;rw [if_neg (by rw [c];decide)]at eu;refine aP ln (aB hS.R (a1L (by rw [hRl];exact ln) (by rw [h1Q]) ⟨kn v,r,hS.old,hS.r5,⟨?_,?_⟩⟩))
    ·refine aB hS.r5 (bF rfl (dW (fun c2=>?_) (fun c2=>?_)))
     ·refine aP ⟨ld.1,ld.2.1⟩ (aB hS.U (a4F (by rw [hUl];exact⟨ld.1,ld.2.1⟩) (by rw [h1Q,h1W]) (aD (fun c3=>?_) (fun c3=>?_))))
      ·rw [h2K]at c3;have ep:p2G l kn un v f n d r=mC l ⟨v,f,n,d⟩ (pO (kn v) r (gR (rG l kn) n)) (rG l kn):=if_pos ⟨by omega,c3⟩;exact⟨l,_,_,_,rG l kn,⟨hgid.trans hg,hS.R,hRl,rfl⟩,a4E him hKO,⟨ld.1,ld.2.1,ld.2.2,hL.1⟩,⟨(g,x,b),rfl,rfl,rfl,rfl,rfl,rfl,rfl,rfl,rfl,rfl,rfl,rfl,(by rw [ep]),rfl,(by rw [ep]),rfl,⟨hS0,hM0,c⟩,trivial⟩⟩
      ·rw [h3A]at c3;have ep:p2G l kn un v f n d r=(pO (kn v) r (gR (rG l kn) n),true):=if_neg (fun q=>by rw [c3]at q;cases q.2);exact⟨(g,x,b),rfl,rfl,rfl,rfl,rfl,rfl,rfl,rfl,rfl,rfl,rfl,rfl,(by rw [ep]),rfl,(by rw [ep]),rfl,⟨hS0,hM0,c⟩,trivial⟩
     ·have ep:p2G l kn un v f n d r=(pO (kn v) r (gR (rG l kn) n),true):=if_neg (fun q=>by have:=q.1;omega);exact⟨(g,x,b),rfl,rfl,rfl,rfl,rfl,rfl,rfl,rfl,rfl,rfl,rfl,rfl,(by rw [ep]),rfl,(by rw [ep]),rfl,⟨hS0,hM0,c⟩,trivial⟩
    ·rintro⟨g,x,b⟩ _ ⟨hS0,hM0,_⟩;have hS:=(show UpS l kn un v r h g x b from hS0);have hM:=(show UpM g x b (j1G l kn un v f r)from hM0);obtain⟨l1,l2,l3,l4,l5,l6⟩:=hS.lt;obtain⟨g1,g2,g3,g4,g5⟩:=hM.ge;refine aD (fun c4=>?_) (fun c4=>?_)
     ·rw [if_pos c4]at eu;exact⟨j1G l kn un v f r,hM.now,g5,fun h3 ho fr nx=>⟨(h3,x,b),rfl,rfl,rfl,rfl,rfl,rfl,rfl,rfl,⟨hS.mono (fun j hj=>fr j (by(try dsimp only);omega) (by(try dsimp only);omega)) (h6V nx.symm),by dsimp only;rw [eu];exact ho,⟨g1,g2,by rw [nx];exact g3,by rw [nx];exact g4,g5⟩⟩,trivial⟩⟩
     ·rw [if_neg (by rw [c4];decide)]at eu;exact⟨(g,x,b),rfl,rfl,rfl,rfl,rfl,rfl,rfl,rfl,⟨hS0,by dsimp only;rw [eu];exact hM.now,hM.ge⟩,trivial⟩
   ·rw [h3A]at c;rw [if_pos c]at eu;exact⟨(g,x,b),rfl,rfl,rfl,rfl,rfl,rfl,rfl,rfl,⟨hS0,by dsimp only;rw [eu];exact hM.now,hM.ge⟩,trivial⟩
  ·refine⟨?_,trivial⟩;rintro⟨g,x,b⟩ _ ⟨hS0,hM0⟩;have hS:=(show UpS l kn un v r h g x b from hS0);have hM:=(show UpM g x b (sH l kn un ⟨v,f,n,d⟩ r)from hM0);obtain⟨l1,l2,l3,l4,l5,l6⟩:=hS.lt;obtain⟨g1,g2,g3,g4,g5⟩:=hM.ge;obtain⟨o1,o2,o3,o4,o5⟩:=hS.ge;have gid:=(hS.fr id hid).trans hg;have gk:=hS.fr mk hmk;have gu:=hS.fr mU hmU;have hgn:h.next<=g.next:=by omega
   obtain⟨q,w1,s1,e1⟩:=hM.now;refine aB s1 (lG rfl (aD (fun c=>?_) (fun c=>?_)))
   ·refine hk1 ?_ g hS.fr hgn;unfold tV
    cases e:sH l kn un ⟨v,f,n,d⟩ r with
    |none=>rfl
    |some z=>rw [e]at c;cases c
   ·have eq1:sH l kn un ⟨v,f,n,d⟩ r=some q:=by
     cases e:sH l kn un ⟨v,f,n,d⟩ r with
     |none=>rw [e]at c;cases c
     |some z=>rw [e1 z e]
    obtain⟨q2,w2,s2,e2⟩:=hS.old;refine aB s2 (lG rfl (aD (fun c5=>?_) (fun c5=>?_)))
    ·have eq2:kn v=some q2:=by
      cases e:kn v with
      |none=>rw [e]at c5;cases c5
      |some z=>rw [e2 z e]
     refine aB w1 (bF rfl (bF rfl (aB w2 (bF rfl (bF rfl (aD (fun c6=>?_) (fun c6=>?_)))))))
     ·refine hk1 ?_ g hS.fr hgn;simp only [h1L,h0Y,beq_iff_eq]at c6;unfold tV
      rw [eq1];show(if kn v=some q then none else some q)=none;rw [if_pos (by rw [eq2];exact congrArg some (Prod.ext c6.1.symm c6.2.symm))]
     ·have hu:tV l kn un ⟨v,f,n,d⟩ r=some q:=by
       unfold tV
       rw [eq1];show(if kn v=some q then none else some q)=some q;rw [if_neg (fun z=>by rw [eq2,h0V]at z;subst z;simp at c6)]
      exact aB gid (jY rfl (aB gid (jY rfl (aB w1 (bF rfl (bF rfl (tO (e:=eI) q (gk.trans k1) (fun v0 n0 es1 hn he=>⟨aE (by(try dsimp only);omega),qI aH hn he (tO (e:=IV.bool) false ((aE hn1.symm).trans ((aE hn1.symm).trans (gu.trans u2))) (fun v1 n2 es2 hn2 he2=>qI aH hn2 he2 (hk2 q hu _ ⟨_,(aE hn1).trans ((aE hn1).trans aH),fun k=>by rw [qH,k2 k];rfl⟩ (.inr ⟨mU,_,rfl,aH,fun k=>by show(if k=v then false else un k)=_;rw [qH,u3 k];split<;>rfl⟩) (fun j hj a b=>(aE b).trans ((aE b).trans ((aE a).trans ((aE a).trans (hS.fr j hj))))) hgn)))⟩))))))))
    ·have hu:tV l kn un ⟨v,f,n,d⟩ r=some q:=by
      unfold tV
      rw [eq1];show(if kn v=some q then none else some q)=some q;rw [if_neg (fun z=>by rw [z]at c5;cases c5)]
     exact aB gid (jY rfl (aB gid (jY rfl (aB w1 (bF rfl (bF rfl (tO (e:=eI) q (gk.trans k1) (fun v0 n0 es1 hn he=>⟨aE (by(try dsimp only);omega),qI aH hn he (tO (e:=IV.bool) false ((aE hn1.symm).trans ((aE hn1.symm).trans (gu.trans u2))) (fun v1 n2 es2 hn2 he2=>qI aH hn2 he2 (hk2 q hu _ ⟨_,(aE hn1).trans ((aE hn1).trans aH),fun k=>by rw [qH,k2 k];rfl⟩ (.inr ⟨mU,_,rfl,aH,fun k=>by show(if k=v then false else un k)=_;rw [qH,u3 k];split<;>rfl⟩) (fun j hj a b=>(aE b).trans ((aE b).trans ((aE a).trans ((aE a).trans (hS.fr j hj))))) hgn)))⟩))))))))
 ·exact hk.elim
def f8X:=bB 55 f8T f8S
theorem f1D:aT env f8X:=aI g9M (f1C)
theorem b9C(i:Option Nat)(e n:Nat)(c:List IV):nZ Go.Proofs.Tryz.prog 49 (.vslice i e n 3 c)= .vslice none 0 n 3 c:=by kernel_rfl
theorem b9D{h g:Heap}{m:Nat}{kn:KnT}(a:knS h m kn)(e:g.get m=h.get m):knS g m kn:=by
 obtain⟨es,a1,a2⟩:=a;exact⟨es,e.trans a1,a2⟩
theorem b9E{h g:Heap}{mu:IV}{un:UnT}(a:unS h mu un)(e: ∀m,mu= .map m->g.get m=h.get m):unS g mu un:=by
 rcases a with a| ⟨m,es,a0,a1,a2⟩
 ·exact .inl a
 ·exact .inr ⟨m,es,a0,(e m a0).trans a1,a2⟩
def In1(l:List Nd)(g:Heap)(i:Nat):Prop:=g.get 2= .cells [.vslice none 0 (l).length 3 ((l).flatMap cN),.vslice none 0 (aG l).length 1 ((aG l).map (IV.int .i64)),.map 0,.map 1]/\g.get 0= .map []/\(∃es:List (Int×Bool),g.get 1= .map (cM IV.bool es)/\∀k,(kG k es).getD false=((aO l).take i).any (fun x=>decide (x.v=k)))/\3<=g.next
def InS(l:List Nd)(g:Heap)(kn:KnT):Prop:=g.get 2= .cells [.vslice none 0 (l).length 3 ((l).flatMap cN),.vslice none 0 (aG l).length 1 ((aG l).map (IV.int .i64)),.map 0,.map 1]/\knS g 0 kn/\unS g (.map 1) (unG (aO l) kn)/\3<=g.next
def RdN(l:List Nd)(n:Nat):Prop:= ∀m,m<n->(fM l (aO l) m).2=true
def in1(l:List Nd):Inv':=hJ (Nat×Heap) (fun x=>[(3,.v (.ptr 2 0)),(4,.v (.vslice none 0 (aO l).length 4 ((aO l).flatMap zK))),(32,.v (.vslice none 0 (aO l).length 4 ((aO l).flatMap zK))),(33,.v (.int .i64 ((aO l).length:Int))),(34,.v (.int .i64 (x.1:Int)))]) (fun _=>[]) (fun x=>x.2) (fun x=>x.1<=(aO l).length/\In1 l x.2 x.1) (fun x=>(aO l).length-x.1)
def in2(l:List Nd):Inv':=hJ (Nat×Heap) (fun x=>[(3,.v (.ptr 2 0)),(4,.v (.vslice none 0 (aO l).length 4 ((aO l).flatMap zK))),(7,.v (.int .i64 ((x.1+1:Nat):Int))),(8,.v (.bool (fM l (aO l) x.1).2))]) (fun _=>[]) (fun x=>x.2) (fun x=>RdN l x.1/\InS l x.2 (fM l (aO l) x.1).1) (fun x=>(13+3*(aO l).length-x.1)*2000000)
def in3(l:List Nd):Inv':=hJ (Nat×Nat×Heap) (fun x=>[(3,.v (.ptr 2 0)),(4,.v (.vslice none 0 (aO l).length 4 ((aO l).flatMap zK))),(7,.v (.int .i64 ((x.1+1:Nat):Int))),(8,.v (.bool (((aO l).take x.2.1).foldl (xM l (aO l) (x.1+1)) ((fM l (aO l) x.1).1,false)).2)),(48,.v (.vslice none 0 (aO l).length 4 ((aO l).flatMap zK))),(49,.v (.int .i64 ((aO l).length:Int))),(50,.v (.int .i64 (x.2.1:Int)))]) (fun _=>[]) (fun x=>x.2.2)
 (fun x=>(RdN l (x.1+1)/\x.2.1<=(aO l).length)/\InS l x.2.2 (((aO l).take x.2.1).foldl (xM l (aO l) (x.1+1)) ((fM l (aO l) x.1).1,false)).1) (fun x=>(13+3*(aO l).length-x.1)*2000000+((aO l).length-x.2.1))
def in4(l:List Nd):Inv':=hJ (Nat×Nat×Heap×IV) (fun x=>[(3,.v (.ptr 2 0)),(4,.v (.vslice none 0 (aO l).length 4 ((aO l).flatMap zK))),(11,.v x.2.2.2),(59,.v (.vslice none 0 (aO l).length 4 ((aO l).flatMap zK))),(60,.v (.int .i64 ((aO l).length:Int))),(61,.v (.int .i64 (x.2.1:Int)))]) (fun _=>[]) (fun x=>x.2.2.1)
 (fun x=>(RdN l x.1/\(fM l (aO l) x.1).2=false)/\x.2.1<=(aO l).length/\InS l x.2.2.1 (fM l (aO l) x.1).1/\OvC nS 3 3 x.2.2.1 x.2.2.2 (qJ ((aO l).take x.2.1) (fM l (aO l) x.1).1)) (fun x=>(aO l).length-x.2.1)
def e2Y(xs:List IV)(h:Heap)(K:KT):Prop:=match xs with
 | [.agg [g0,g1,.vslice none e0 n 3 c,g3,g4]]=> ∃l:List Nd,(n=l.length/\c=l.flatMap cN)/\(bL g0=true/\bL g1=true/\bL g3=true/\bL g4=true)/\LOk l/\(∀n∈l,bJ n.im)/\∀N,(∀m,m<N->(fM l (aO l) m).2=true)->(fM l (aO l) N).2=false->K (.vslice none 0 (qJ (aO l) (fM l (aO l) N).1).length 3 ((qJ (aO l) (fM l (aO l) N).1).flatMap nS)) h
 |_=>False
def yL(l:List Nd):=List.flatMap zK (aO l)
def b3J(l:List Nd):=(aO l).length
def kK(l:List Nd):=TV.v (.vslice none 0 (b3J l) 4 (yL l))
def d2T:=IV.int .i64
def b3K(l:List Nd):=[IV.vslice none 0 l.length 3 (List.flatMap cN l),IV.vslice none 0 ((aG l).length) 1 (List.map d2T (aG l)),IV.map (0:Nat),IV.map (1:Nat)]
def a1R(l:List Nd):=TV.v (.int .i64 (↑(b3J l):Int))
def uB:=TV.v (.ptr 2 0)
def f8Y(l_2:List Nd):=TV.v (.vslice none 0 ((aO l_2).length) 4 (List.flatMap zK (aO l_2)))
def c4S:=IV.map (1:Nat)
def e8R:=TV.v (.int .i64 0)
def e2Z:=TypeDesc.int .i64
def f8Z(n11:Int):=[iI n11,iI 0,iI 0]
def e3A(h2:Heap)(l:List Nd)(x_1:Nat×Nat×Heap)(y0:Bool):Prop:= ∃(yy:Nat×Nat×Heap),some uB=some uB/\some (kK l)=some (kK l)/\tI (↑(x_1.1+1):Int)=tI (↑(yy.1+1):Int)/\some (TV.v (.bool (y0)))=some (TV.v (.bool ((List.foldl (xM l (aO l) (yy.1+1)) ((fM l (aO l) yy.1).1,false) (List.take yy.2.1 (aO l))).2)))
 /\some (kK l)=some (kK l)/\some (a1R l)=some (a1R l)/\tI (wW ((↑x_1.2.1:Int)+1))=tI (↑yy.2.1:Int)/\h2=yy.2.2/\(((∀(m:Nat),m<yy.1+1->Prod.snd (fM l (aO l) m)=true)/\yy.2.1<=List.length (aO l))/\Heap.get yy.2.2 (2:Nat)=IObj.cells (b3K l)/\knS yy.2.2 (0:
 Nat) ((List.foldl (xM l (aO l) (yy.1+1)) ((fM l (aO l) yy.1).1,false) (List.take yy.2.1 (aO l))).1)/\unS yy.2.2 c4S (unG (aO l) ((List.foldl (xM l (aO l) (yy.1+1)) ((fM l (aO l) yy.1).1,false) (List.take yy.2.1 (aO l))).1))/\3<=Heap.next yy.2.2)
 /\((13:Nat)+3*(aO l).length-yy.1)*2000000+((aO l).length-yy.2.1)< ((13:Nat)+3*(aO l).length-x_1.1)*2000000+((aO l).length-x_1.2.1)
def a9X(l:List Nd)(x:Nat×Nat×Heap×IV)(y0:IV)(y1:Heap):Prop:= ∃(yy:Nat×Nat×Heap×IV),some uB=some uB/\some (kK l)=some (kK l)/\some (TV.v (y0))=some (TV.v yy.2.2.2)/\some (kK l)=some (kK l)/\some (a1R l)=some (a1R l)/\tI (wW ((↑x.2.1:Int)+1))=tI (↑yy.2.1:Int)/\y1=yy.2.2.1/\(((∀(m:Nat),m<yy.1->Prod.snd (fM
 l (aO l) m)=true)/\Prod.snd (fM l (aO l) yy.1)=false)/\yy.2.1<=List.length (aO l)/\(yy.2.2.1.get (2:Nat)=IObj.cells (b3K l)/\knS yy.2.2.1 (0:Nat) ((fM l (aO l) yy.1).1)/\unS yy.2.2.1 c4S (unG (aO l) ((fM l (aO l) yy.1).1))/\3<=Heap.next yy.2.2.1)
 /\OvC nS (3:Nat) (3:Nat) yy.2.2.1 yy.2.2.2 (qJ (List.take yy.2.1 (aO l)) ((fM l (aO l) yy.1).1)))/\List.length (aO l)-yy.2.1< (aO l).length-x.2.1
theorem g4G(l:List Nd)(g0 g1 g3 g4:IV)(e0:Nat)(h:Heap)(Q:KT):dF (aV f8X) env 23 dV (icA 5 (in1 l) (icA 10 (in2 l) (icA 1000014 (in3 l) (tK 21 (in4 l))))) bT [.agg [g0,g1,.vslice none e0 (l).length 3 ((l).flatMap cN),g3,g4]] h Q=(
 aC (aN [IV.agg [g0,g1,IV.vslice none 0 l.length 3 (List.flatMap cN l),g3,g4]]) (∃(l_1:List Nd),(l.length=l_1.length/\List.flatMap cN l=List.flatMap cN l_1)/\LOk l_1/\∃(l_2:List Nd),(l.length=l_2.length/\List.flatMap cN l=List.flatMap cN l_2)/\((aG l_1).length=l_2.length/\List.map d2T (aG l_1)=List.map d2T (aG l_2))/\LOk l_2/\(∃(x:Nat×Heap),some (TV.v (.ptr ((0:Nat)+1+1) 0))=some uB/\some (f8Y l_2)=some (kK l)/\some (f8Y l_2)=some (kK l)/\some (TV.v (iI (↑((aO l_2).length):Int)))=some (a1R l)/\some e8R=tI (↑x.1:Int)/\Heap.mk (PT.node (PT.node PT.nil (some (IObj.map [])) PT.nil) (some (IObj.map [])) (PT.node PT.nil (some (IObj.cells [IV.vslice none 0 l.length 3 (List.flatMap cN l),IV.vslice none 0 ((aG l_1).length) 1 (List.map d2T (aG l_1)),IV.map (0:Nat),IV.map ((0:Nat)+1)])) PT.nil)) ((0:Nat)+1+1+1)=x.2/\(x.1<=List.length (aO l)/\Heap.get (x.2) (2:Nat)=IObj.cells (b3K l)/\Heap.get x.2 (0:Nat)=IObj.map []/\(∃(es:List (Int×Bool)),x.2.get (1:Nat)=IObj.map (cM IV.bool es)/\∀(k:Int),Option.getD (kG k es) false=List.any (List.take x.1 (aO l)) fun(x:M14.LV)=>decide (LV.v x=k))/\3<=Heap.next x.2)/\True)/\∀(x:Nat×Heap)(b:FF),x.1<=List.length (aO l)/\In1 l x.2 x.1->aM (decide ((↑x.1:Int)< (↑(b3J l):Int))) (aC (decide (0<=(↑x.1:Int)) &&decide ((↑x.1:Int)< (↑(b3J l):Int))) (aK .i64 (yL l) ((↑x.1:Int).toNat*4) fun n0=>aK .i64 (yL l) ((↑x.1:Int).toNat*4+1) fun n1=>aK .i64 (yL l) ((↑x.1:Int).toNat*4+1+1) fun(n2:Int)=>aK .i64 (yL l) ((↑x.1:Int).toNat*4+1+1+1) fun n3=>aF x.2 2 fun r4=>qY r4 3 fun(i5:Nat)=>kS x.2 i5 e2Z (iI n0) (IV.bool true) fun(es6:List (IV×IV))=> ∃(x_1:Nat×Heap),some uB=some uB/\some (kK l)=some (kK l)/\some (kK l)=some (kK l)/\some (a1R l)=some (a1R l)/\tI (wW ((↑x.1:Int)+1))=tI (↑(x_1.1):Int)/\Heap.set x.2 i5 (IObj.map es6)=x_1.2/\(x_1.1<=List.length (aO l)/\Heap.get x_1.2 (2:Nat)=IObj.cells (b3K l)/\Heap.get x_1.2 (0:Nat)=IObj.map []/\(∃(es:List (Int×Bool)),x_1.2.get (1:Nat)=IObj.map (cM IV.bool es)/\∀(k:Int),Option.getD (kG k es) false=List.any (List.take x_1.1 (aO l)) fun(x:M14.LV)=>decide (LV.v x=k))/\3<=Heap.next x_1.2)/\List.length (aO l)-x_1.1< (aO l).length-x.1)) ((∃(x_1:Nat×Heap),some uB=some uB/\some (kK l)=some (kK l)/\tI 1=tI (↑(x_1.1+1):Int)/\some (TV.v (.bool true))=some (TV.v (.bool ((fM l (aO l) x_1.1).2)))/\x.2=x_1.2/\((∀(m:Nat),m<x_1.1->Prod.snd (fM l (aO l) m)=true)/\Heap.get x_1.2 (2:Nat)=IObj.cells (b3K l)/\knS x_1.2 (0:Nat) ((fM l (aO l) x_1.1).1)/\unS x_1.2 c4S (unG (aO l) ((fM l (aO l) x_1.1).1))/\3<=Heap.next x_1.2)/\True)/\∀(x:Nat×Heap)(b:FF),RdN l x.1/\InS l x.2 ((fM l (aO l) x.1).1)->aM ((fM l (aO l) x.1).2) (∃(M:Nat),(∃(x_1:Nat×Nat×Heap),some uB=some uB/\some (kK l)=some (kK l)/\tI (↑(x.1+(1:Nat)):Int)=tI (↑(x_1.1+1):Int)/\some (TV.v (.bool false))=some (TV.v (.bool ((List.foldl (xM l (aO l) (x_1.1+1)) ((fM l (aO l) x_1.1).1,false) (List.take x_1.2.1 (aO l))).2)))/\some (kK l)=some (kK l)/\some (a1R l)=some (a1R l)/\some e8R=tI (↑x_1.2.1:Int)/\x.2=x_1.2.2/\(((∀(m:Nat),m<x_1.1+1->Prod.snd (fM l (aO l) m)=true)/\x_1.2.1<=List.length (aO l))/\Heap.get x_1.2.2 (2:Nat)=IObj.cells (b3K l)/\knS x_1.2.2 (0:Nat) ((List.foldl (xM l (aO l) (x_1.1+1)) ((fM l (aO l) x_1.1).1,false) (List.take x_1.2.1 (aO l))).1)/\unS x_1.2.2 c4S (unG (aO l) ((List.foldl (xM l (aO l) (x_1.1+1)) ((fM l (aO l) x_1.1).1,false) (List.take x_1.2.1 (aO l))).1))/\3<=Heap.next x_1.2.2)/\((13:Nat)+3*(aO l).length-x_1.1)*2000000+((aO l).length-x_1.2.1)<=M)/\∀(x_1:Nat×Nat×Heap)(b:FF),(RdN l (x_1.1+1)/\x_1.2.1<=List.length (aO l))/\InS l x_1.2.2 ((List.foldl (xM l (aO l) (x_1.1+1)) ((fM l (aO l) x_1.1).1,false) (List.take x_1.2.1 (aO l))).1)->((13:Nat)+3*(aO l).length-x_1.1)*2000000+((aO l).length-x_1.2.1)<=M->aM (decide ((↑x_1.2.1:Int)< (↑(b3J l):Int))) (aC (decide (0<=(↑x_1.2.1:Int)) &&decide ((↑x_1.2.1:Int)< (↑(b3J l):Int))) (aK .i64 (yL l) ((↑x_1.2.1:Int).toNat*4) fun n7=>aK .i64 (yL l) ((↑(x_1.2.1):Int).toNat*4+1) fun n8=>aK .i64 (yL l) ((↑x_1.2.1:Int).toNat*4+1+1) fun n9=>aK .i64 (yL l) ((↑x_1.2.1:Int).toNat*4+1+1+(1:Nat)) fun n10=> ∃(l_3:List Nd),∃(mk mU:Nat),∃(kn:Int->Option Iv),∃(un:Int->Bool),∃(r:Nat),((↑(x_1.1+1):Int)=(↑r:Int)/\Heap.get x_1.2.2 (2:Nat)=IObj.cells [IV.vslice none 0 l_3.length 3 (List.flatMap cN l_3),IV.vslice none 0 ((aG l_3).length) 1 (List.map d2T (aG l_3)),IV.map mk,IV.map mU]/\2<x_1.2.2.next)/\AzS x_1.2.2 l_3 mk (IV.map mU) kn un/\mk≠mU/\LvS l_3 n8 n9 n10/\(tV l_3 kn un (LV.mk n7 n8 n9 n10) r=none-> ∀(h2:Heap),(∀(j:Nat),j<x_1.2.2.next->Heap.get h2 j=x_1.2.2.get j)->Heap.next x_1.2.2<=Heap.next h2->e3A h2 l x_1 ((List.foldl (xM l (aO l) (x_1.1+1)) ((fM l (aO l) x_1.1).1,false) (List.take x_1.2.1 (aO l))).2))/\∀(y:Iv),tV l_3 kn un (LV.mk n7 n8 n9 n10) r=some y-> ∀(h2:Heap),knS h2 mk (zN kn n7 y)->(unS h2 (IV.map mU) fun w=>if w=n7 then false else un w)->(∀(j:Nat),j< ((x_1.2).2).next->j≠mk->j≠mU->Heap.get h2 j=x_1.2.2.get j)->Heap.next x_1.2.2<=Heap.next h2->e3A h2 l x_1 true)) (∃(x_2:Nat×Heap),some uB=some uB/\some (kK l)=some (kK l)/\tI (wW ((↑(x_1.1+1):Int)+1))=tI (↑(x_2.1+1):Int)/\some (TV.v (.bool ((List.foldl (xM l (aO l) (x_1.1+1)) ((fM l (aO l) x_1.1).1,false) (List.take x_1.2.1 (aO l))).2)))=some (TV.v (.bool ((fM l (aO l) x_2.1).2)))/\x_1.2.2=x_2.2/\((∀(m:Nat),m<x_2.1->Prod.snd (fM l (aO l) m)=true)/\Heap.get x_2.2 (2:Nat)=IObj.cells (b3K l)/\knS x_2.2 (0:Nat) ((fM l (aO l) (x_2.1)).1)/\unS x_2.2 c4S (unG (aO l) ((fM l (aO l) x_2.1).1))/\3<=Heap.next x_2.2)/\((13:Nat)+3*(aO l).length-x_2.1)*2000000< ((13:Nat)+3*(aO l).length-x.1)*2000000)) ((∃(x_1:Nat×Nat×Heap×IV),some uB=some uB/\some (kK l)=some (kK l)/\some (TV.v IV.nilslice)=some (TV.v x_1.2.2.2)/\some (kK l)=some (kK l)/\some (a1R l)=some (a1R l)/\some e8R=tI (↑x_1.2.1:Int)/\x.2=x_1.2.2.1/\(((∀(m:Nat),m<x_1.1->Prod.snd (fM l (aO l) m)=true)/\Prod.snd (fM l (aO l) x_1.1)=false)/\x_1.2.1<=List.length (aO l)/\(x_1.2.2.1.get (2:Nat)=IObj.cells (b3K l)/\knS x_1.2.2.1 (0:Nat) ((fM l (aO l) x_1.1).1)/\unS x_1.2.2.1 c4S (unG (aO l) ((fM l (aO l) x_1.1).1))/\3<=Heap.next x_1.2.2.1)/\OvC nS (3:Nat) (3:Nat) x_1.2.2.1 x_1.2.2.2 (qJ (List.take x_1.2.1 (aO l)) ((fM l (aO l) x_1.1).1)))/\True)/\∀(x:Nat×Nat×Heap×IV)(b:FF),(RdN l x.1/\Prod.snd (fM l (aO l) x.1)=false)/\Prod.fst x.2<=List.length (aO l)/\InS l x.2.2.1 ((fM l (aO l) x.1).1)/\OvC nS (3:Nat) (3:Nat) x.2.2.1 x.2.2.2 (qJ (List.take x.2.1 (aO l)) ((fM l (aO l) (x.1)).1))->aM (decide ((↑x.2.1:Int)< (↑(b3J l):Int))) (aC (decide (0<=(↑x.2.1:Int)) &&decide ((↑x.2.1:Int)< (↑(b3J l):Int))) (aK .i64 (yL l) ((↑x.2.1:Int).toNat*4) fun(n11:Int)=>aK .i64 (yL l) ((↑x.2.1:Int).toNat*4+1) fun n12=>aK .i64 (yL l) ((↑x.2.1:Int).toNat*4+1+1) fun n13=>aK .i64 (yL l) ((↑((x.2).1):Int).toNat*4+1+1+1) fun n14=>aF x.2.2.1 2 fun r15=>qY r15 3 fun(i16:Nat)=>fV x.2.2.1 i16 e2Z (iI n11) (fun r17=>iS r17 (0:Nat) fun b18=>aM (!b18) (aF x.2.2.1 2 fun r19=>qY r19 2 fun(i20:Nat)=>fV x.2.2.1 i20 e2Z (iI n11) (fun r21=>a1B (2:Nat) r21 0 fun x22=>aK .i64 x22 0 fun n23=>aK .i64 x22 1 fun n24=>qT x.2.2.1 (3:Nat) (24:Nat) x.2.2.2 1 [iI n11,iI n23,iI n24] fun(i25 e26 l27:Nat)(c28:List IV)(g29:Heap)=>a9X l x (IV.vslice (some i25) e26 l27 3 c28) g29) (qT x.2.2.1 (3:Nat) (24:Nat) x.2.2.2 (1:Nat) (f8Z n11) fun(i30 e31 l32:Nat)(c33:List IV)(g34:Heap)=>a9X l x (IV.vslice (some i30) e31 l32 3 c33) g34)) (a9X l x x.2.2.2 x.2.2.1)) (aF x.2.2.1 2 fun r35=>qY r35 2 fun(i36:Nat)=>fV x.2.2.1 i36 e2Z (iI n11) (fun(r37:List IV)=>a1B (2:Nat) r37 0 fun x38=>aK .i64 x38 0 fun n39=>aK .i64 x38 1 fun n40=>qT x.2.2.1 (3:Nat) (24:Nat) x.2.2.2 1 [iI n11,iI n39,iI n40] fun(i41 e42 l43:Nat)(c44:List IV)(g45:Heap)=>a9X l x (IV.vslice (some i41) e42 l43 3 c44) g45) (qT x.2.2.1 (3:Nat) (24:Nat) x.2.2.2 (1:Nat) (f8Z n11) fun(i46 e47 l48:Nat)(c49:List IV)(g50:Heap)=>a9X l x (IV.vslice (some i46) e47 l48 3 c49) g50)))) (aC (aN [nZ Proofs.Tryz.prog (49:Nat) x.2.2.2]) (Q (eZ [nZ Proofs.Tryz.prog (49:Nat) x.2.2.2]) h)))))):=by kernel_rfl
theorem g4H: ∀xs h Q,e2Y xs h Q->aU env 23 xs h Q:=by
 intro xs h Q hk;unfold e2Y at hk;split at hk
 ·rename_i g0 g1 e0 n c g3 g4;obtain⟨l,⟨rfl,rfl⟩,hp,hL,him,hk⟩:=hk;refine aS (f1D) (g4G l g0 g1 g3 g4 e0 h Q) ?_;delta e3A a9X kK b3K a1R uB yL f8Y c4S e8R e2Z f8Z b3J d2T tI wW iI;have tn: ∀x:Nat,(x:Int).toNat=x:=h0Z
  obtain⟨p0,p1,p3,p4⟩:=hp;have hll:=(show LOk l from hL).1;have hLn:=b1J l;have hsl:=bD l;refine aA (by simp only [aN,bL,gI,p0,p1,p3,p4,h1L,h5U]) ⟨l,⟨rfl,rfl⟩,hL,l,⟨rfl,rfl⟩,⟨hsl,rfl⟩,hL,⟨(0,_),(by rfl),(by rfl),(by rfl),(by rfl),(by rfl),(by rfl),⟨h1N _,(by rfl),(by rfl),⟨[],(by rfl),fun _=>(by rfl)⟩,h1D _⟩,trivial⟩,?_⟩;rintro⟨i,g⟩ _ ⟨hi,hIn⟩;obtain⟨g2,g0,⟨es,g1,ge⟩,gn⟩:=(show In1 l g i from hIn);dsimp only at hi⊢;refine dW (fun c=>?_) (fun c=>?_)
  ·have hlt:i< (aO l).length:=by omega
   refine aP ⟨by omega,by omega⟩ (bF (by rw [tn];exact gN hlt 0 (by decide)) (bF (by rw [tn];exact gN hlt 1 (by decide)) (bF (by rw [tn];exact gN hlt 2 (by decide)) (bF (by rw [tn];exact gN hlt 3 (by decide)) (?_)))));refine aB g2 (jY rfl (gJ g1 (oE _ _ _ _) ⟨(i+1,_),(by rfl),(by rfl),(by rfl),(by rfl),(by rw [h0X _ (by omega)];rfl),(by rfl),⟨hlt,?_⟩,by dsimp only;omega⟩));refine⟨(aE (by decide)).trans g2,(aE (by decide)).trans g0,⟨_,aH,fun k=>?_⟩,gn⟩;rw [qH];dsimp only;rw [List.take_succ_eq_append_getElem hlt,List.any_append,<-ge k]
   by_cases e:k=(aO l)[i].v
   ·rw [if_pos e];simp [e]
   ·rw [if_neg e];simp only [h7K,List.any_nil,h5E];rw [decide_eq_false (fun q=>e q.symm),h5E]
  have hil:(aO l).take i=aO l:=h1H (by omega);rw [hil]at ge;refine⟨⟨(0,g),rfl,rfl,rfl,rfl,rfl,⟨fun m hm=>absurd hm (h4Q _),g2,⟨[],g0,fun _=>rfl⟩,.inr ⟨1,es,rfl,g1,fun k=>?_⟩,gn⟩,trivial⟩,?_⟩
  ·rw [ge k];show(_&&true)=_;rw [h1L]
  rintro⟨n,g⟩ _ ⟨hR0,hIS0⟩;have hR:=(show RdN l n from hR0);obtain⟨g2,gk,gu,gn⟩:=(show InS l g (fM l (aO l) n).1 from hIS0);dsimp only;refine aD (fun c=>?_) (fun c=>?_)
  ·have hR1:RdN l (n+1):=fun m hm=>by
    rcases h2D m n with q|q
    ·exact hR m q
    ·obtain rfl:m=n:=by omega
     exact c
   have hb:=a8X (l:=l) (vs:=aO l) (n:=n) (fun m hm=>hR1 m (by omega));refine⟨(13+3*(aO l).length-n)*2000000+(aO l).length,⟨(n,0,g),rfl,rfl,rfl,rfl,rfl,rfl,rfl,rfl,⟨⟨hR1,h1N _⟩,g2,gk,gu,gn⟩,by dsimp only;omega⟩,?_⟩;rintro⟨n2,j,g3⟩ _ ⟨⟨hR2,hj⟩,hIS3⟩ hM;dsimp only at hR2 hj hM⊢;have hb2:=a8X (l:=l) (vs:=aO l) (n:=n2) (fun m hm=>(show RdN l (n2+1)from hR2) m (by omega));obtain⟨k2,kk,ku,kn0⟩:=(show InS l g3 _ from hIS3);have hKO0:=b1I him n2;have hKO:=b1H him (vs:=aO l) (r:=n2+1) ((aO l).take j) ((fM l (aO l) n2).1,false) (fun x hx=>b1G (h4X hx)) hKO0;generalize ha:((aO l).take j).foldl (xM l (aO l) (n2+1)) ((fM l (aO l) n2).1,false)=a at*
   refine dW (fun cj=>?_) (fun cj=>?_)
   ·have hlt:j< (aO l).length:=by omega
    have hnx:((aO l).take (j+1)).foldl (xM l (aO l) (n2+1)) ((fM l (aO l) n2).1,false)=xM l (aO l) (n2+1) a (aO l)[j]:=by
     rw [List.take_succ_eq_append_getElem hlt,h7M,ha];rfl
    refine aP ⟨by omega,by omega⟩ (bF (by rw [tn];exact gN hlt 0 (by decide)) (bF (by rw [tn];exact gN hlt 1 (by decide)) (bF (by rw [tn];exact gN hlt 2 (by decide)) (bF (by rw [tn];exact gN hlt 3 (by decide)) (?_)))));refine⟨l,0,1,a.1,unG (aO l) a.1,n2+1,⟨rfl,k2,by omega⟩,⟨hL,him,⟨kk,by omega⟩,⟨ku,fun m hm=>by cases hm;omega⟩,hKO,fun v hv=>d5V hv⟩,by decide,b1G (h1B hlt),fun hu h3 fr nx=>?_,fun y hu h3 e1 e2 fr nx=>?_⟩
    ·have e:=a4H (r:=n2+1) (x:=(aO l)[j]) hu;rw [e]at hnx;exact⟨(n2,j+1,h3),rfl,rfl,rfl,(by rw [hnx]),rfl,rfl,(by rw [h0X _ (by omega)];rfl),rfl,⟨⟨hR2,hlt⟩,(fr 2 (by omega)).trans k2,(by dsimp only;rw [hnx];exact b9D kk (fr 0 (by omega))),(by dsimp only;rw [hnx];exact b9E ku (fun m hm=>by cases hm;exact fr 1 (by omega))),h2F kn0 nx⟩,by dsimp only;omega⟩
    ·have e:=(a4I (r:=n2+1) (x:=(aO l)[j]) hu).1;rw [e]at hnx;exact⟨(n2,j+1,h3),rfl,rfl,rfl,(by rw [hnx]),rfl,rfl,(by rw [h0X _ (by omega)];rfl),rfl,⟨⟨hR2,hlt⟩,(fr 2 (by omega) (by decide) (by decide)).trans k2,(by dsimp only;rw [hnx];exact e1),(by dsimp only;rw [hnx];dsimp only;rw [e6J];exact e2),h2F kn0 nx⟩,by dsimp only;omega⟩
   ·have hjl:(aO l).take j=aO l:=h1H (by omega);rw [hjl]at ha;have hr:fM l (aO l) (n2+1)=a:=ha;refine⟨(n2+1,g3),rfl,rfl,(by rw [h0X _ (by omega)];rfl),(by rw [hr]),rfl,⟨hR2,k2,(by dsimp only;rw [hr];exact kk),(by dsimp only;rw [hr];exact ku),kn0⟩,by dsimp only;omega⟩
  ·refine⟨⟨(n,0,g,.nilslice),rfl,rfl,rfl,rfl,rfl,rfl,rfl,⟨⟨hR,c⟩,h1N _,⟨g2,gk,gu,gn⟩,.inl ⟨rfl,rfl⟩⟩,trivial⟩,?_⟩;rintro⟨N,j,g3,ov⟩ _ ⟨⟨hR3,hN⟩,hj,hIS3,hov⟩;dsimp only at hR3 hN hj hov⊢;obtain⟨k2,kk,ku,kn0⟩:=(show InS l g3 _ from hIS3);refine dW (fun cj=>?_) (fun cj=>?_)
   ·have hlt:j< (aO l).length:=by omega
    have ho:=c6W ((aO l).take j) (fM l (aO l) N).1;rw [h1Y]at ho;have hsn:=d1T ((aO l).take j) (fM l (aO l) N).1 (aO l)[j];rw [<-List.take_succ_eq_append_getElem hlt]at hsn;have hwr:some (TV.v (IV.int IntKind.i64 (IntKind.i64.wrap ((j:Int)+1))))=some (TV.v (IV.int IntKind.i64 ((j+1:Nat):Int))):=by rw [h0X _ (by omega)];rfl
    refine aP ⟨by omega,by omega⟩ (bF (by rw [tn];exact gN hlt 0 (by decide)) (bF (by rw [tn];exact gN hlt 1 (by decide)) (bF (by rw [tn];exact gN hlt 2 (by decide)) (bF (by rw [tn];exact gN hlt 3 (by decide)) (?_)))));have hany:(aO l).any (fun x=>decide (x.v=(aO l)[j].v))=true:=List.any_eq_true.2 ⟨_,h1B hlt,decide_eq_true rfl⟩;have hun:unG (aO l) (fM l (aO l) N).1 (aO l)[j].v=((fM l (aO l) N).1 (aO l)[j].v).isNone:=by
     unfold unG
     rw [hany,h2G]
    obtain⟨kes,q1,q2⟩:=kk;obtain⟨m',ues,q3,q4,q5⟩: ∃(m:Nat)(es:List (Int×Bool)),IV.map 1= .map m/\g3.get m= .map (cM IV.bool es)/\∀k,unG (aO l) (fM l (aO l) N).1 k=(kG k es).getD false:=by
     rcases ku with⟨z,_⟩|z
     ·cases z
     ·exact z
    obtain rfl:1=m':=by cases q3;rfl
    refine aB k2 (jY rfl ?_)
    cases e:(fM l (aO l) N).1 (aO l)[j].v with
    |none=>
     rw [e]at hun hsn;have e2:kG (aO l)[j].v ues=some true:=by
      have:=q5 (aO l)[j].v;rw [hun]at this
      cases z:kG (aO l)[j].v ues with
      |none=>rw [z]at this;cases this
      |some w=>rw [z]at this;exact congrArg some this.symm
     rw [h3V]at hsn;exact eQ q4 (cX e2) (lG rfl (bf rfl ⟨(N,j+1,g3,ov),rfl,rfl,rfl,rfl,rfl,hwr,rfl,⟨⟨hR3,hN⟩,hlt,hIS3,by dsimp only;rw [hsn];exact hov⟩,by dsimp only;omega⟩))
    |some r=>
     rw [e]at hun hsn;have app: ∀(K:Nat->Nat->Nat->List IV->Heap->Prop),(∀i2 e2 l2 c2 (gg:Heap),(∃x_1:Nat×Nat×Heap×IV,x_1=(N,j+1,gg,.vslice (some i2) e2 l2 3 c2)/\InS l gg (fM l (aO l) N).1/\OvC nS 3 3 gg (.vslice (some i2) e2 l2 3 c2) (qJ ((aO l).take (j+1)) (fM l (aO l) N).1))->K i2 e2 l2 c2 gg)->qT g3 3 24 ov 1 [.int .i64 (aO l)[j].v,.int .i64 r.1,.int .i64 r.2] K:=fun K hK=>by
      refine hov.app (x:=((aO l)[j].v,r)) rfl (by omega) kn0 fun i2 e2 l2 c2 gg ho2 fr nx=>hK _ _ _ _ _ ⟨_,rfl,⟨(fr 2 (by decide)).trans k2,b9D ⟨kes,q1,q2⟩ (fr 0 (by decide)),b9E ku (fun m hm=>by cases hm;exact fr 1 (by decide)),h2F kn0 nx⟩,by rw [hsn];exact ho2⟩
     have e2:(kG (aO l)[j].v ues).getD false=false:=by rw [<-q5,hun];rfl
     have fin: ∀(i2 e2 l2:Nat)(c2:List IV)(gg:Heap),(∃x_1:Nat×Nat×Heap×IV,x_1=(N,j+1,gg,.vslice (some i2) e2 l2 3 c2)/\InS l gg (fM l (aO l) N).1/\OvC nS 3 3 gg (.vslice (some i2) e2 l2 3 c2) (qJ ((aO l).take (j+1)) (fM l (aO l) N).1))->(∃x_1:Nat×Nat×Heap×IV,some (TV.v (.ptr 2 0))=some (TV.v (.ptr 2 0))/\some (TV.v (.vslice none 0 (aO l).length 4 ((aO l).flatMap zK)))=some (TV.v (.vslice none 0 (aO l).length 4 ((aO l).flatMap zK)))/\some (TV.v (.vslice (some i2) e2 l2 3 c2))=some (TV.v x_1.2.2.2)/\some (TV.v (.vslice none 0 (aO l).length 4 ((aO l).flatMap zK)))=some (TV.v (.vslice none 0 (aO l).length 4 ((aO l).flatMap zK)))/\some (TV.v (.int .i64 ((aO l).length:Int)))=some (TV.v (.int .i64 ((aO l).length:Int)))/\some (TV.v (.int .i64 (IntKind.i64.wrap ((j:Int)+1))))=some (TV.v (.int .i64 (x_1.2.1:Int)))/\gg=x_1.2.2.1/\((RdN l x_1.1/\(fM l (aO l) x_1.1).2=false)/\x_1.2.1<=(aO l).length/\InS l x_1.2.2.1 (fM l (aO l) x_1.1).1/\OvC nS 3 3 x_1.2.2.1 x_1.2.2.2 (qJ ((aO l).take x_1.2.1) (fM l (aO l) x_1.1).1))/\(aO l).length-x_1.2.1< (aO l).length-j):=fun i2 e2 l2 c2 gg ⟨_,rfl,a1,a2⟩=>⟨(N,j+1,gg,.vslice (some i2) e2 l2 3 c2),rfl,rfl,rfl,rfl,rfl,hwr,rfl,⟨⟨hR3,hN⟩,hlt,a1,a2⟩,by dsimp only;omega⟩
     cases z:kG (aO l)[j].v ues with
     |none=>exact iV q4 (eL z) (aB k2 (jY rfl (eQ q1 (cX ((q2 _).trans e)) (a4A rfl rfl (bF rfl (bF rfl (app _ fin)))))))
     |some w=>
      rw [z]at e2;obtain rfl:w=false:=e2;exact eQ q4 (cX z) (lG rfl (bt rfl (aB k2 (jY rfl (eQ q1 (cX ((q2 _).trans e)) (a4A rfl rfl (bF rfl (bF rfl (app _ fin)))))))))
   ·have hjl:(aO l).take j=aO l:=h1H (by omega);rw [hjl]at hov;have hk2:=hk N hR3 hN;rcases hov with⟨rfl,e⟩| ⟨io,rfl,_⟩
    ·rw [show nZ Go.Proofs.Tryz.prog 49 .nilslice= .vslice none 0 0 3 [] by kernel_rfl];rw [e]at hk2;exact aA rfl hk2
    ·rw [b9C];refine aA ?_ hk2;simp only [aN,bL,h1L];exact oY _
 ·exact hk.elim
def e3B:=bB 23 e2Y f8X
theorem e3C:aT env e3B:=aI g4H (f1D)
def e3D(xs:List IV)(h:Heap)(K:KT):Prop:=match xs with
 | [.vslice none e0 n 3 c,.vslice none e1 n1 3 c1]=> ∃(l:List Nd)(C:IvC),(n=l.length/\c=l.flatMap cN/\n1=C.length/\c1=C.flatMap nS)/\LOk l/\(∀n∈l,bJ n.im)/\((∀p∈C,dB p.2)/\C.length<=1099511627776)/\K (.vslice none 0 l.length 2 ((rG l (lP C)).flatMap cR)) h
 |_=>False
def f9A(l l_1:List Nd):=[IV.vslice none 0 l.length 3 (List.flatMap cN l),IV.vslice none 0 ((aG l_1).length) 1 (List.map (IV.int .i64) (aG l_1)),IV.nilmap,IV.nilmap]
theorem g4I(l:List Nd)(C:IvC)(e0 e1:Nat)(h:Heap)(Q:KT):dF (aV e3B) env 31 dV bT bT [.vslice none e0 (l).length 3 ((l).flatMap cN),.vslice none e1 C.length 3 (C.flatMap nS)] h Q=(
 aC (aN [IV.vslice none 0 l.length 3 (List.flatMap cN l),IV.vslice none 0 C.length 3 (List.flatMap nS C)]) (∃(l_1:List Nd),(l.length=l_1.length/\List.flatMap cN l=List.flatMap cN l_1)/\LOk l_1/\∃(C_1:List (Int×Iv)),∃(a:IV),∃(b c d:IV),(C.length=C_1.length/\List.flatMap nS C=List.flatMap nS C_1)/\(IObj.cells (f9A l l_1)=IObj.cells [a,b,c,d]/\(0:Nat)<0+1/\C_1.length<=1152921504606846976)/\∀(h2:Heap)(m:Nat)(es:List (Int×Iv)),h2.get (0:Nat)=IObj.cells [a,b,IV.map m,d]->(h2.get m=IObj.map (cM eI es)/\∀(k:Int),kG k es=lP C_1 k)->(0:Nat)+1<=m/\m<h2.next->(∀(j:Nat),j<0+1->j≠0->Heap.get h2 j=(Heap.mk (PT.node PT.nil (some (IObj.cells (f9A l l_1))) PT.nil) ((0:Nat)+1)).get j)-> ∃(l:List Nd),∃(mk:Nat),∃(mu:IV),∃(kn:Int->Option Iv),∃(un:Int->Bool),(h2.get (0:Nat)=IObj.cells [IV.vslice none 0 l.length 3 (List.flatMap cN l),IV.vslice none 0 ((aG l).length) 1 (List.map (IV.int .i64) (aG l)),IV.map mk,mu]/\0<h2.next)/\AzS h2 l mk mu kn un/\∀(h2_1:Heap)(iR iU:Nat),h2_1.get iR=IObj.cells (List.flatMap cR (rG l kn))->Heap.get h2_1 iU=IObj.cells (List.map IV.bool (uG l un))->Heap.next h2<=iR/\iR<h2_1.next/\Heap.next h2<=iU/\iU<h2_1.next/\iR≠iU->(∀(j:Nat),j<h2.next->Heap.get h2_1 j=h2.get j)->aF h2_1 iR fun r0=>aC (true&&Nat.ble ((0:Nat)+l.length*2) r0.length) (aC (aN [IV.vslice none 0 l.length (2:Nat) (List.take (l.length*2) r0)]) (Q (.vslice none 0 l.length 2 (List.take (l.length*2) r0)) h)))):=by kernel_rfl
theorem g4J: ∀xs h Q,e3D xs h Q->aU env 31 xs h Q:=by
 intro xs h Q hk;unfold e3D at hk;split at hk
 ·rename_i e0 n c e1 n1 c1;obtain⟨l,C,⟨rfl,rfl,rfl,rfl⟩,hL,him,hC,hk⟩:=hk;refine aS (e3C) (g4I l C e0 e1 h Q) ?_;delta f9A;have tn: ∀x:Nat,(x:Int).toNat=x:=h0Z
  have hRl:=lH l (lP C);have hsl:=bD l;refine aA (by simp only [aN,bL,gI,oY,h1L]) ⟨l,⟨rfl,rfl⟩,hL,C,(.vslice none 0 l.length 3 (l.flatMap cN)),(.vslice none 0 (aG l).length 1 ((aG l).map (IV.int .i64))),.nilmap,.nilmap,⟨rfl,rfl⟩,⟨rfl,by decide,by omega⟩,fun h2 m es e1 ⟨e2,e3⟩ ⟨n1,n2⟩ fr=>⟨l,m,.nilmap,lP C,fun _=>false,⟨e1,by omega⟩,⟨hL,him,⟨⟨es,e2,e3⟩,n2⟩,⟨.inl ⟨rfl,fun _=>rfl⟩,fun m hm=>by cases hm⟩,a4J hC.1,fun v hv=>by cases hv⟩,fun h3 iR iU eR eU nn fr3=>aB eR (aA ?_ ?_)⟩⟩
  ·rw [h2G,h1S,h1Q,<-hRl,b5R];exact h1D _
  ·have:List.take (l.length*2) ((rG l (lP C)).flatMap cR)=(rG l (lP C)).flatMap cR:=h1H (by rw [b5R,hRl];exact h1D _);rw [this];exact aA (by simp only [aN,bL,xL,h1L]) hk
 ·exact hk.elim
def e3E:=bB 31 e3D e3B
theorem e3F:aT env e3E:=aI g4J (e3C)
structure IdN where
 m:Nat
 iR:Nat
 m8:Nat
def IdS(l:List Nd)(C:IvC)(g:Heap)(x:IdN):Prop:=g.get 0= .cells [.vslice none 0 (l).length 3 ((l).flatMap cN),.vslice none 0 (aG l).length 1 ((aG l).map (IV.int .i64)),.map x.m,.nilmap]/\g.get x.iR= .cells ((rG l (lP C)).flatMap cR)/\(x.iR≠x.m8/\0≠x.m8/\x.m8<g.next/\x.iR<g.next/\0<g.next)
def id1(l:List Nd)(C:IvC):Inv':=hJ (Nat×Heap×IdN) (fun x=>[(1,.v (.vslice none 0 C.length 3 (C.flatMap nS))),(5,.v (.ptr 0 0)),(6,.v (.hslice x.2.2.iR 0 l.length 2)),(8,.v (.map x.2.2.m8)),(40,.v (.vslice none 0 (aO l).length 4 ((aO l).flatMap zK))),(41,.v (.int .i64 ((aO l).length:Int))),(42,.v (.int .i64 (x.1:Int)))]) (fun _=>[]) (fun x=>x.2.1) (fun x=>x.1<=(aO l).length/\IdS l C x.2.1 x.2.2/\∃es:List (Int×LV),x.2.1.get x.2.2.m8= .map (cM eV es)/\∀k,kG k es=vrG ((aO l).take x.1) k) (fun x=>(aO l).length-x.1)
def id2(l:List Nd)(C:IvC):Inv':=hJ (Nat×Heap×IdN×Nat) (fun x=>[(1,.v (.vslice none 0 C.length 3 (C.flatMap nS))),(5,.v (.ptr 0 0)),(6,.v (.hslice x.2.2.1.iR 0 l.length 2)),(8,.v (.map x.2.2.1.m8)),(11,.v (.map x.2.2.2)),(52,.v (.vslice none 0 C.length 3 (C.flatMap nS))),(53,.v (.int .i64 (C.length:Int))),(54,.v (.int .i64 (x.1:Int)))]) (fun _=>[]) (fun x=>x.2.1)
 (fun x=>(x.1<=C.length/\a7B l C x.1=true)/\IdS l C x.2.1 x.2.2.1/\(∃es:List (Int×LV),x.2.1.get x.2.2.1.m8= .map (cM eV es)/\∀k,kG k es=vrG (aO l) k)/\(∃es:List (Int×Bool),x.2.1.get x.2.2.2= .map (cM IV.bool es)/\∀k,kG k es=if lI (C.take x.1) k=true then some true else none)/\(x.2.2.2≠0/\x.2.2.2≠x.2.2.1.iR/\x.2.2.2≠x.2.2.1.m8)) (fun x=>C.length-x.1)
def f9B(xs:List IV)(h:Heap)(K:KT):Prop:=match xs with
 | [.agg [g0,g1,.vslice none e0 n 3 c,g3,g4],.vslice none e1 n1 3 c1]=> ∃(l:List Nd)(C:IvC),(n=l.length/\c=l.flatMap cN/\n1=C.length/\c1=C.flatMap nS)/\(bL g0=true/\bL g1=true/\bL g3=true/\bL g4=true)/\LOk l/\(∀n∈l,bJ n.im)/\((∀p∈C,dB p.2)/\C.length<=1099511627776)/\K (.bool (e6L l C)) h
 |_=>False
def a0E(C:IvC):=TV.v (.vslice none 0 C.length 3 (List.flatMap nS C))
def a0F(yy:Nat×Heap×IdN×Nat):=yy.2.2.1
def b3L:=TV.v (.ptr 0 0)
def e8S(l:List Nd):=TV.v (.vslice none 0 ((aO l).length) 4 (List.flatMap zK (aO l)))
def rC(l:List Nd):=l.length
def f9C(l l_1:List Nd):=[IV.vslice none 0 (rC l) 3 (List.flatMap cN l),IV.vslice none 0 ((aG l_1).length) 1 (List.map (IV.int .i64) (aG l_1)),IV.nilmap,IV.nilmap]
abbrev f9D(l_4:List Nd)(R:List Iv):= ∀(i:Nat),i<l_4.length->Prod.fst (List.getD R i ((0:Int),(0:Int)))<=Prod.snd (List.getD R i ((0:Int),(0:Int)))/\dB (List.getD R i ((0:Int),(0:Int)))
def b9F:=TypeDesc.int .i64
def e3H(C:IvC):=TV.v (.int .i64 (↑C.length:Int))
abbrev f9E(n18:Int)(l_4:List Nd):=0<=n18/\n18< (↑l_4.length:Int)/\List.getD (aG l_4) n18.toNat 0=1/\l_4.length<=100000
def e8T(l:List Nd):=TV.v (.int .i64 (↑((aO l).length):Int))
def e3I(l:List Nd):=List.map (IV.int .i64) (aG l)
def b3M:=IV.bool false
def c4T:=Int×M14.LV
def c4U(n10:Int):=iI n10
def b9G(yy:Nat×Heap×IdN×Nat):=yy.2.1
def b9H(C:IvC)(l:List Nd)(x:Nat×Heap×IdN×Nat)(y0:Heap):Prop:= ∃(yy:Nat×Heap×IdN×Nat),some (a0E C)=some (a0E C)/\some b3L=some b3L/\some (TV.v (.hslice (IdN.iR x.2.2.1) 0 (rC l) 2))=some (TV.v (.hslice (IdN.iR (a0F yy)) 0 (rC l) 2))/\some (TV.v (.map (IdN.m8 x.2.2.1)))=some (TV.v (.map (IdN.m8 (a0F yy))))/\some (TV.v (.map x.2.2.2))
 =some (TV.v (.map yy.2.2.2))/\some (a0E C)=some (a0E C)/\some (e3H C)=some (e3H C)/\tI (wW ((↑x.1:Int)+1))=tI (↑yy.1:Int)/\y0=yy.2.1/\((yy.1<=C.length/\a7B l C yy.1=true)/\((b9G yy).get (0:Nat)=IObj.cells [IV.vslice none 0 (rC l) 3 (List.flatMap cN l),IV.vslice
 none 0 ((aG l).length) 1 (e3I l),IV.map (IdN.m (a0F yy)),IV.nilmap]/\Heap.get (b9G yy) (IdN.iR (a0F yy))=IObj.cells (List.flatMap cR (rG l (lP C)))/\IdN.iR (a0F yy)≠IdN.m8 (a0F yy)/\(0:Nat)≠IdN.m8 (a0F yy)/\IdN.m8 (a0F yy)< (b9G yy).next/\IdN.iR (a0F yy)<Heap.next
 (b9G yy)/\0< (b9G yy).next)/\(∃(es:List c4T),(b9G yy).get (IdN.m8 (a0F yy))=IObj.map (cM eV es)/\∀(k:Int),kG k es=vrG (aO l) k)/\(∃(es:List (Int×Bool)),(b9G yy).get yy.2.2.2=IObj.map (cM IV.bool es)/\∀(k:Int),kG k es=if lI (List.take yy.1 C)
 k=true then some true else none)/\yy.2.2.2≠0/\yy.2.2.2≠IdN.iR (a0F yy)/\yy.2.2.2≠IdN.m8 (a0F yy))/\C.length-yy.1<C.length-x.1
theorem g9O(l:List Nd)(C:IvC)(g0 g1 g3 g4:IV)(e0 e1:Nat)(h:Heap)(Q:KT):dF (aV e3E) env 24 dV (icA 7 (id1 l C) (tK 13 (id2 l C))) bT [.agg [g0,g1,.vslice none e0 (l).length 3 ((l).flatMap cN),g3,g4],.vslice none e1 C.length 3 (C.flatMap nS)] h Q=(
 aC (aN [IV.agg [g0,g1,IV.vslice none 0 (rC l) 3 (List.flatMap cN l),g3,g4],IV.vslice none 0 C.length 3 (List.flatMap nS C)]) (∃(l_1:List Nd),(l.length=l_1.length/\List.flatMap cN l=List.flatMap cN l_1)/\LOk l_1/\∃(C_1:List (Int×Iv)),∃(a b:IV),∃(c d:IV),(C.length=C_1.length/\List.flatMap nS C=List.flatMap nS C_1)/\(IObj.cells (f9C l l_1)=IObj.cells [a,b,c,d]/\(0:Nat)<0+1/\C_1.length<=1152921504606846976)/\∀(h2:Heap)(m:Nat)(es:List (Int×Iv)),h2.get (0:Nat)=IObj.cells [a,b,IV.map m,d]->(h2.get m=IObj.map (cM eI es)/\∀(k:Int),kG k es=lP C_1 k)->(0:Nat)+1<=m/\m<h2.next->(∀(j:Nat),j<0+1->j≠0->Heap.get h2 j=(Heap.mk (PT.node PT.nil (some (IObj.cells (f9C l l_1))) PT.nil) ((0:Nat)+1)).get j)-> ∃(l_2:List Nd),∃(mk:Nat),∃(mu:IV),∃(kn:Int->Option Iv),∃(un:Int->Bool),(h2.get (0:Nat)=IObj.cells [IV.vslice none 0 l_2.length 3 (List.flatMap cN l_2),IV.vslice none (0:Nat) ((aG l_2).length) 1 (List.map (IV.int .i64) (aG l_2)),IV.map mk,mu]/\0<h2.next)/\AzS h2 l_2 mk mu kn un/\∀(h2_1:Heap)(iR iU:Nat),h2_1.get iR=IObj.cells (List.flatMap cR (rG l_2 kn))->Heap.get h2_1 iU=IObj.cells (List.map IV.bool (uG l_2 un))->Heap.next h2<=iR/\iR<h2_1.next/\Heap.next h2<=iU/\iU<h2_1.next/\iR≠iU->(∀(j:Nat),j<h2.next->Heap.get h2_1 j=h2.get j)->aF (h2_1.push (IObj.map [])) 0 fun r0=>bH 1 r0 1 fun(i1:Option Nat)(e2 l3:Nat)(c4:List IV)=> ∃(l_3:List Nd),(l.length=l_3.length/\List.flatMap cN l=List.flatMap cN l_3)/\(l3=l_3.length/\c4=List.map (IV.int .i64) (aG l_3))/\LOk l_3/\(∃(x:Nat×Heap×IdN),some (a0E C)=some (a0E C)/\some b3L=some b3L/\some (TV.v (IV.hslice iR 0 l_2.length 2))=some (TV.v (.hslice (IdN.iR x.2.2) 0 (rC l) 2))/\some (TV.v (.map (h2_1.next)))=some (TV.v (.map (IdN.m8 x.2.2)))/\some (TV.v (.vslice none 0 ((aO l_3).length) 4 (List.flatMap zK (aO l_3))))=some (e8S l)/\tI (↑((aO l_3).length):Int)=some (e8T l)/\tI 0=tI (↑x.1:Int)/\Heap.push h2_1 (IObj.map [])=x.2.1/\(x.1<=List.length (aO l)/\(x.2.1.get (0:Nat)=IObj.cells [IV.vslice none 0 (rC l) 3 (List.flatMap cN l),IV.vslice none 0 ((aG l).length) 1 (e3I l),IV.map (IdN.m x.2.2),IV.nilmap]/\Heap.get (x.2.1) (IdN.iR x.2.2)=IObj.cells (List.flatMap cR (rG l (lP C)))/\IdN.iR x.2.2≠IdN.m8 x.2.2/\(0:Nat)≠IdN.m8 x.2.2/\IdN.m8 x.2.2<x.2.1.next/\IdN.iR ((x.2).2)<x.2.1.next/\0<x.2.1.next)/\∃(es:List c4T),x.2.1.get (IdN.m8 x.2.2)=IObj.map (cM eV es)/\∀(k:Int),kG k es=vrG (List.take x.1 (aO l)) k)/\True)/\∀(x:Nat×Heap×IdN)(b:FF),(x.1<=List.length (aO l)/\IdS l C x.2.1 x.2.2/\∃(es:List c4T),x.2.1.get (IdN.m8 x.2.2)=IObj.map (cM eV es)/\∀(k:Int),kG k es=vrG (List.take x.1 (aO l)) k)->aM (decide ((↑(x.1):Int)< (↑((aO l).length):Int))) (aC (decide (0<=(↑x.1:Int)) &&decide ((↑x.1:Int)< (↑((aO l).length):Int))) (aK .i64 (List.flatMap zK (aO l)) ((↑x.1:Int).toNat*4) fun n5=>aK .i64 (List.flatMap zK (aO l)) ((↑x.1:Int).toNat*4+1) fun n6=>aK .i64 (List.flatMap zK (aO l)) ((↑x.1:Int).toNat*4+1+1) fun n7=>aK .i64 (List.flatMap zK (aO l)) ((↑x.1:Int).toNat*(4:Nat)+1+1+1) fun n8=>kS x.2.1 (IdN.m8 x.2.2) b9F (iI n5) (IV.agg [.int .i64 n5,iI n6,iI n7,iI n8]) fun(es9:List (IV×IV))=> ∃(x_1:Nat×Heap×IdN),some (a0E C)=some (a0E C)/\some b3L=some b3L/\some (TV.v (.hslice (IdN.iR x.2.2) 0 (rC l) 2))=some (TV.v (.hslice (IdN.iR x_1.2.2) 0 (rC l) 2))/\some (TV.v (.map (IdN.m8 x.2.2)))=some (TV.v (.map (IdN.m8 x_1.2.2)))/\some (e8S l)=some (e8S l)/\some (e8T l)=some (e8T l)/\tI (wW ((↑x.1:Int)+1))=tI (↑x_1.1:Int)/\Heap.set ((x.2).1) (IdN.m8 x.2.2) (IObj.map es9)=x_1.2.1/\(x_1.1<=List.length (aO l)/\(x_1.2.1.get (0:Nat)=IObj.cells [IV.vslice none 0 (rC l) 3 (List.flatMap cN l),IV.vslice none 0 ((aG l).length) 1 (e3I l),IV.map (IdN.m x_1.2.2),IV.nilmap]/\Heap.get x_1.2.1 (IdN.iR x_1.2.2)=IObj.cells (List.flatMap cR (rG l (lP C)))/\IdN.iR x_1.2.2≠IdN.m8 x_1.2.2/\(0:Nat)≠IdN.m8 x_1.2.2/\IdN.m8 x_1.2.2<x_1.2.1.next/\IdN.iR x_1.2.2<x_1.2.1.next/\0<x_1.2.1.next)/\∃(es:List c4T),x_1.2.1.get (IdN.m8 x_1.2.2)=IObj.map (cM eV es)/\∀(k:Int),kG k es=vrG (List.take x_1.1 (aO l)) k)/\List.length (aO l)-x_1.1< (aO l).length-x.1)) ((∃(x_1:Nat×Heap×IdN×Nat),some (a0E C)=some (a0E C)/\some b3L=some b3L/\some (TV.v (.hslice (IdN.iR x.2.2) 0 (rC l) 2))=some (TV.v (.hslice (IdN.iR x_1.2.2.1) 0 (rC l) 2))/\some (TV.v (.map (IdN.m8 x.2.2)))=some (TV.v (.map (IdN.m8 x_1.2.2.1)))/\some (TV.v (.map (x.2.1.next)))=some (TV.v (.map x_1.2.2.2))/\some (a0E C)=some (a0E C)/\some (e3H C)=some (e3H C)/\tI 0=tI (↑x_1.1:Int)/\Heap.push x.2.1 (IObj.map [])=x_1.2.1/\((x_1.1<=C.length/\a7B l C x_1.1=true)/\(x_1.2.1.get (0:Nat)=IObj.cells [IV.vslice none 0 (rC l) 3 (List.flatMap cN l),IV.vslice none 0 ((aG l).length) 1 (e3I l),IV.map (IdN.m (((x_1.2).2).1)),IV.nilmap]/\Heap.get x_1.2.1 (IdN.iR x_1.2.2.1)=IObj.cells (List.flatMap cR (rG l (lP C)))/\IdN.iR x_1.2.2.1≠IdN.m8 x_1.2.2.1/\(0:Nat)≠IdN.m8 x_1.2.2.1/\IdN.m8 x_1.2.2.1<x_1.2.1.next/\IdN.iR x_1.2.2.1<x_1.2.1.next/\0<x_1.2.1.next)/\(∃(es:List c4T),x_1.2.1.get (IdN.m8 ((x_1.2.2).1))=IObj.map (cM eV es)/\∀(k:Int),kG k es=vrG (aO l) k)/\(∃(es:List (Int×Bool)),x_1.2.1.get x_1.2.2.2=IObj.map (cM IV.bool es)/\∀(k:Int),kG k es=if lI (List.take x_1.1 C) k=true then some true else none)/\x_1.2.2.2≠0/\x_1.2.2.2≠IdN.iR x_1.2.2.1/\x_1.2.2.2≠IdN.m8 x_1.2.2.1)/\True)/\∀(x:Nat×Heap×IdN×Nat)(b:FF),(x.1<=C.length/\a7B l C x.1=true)/\IdS l C x.2.1 x.2.2.1/\(∃(es:List c4T),x.2.1.get (IdN.m8 x.2.2.1)=IObj.map (cM eV es)/\∀(k:Int),kG k es=vrG (aO l) k)/\(∃(es:List (Int×Bool)),x.2.1.get x.2.2.2=IObj.map (cM IV.bool es)/\∀(k:Int),kG k es=if lI (List.take x.1 C) k=true then some true else none)/\x.2.2.2≠0/\x.2.2.2≠IdN.iR (((x.2).2).1)/\x.2.2.2≠IdN.m8 x.2.2.1->aM (decide ((↑x.1:Int)< (↑C.length:Int))) (aC (decide (0<=(↑x.1:Int)) &&decide ((↑x.1:Int)< (↑C.length:Int))) (aK .i64 (List.flatMap nS C) ((↑x.1:Int).toNat*3) fun n10=>aK .i64 (List.flatMap nS C) ((↑x.1:Int).toNat*3+1) fun n11=>aK .i64 (List.flatMap nS C) ((↑x.1:Int).toNat*3+1+1) fun(n12:Int)=>fV x.2.1 (IdN.m8 x.2.2.1) b9F (c4U n10) (fun r13=>a1B (4:Nat) r13 0 fun x14=>aK .i64 x14 0 fun n15=>aK .i64 x14 1 fun n16=>aK .i64 x14 2 fun n17=>aK .i64 x14 3 fun n18=>fV x.2.1 x.2.2.2 b9F (c4U n10) (fun r19=>iS r19 0 fun b20=>aM b20 (Q b3M h) (aM (!decide (n11<=n12)) (Q b3M h) (aC (decide (0<=n16) &&decide (n16< (↑(rC l):Int))) (aF x.2.1 (IdN.iR x.2.2.1) fun r21=>aK .i64 r21 ((0:Nat)+n16.toNat*2) fun n22=>aK .i64 r21 ((0:Nat)+n16.toNat*2+1) fun(n23:Int)=>aM (!(decide (n11<=n22) &&decide (n23<=n12))) (Q b3M h) (aC (decide (0<=n17) &&decide (n17< (↑(rC l):Int))) (aF x.2.1 (IdN.iR x.2.2.1) fun r24=>aK .i64 r24 ((0:Nat)+n17.toNat*2) fun(n25:Int)=>aK .i64 r24 ((0:Nat)+n17.toNat*2+1) fun n26=> ∃(l_4:List Nd),∃(x_1 y z:IV),∃(R:List Iv),(x.2.1.get (0:Nat)=IObj.cells [IV.vslice none 0 l_4.length 3 (List.flatMap cN l_4),x_1,y,z]/\Heap.get x.2.1 (IdN.iR x.2.2.1)=IObj.cells (List.flatMap cR R)/\R.length=l_4.length/\l.length=l_4.length)/\(f9D l_4 R)/\(f9E n18 l_4)/\aM ((mC l_4 (LV.mk n15 n16 n17 n18) (n25,n26) R).2) (aM (!(decide (n11<=Prod.fst ((mC l_4 (LV.mk n15 n16 n17 n18) (n25,n26) R).1)) &&decide (((mC l_4 (LV.mk n15 n16 n17 n18) (n25,n26) R).1).2<=n12))) (Q b3M h) (kS x.2.1 x.2.2.2 b9F (c4U n10) (IV.bool true) fun(es27:List (IV×IV))=>b9H C l x (x.2.1.set x.2.2.2 (IObj.map es27)))) (kS x.2.1 x.2.2.2 b9F (c4U n10) (IV.bool true) fun(es28:List (IV×IV))=>b9H C l x (x.2.1.set ((x.2.2).2) (IObj.map es28))))))))) (aM (!decide (n11<=n12)) (Q b3M h) (aC (decide (0<=n16) &&decide (n16< (↑(rC l):Int))) (aF x.2.1 (IdN.iR x.2.2.1) fun r29=>aK .i64 r29 ((0:Nat)+n16.toNat*2) fun n30=>aK .i64 r29 ((0:Nat)+n16.toNat*2+1) fun n31=>aM (!(decide (n11<=n30) &&decide (n31<=n12))) (Q b3M h) (aC (decide (0<=n17) &&decide (n17< (↑(rC l):Int))) (aF x.2.1 (IdN.iR ((x.2.2).1)) fun r32=>aK .i64 r32 ((0:Nat)+n17.toNat*2) fun n33=>aK .i64 r32 ((0:Nat)+n17.toNat*2+1) fun n34=> ∃(l_4:List Nd),∃(x_1 y z:IV),∃(R:List Iv),((x.2.1).get (0:Nat)=IObj.cells [IV.vslice none 0 l_4.length 3 (List.flatMap cN l_4),x_1,y,z]/\Heap.get x.2.1 (IdN.iR x.2.2.1)=IObj.cells (List.flatMap cR R)/\R.length=l_4.length/\l.length=l_4.length)/\(f9D l_4 R)/\(f9E n18 l_4)/\aM ((mC l_4 (LV.mk n15 n16 n17 n18) (n33,n34) R).2) (aM (!(decide (n11<=Prod.fst ((mC l_4 (LV.mk n15 n16 n17 n18) (n33,n34) R).1)) &&decide (((mC l_4 (LV.mk n15 n16 n17 n18) (n33,n34) R).1).2<=n12))) (Q b3M h) (kS (x.2.1) x.2.2.2 b9F (c4U n10) (IV.bool true) fun(es35:List (IV×IV))=>b9H C l x (x.2.1.set x.2.2.2 (IObj.map es35)))) (kS x.2.1 x.2.2.2 b9F (c4U n10) (IV.bool true) fun(es36:List (IV×IV))=>b9H C l x (x.2.1.set x.2.2.2 (IObj.map es36))))))))) (Q b3M h))) (Q (.bool true) h)))):=by kernel_rfl
theorem g9P: ∀xs h Q,f9B xs h Q->aU env 24 xs h Q:=by
 intro xs h Q hk;unfold f9B at hk;split at hk
 ·rename_i g0 g1 e0 n c g3 g4 e1 n1 c1;obtain⟨l,C,⟨rfl,rfl,rfl,rfl⟩,hp,hL,him,hC,hk⟩:=hk;refine aS (e3F) (g9O l C g0 g1 g3 g4 e0 e1 h Q) ?_;delta b9H a0E a0F b3L e8S f9C f9D b9F e3H f9E e8T e3I rC b3M c4T c4U b9G tI wW iI;have tn: ∀x:Nat,(x:Int).toNat=x:=h0Z
  obtain⟨p0,p1,p3,p4⟩:=hp;have hll:=(show LOk l from hL).1;have hRl:=lH l (lP C);have hsl:=bD l;have hLn:=b1J l;have hKO:=a4J hC.1;refine aA (by simp only [aN,bL,gI,oY,p0,p1,p3,p4,h1L,h5U]) ⟨l,⟨rfl,rfl⟩,hL,C,(.vslice none 0 l.length 3 (l.flatMap cN)),(.vslice none 0 (aG l).length 1 ((aG l).map (IV.int .i64))),.nilmap,.nilmap,⟨rfl,rfl⟩,⟨rfl,by decide,by omega⟩,fun h2 m es e1 ⟨e2,e3⟩ ⟨n1,n2⟩ fr=>⟨l,m,.nilmap,lP C,fun _=>false,⟨e1,by omega⟩,⟨hL,him,⟨⟨es,e2,e3⟩,n2⟩,⟨.inl ⟨rfl,fun _=>rfl⟩,fun m hm=>by cases hm⟩,a4J hC.1,fun v hv=>by cases hv⟩,fun h3 iR iU eR eU ⟨m1,m2,_,_,_⟩ fr3=>aB ((aJ (show 0<h3.next by omega)).trans ((fr3 0 (by omega)).trans e1)) (sA rfl ⟨l,⟨rfl,rfl⟩,⟨hsl,rfl⟩,hL,⟨(0,h3.push (.map []),⟨m,iR,h3.next⟩),rfl,rfl,rfl,rfl,rfl,rfl,rfl,rfl,⟨h1N _,⟨(aJ (by omega)).trans ((fr3 0 (by omega)).trans e1),(aJ m2).trans eR,⟨h4P m2,by dsimp only;omega,h1G _,h1T m2,h5J _⟩⟩,[],aR,fun _=>rfl⟩,trivial⟩,?_⟩)⟩⟩;rintro⟨i,g,x⟩ _ ⟨hi,hId,es8,g8,v8⟩;obtain⟨b1,b2,b3,b4,b5,b6,b7⟩:=(show IdS l C g x from hId);dsimp only at hi g8 v8⊢;refine dW (fun c=>?_) (fun c=>?_)
  ·have hlt:i< (aO l).length:=by omega
   refine aP ⟨by omega,by omega⟩ (bF (by rw [tn];exact gN hlt 0 (by decide)) (bF (by rw [tn];exact gN hlt 1 (by decide)) (bF (by rw [tn];exact gN hlt 2 (by decide)) (bF (by rw [tn];exact gN hlt 3 (by decide)) (gJ g8 (oE eV (aO l)[i].v (aO l)[i] es8) ⟨(i+1,_,x),(by rfl),(by rfl),(by rfl),(by rfl),(by rfl),(by rfl),(by rw [h0X _ (by omega)];rfl),(by rfl),⟨hlt,⟨(aE b4).trans b1,(aE b3).trans b2,b3,b4,b5,b6,b7⟩,_,aH,fun k=>?_⟩,by dsimp only;omega⟩)))));dsimp only;rw [qH,h1J hlt,b5Y,v8 k]
  have hil:(aO l).take i=aO l:=h1H (by omega);rw [hil]at v8;refine⟨⟨(0,g.push (.map []),x,g.next),rfl,rfl,rfl,rfl,rfl,rfl,rfl,rfl,rfl,⟨⟨h1N _,rfl⟩,⟨(aJ b7).trans b1,(aJ b6).trans b2,b3,b4,h1T b5,h1T b6,h1T b7⟩,⟨es8,(aJ b5).trans g8,v8⟩,⟨[],aR,fun _=>rfl⟩,by dsimp only;omega,by dsimp only;omega,by dsimp only;omega⟩,trivial⟩,?_⟩;rintro⟨i,g3,x3,m11⟩ _ ⟨⟨hi3,hin⟩,hId3,⟨es,v1,v2⟩,⟨es2,s1,s2⟩,d1,d2,d3⟩;obtain⟨a1,a2,a3⟩:=(show IdS l C g3 x3 from hId3);dsimp only at hi3 hin v1 v2 s1 s2 d1 d2 d3⊢;refine dW (fun c=>?_) (fun c=>?_)
  case refine_2=>
   have:e6L l C=true:=by
    unfold e6L
    rw [show C.length=i by omega];exact hin
   rw [this]at hk;exact hk
  have hlt:i<C.length:=by omega
  have hD:C.getD i (0,(0,0))=C[i]:=cQ hlt;have hwr:some (TV.v (IV.int IntKind.i64 (IntKind.i64.wrap ((i:Int)+1))))=some (TV.v (IV.int IntKind.i64 ((i+1:Nat):Int))):=by rw [h0X _ (by omega)];rfl
  have no:okC l C i=false->Q (.bool false) h:=fun q=>by
   have:=c6X q _ hlt;rw [show e6L l C=false from this]at hk;exact hk
  refine aP ⟨by omega,by omega⟩ (bF (by rw [tn];exact vG hlt 0 (by decide)) (bF (by rw [tn];exact vG hlt 1 (by decide)) (bF (by rw [tn];exact vG hlt 2 (by decide)) ?_)))
  cases ev:vrG (aO l) C[i].1 with
  |none=>exact iV v1 (eL ((v2 _).trans ev)) (no (by unfold okC;rw [hD,ev]))
  |some x=>
   have ok1:okC l C i=(!(lI (C.take i) C[i].1) && (decide (C[i].2.1<=C[i].2.2) && (ctd (gR (rG l (lP C)) x.f) C[i].2&& (!(mC l x (gR (rG l (lP C)) x.n) (rG l (lP C))).2||ctd (mC l x (gR (rG l (lP C)) x.n) (rG l (lP C))).1 C[i].2)))):=by
    unfold okC
    rw [hD,ev]
   obtain⟨lf,ln,ld⟩:=b1G (e6K ev).1;refine eQ v1 (cX ((v2 _).trans ev)) (a4A rfl rfl (bF rfl (bF rfl (bF rfl (bF rfl ?_)))))
   cases hh:lI (C.take i) C[i].1 with
   |true=>exact eQ s1 (cX (by rw [s2,if_pos hh])) (lG rfl (bt rfl (no (by rw [ok1,hh];rfl))))
   |false=>
    rw [hh,h8L,h2G]at ok1;refine iV s1 (eL (by rw [s2,if_neg (by rw [hh];decide)])) (aD (fun c2=>no ?_) (fun c2=>?_))
    ·rw [h2K]at c2;rw [ok1,c2];rfl
    rw [h3A]at c2;rw [c2,h2G]at ok1;refine aP lf (aB a2 (a1L (by rw [hRl];exact lf) (by rw [h1Q]) (aD (fun c3=>no ?_) (fun c3=>?_))))
    ·rw [h2K]at c3;rw [ok1,show ctd (gR (rG l (lP C)) x.f) C[i].2=false from c3];rfl
    rw [h3A]at c3;rw [show ctd (gR (rG l (lP C)) x.f) C[i].2=true from c3,h2G]at ok1;refine aP ln (aB a2 (a1L (by rw [hRl];exact ln) (by rw [h1Q]) ⟨l,_,_,_,rG l (lP C),⟨a1,a2,hRl,rfl⟩,a4E him hKO,⟨ld.1,ld.2.1,ld.2.2,hll⟩,aD (fun c4=>?_) (fun c4=>?_)⟩))
    ·have c4':(mC l x (gR (rG l (lP C)) x.n) (rG l (lP C))).2=true:=c4;rw [c4',h8S,h4S]at ok1;refine aD (fun c5=>no ?_) (fun c5=>?_)
     ·rw [h2K]at c5;rw [ok1];exact c5
     ·rw [h3A]at c5;have ok2:okC l C i=true:=ok1.trans c5;exact gJ s1 (oE _ _ _ _) ⟨(i+1,g3.set m11 (.map (cM IV.bool (upM C[i].1 true es2))),x3,m11),rfl,rfl,rfl,rfl,rfl,rfl,rfl,hwr,rfl,⟨⟨hlt,by show(a7B l C i&&okC l C i)=true;rw [hin,ok2];rfl⟩,⟨(aE (Ne.symm d1)).trans a1,(aE (Ne.symm d2)).trans a2,a3⟩,⟨es,(aE (Ne.symm d3)).trans v1,v2⟩,⟨_,aH,by dsimp only;rw [h1J hlt];exact tP s2⟩,d1,d2,d3⟩,by dsimp only;omega⟩
    ·have c4':(mC l x (gR (rG l (lP C)) x.n) (rG l (lP C))).2=false:=c4;have ok2:okC l C i=true:=by rw [ok1,c4'];rfl
     exact gJ s1 (oE _ _ _ _) ⟨(i+1,g3.set m11 (.map (cM IV.bool (upM C[i].1 true es2))),x3,m11),rfl,rfl,rfl,rfl,rfl,rfl,rfl,hwr,rfl,⟨⟨hlt,by show(a7B l C i&&okC l C i)=true;rw [hin,ok2];rfl⟩,⟨(aE (Ne.symm d1)).trans a1,(aE (Ne.symm d2)).trans a2,a3⟩,⟨es,(aE (Ne.symm d3)).trans v1,v2⟩,⟨_,aH,by dsimp only;rw [h1J hlt];exact tP s2⟩,d1,d2,d3⟩,by dsimp only;omega⟩
 ·exact hk.elim
def g4K:=bB 24 f9B e3E
theorem g4L:aT env g4K:=aI g9P (e3F)
def c4V(xs:List IV)(h:Heap)(K:KT):Prop:=match xs with
 | [x,y]=>c6Y [x,y] h K
 |_=>False
theorem f9F: ∀xs h Q,c4V xs h Q->aU env 12 xs h Q:=by
 intro xs h Q hk;unfold c4V at hk;split at hk
 ·exact e9E _ _ _ hk
 ·exact hk.elim
def e3J:=bB 12 c4V g4K
theorem e8U:aT env e3J:=aI f9F (g4L)
def c4W(xs:List IV)(h:Heap)(K:KT):Prop:=match xs with
 | [x,y]=>c6Z [x,y] h K
 |_=>False
theorem f9G: ∀xs h Q,c4W xs h Q->aU env 35 xs h Q:=by
 intro xs h Q hk;unfold c4W at hk;split at hk
 ·exact e9F _ _ _ hk
 ·exact hk.elim
def c4X:=bB 35 c4W e3J
theorem c9M:aT env c4X:=aI f9G (e8U)
abbrev IvS:=List Iv
def liI(m:List Int)(Z:IvS):Inv':=hJ (Nat×Heap×IV×IvC) (fun x=>[(0,.v (.vslice none 0 m.length 1 (m.map (IV.int .i64)))),(1,.v (.vslice none 0 Z.length 2 (Z.flatMap cR))),(5,.v x.2.2.1),(6,.v (.int .i64 (x.1:Int)))]) (fun _=>[]) (fun x=>x.2.1) (fun x=>(x.1<=4/\x.1<=m.length)/\OvC nS 3 0 x.2.1 x.2.2.1 x.2.2.2/\x.2.2.2.length=x.1/\∀p∈x.2.2.2,dB p.2) (fun x=>4-x.1)
def e3K(xs:List IV)(h:Heap)(K:KT):Prop:=match xs with
 | [.vslice none e1 n 1 c,.vslice none e2 n1 2 c1]=> ∃(m:List Int)(Z:IvS),(n=m.length/\c=m.map (IV.int .i64)/\n1=Z.length/\c1=Z.flatMap cR)/\((∀x∈m,bR x)/\∀r∈Z,dB r)/\∀C:IvC,(∀p∈C,dB p.2)->C.length<=4->K (.vslice none 0 C.length 3 (C.flatMap nS)) h
 |_=>False
abbrev f9H(m:List Int)(x:Nat×Heap×IV×IvC):=(x.1<=4/\x.1<=m.length)/\OvC nS (3:Nat) (0:Nat) x.2.1 x.2.2.1 x.2.2.2/\x.2.2.2.length=x.1/\∀(p:Int×Iv),p∈x.2.2.2->dB p.2
def e3L(m:List Int)(x:Nat×Heap×IV×IvC):=decide (0<=(↑x.1:Int)) &&decide ((↑x.1:Int)< (↑m.length:Int))
def c4Y(m:List Int):=List.map (IV.int .i64) m
def e3M(m:List Int):=TV.v (.vslice none 0 m.length 1 (c4Y m))
def e3N(Z:IvS):=TV.v (.vslice none 0 Z.length 2 (List.flatMap cR Z))
def e3O(x:Nat×Heap×IV×IvC):=[nZ Proofs.Tryz.prog (49:Nat) x.2.2.1]
def e3P(x:Nat×Heap×IV×IvC):=(↑x.1:Int).toNat*1
abbrev f9I:=(0:Int)<40/\(40:Int)<4611686018427387904
def e3Q(Z:IvS)(m:List Int)(x:Nat×Heap×IV×IvC)(y0:IV)(y1:Heap):Prop:= ∃(yy:Nat×Heap×IV×IvC),some (e3M m)=some (e3M m)/\some (e3N Z)=some (e3N Z)/\some (TV.v (y0))=some (TV.v yy.2.2.1)/\tI (wW ((↑x.1:Int)+1))=tI (↑yy.1:Int)/\y1=yy.2.1/\((yy.1<=4/\yy.1<=m.length)/\OvC nS (3:Nat) (0:Nat) yy.2.1 yy.2.2.1 yy.2.2.2/\yy.2.2.2.length
 =yy.1/\∀(p:Int×Iv),p∈yy.2.2.2->dB p.2)/\(4:Nat)-yy.1<4-x.1
theorem g4M(m:List Int)(Z:IvS)(e1 e2:Nat)(h:Heap)(Q:KT):dF (aV c4X) env 26 dV (tK 4 (liI m Z)) bT [.vslice none e1 (m).length 1 ((m).map (IV.int .i64)),.vslice none e2 Z.length 2 (Z.flatMap cR)] h Q=(
 aC (aN [IV.vslice none 0 m.length 1 (c4Y m),IV.vslice none 0 Z.length 2 (List.flatMap cR Z)]) ((∃(x:Nat×Heap×IV×IvC),some (e3M m)=some (e3M m)/\some (e3N Z)=some (e3N Z)/\some (TV.v IV.nilslice)=some (TV.v ((x.2.2).1))/\tI 0=tI (↑x.1:Int)/\Heap.mk PT.nil 0=x.2.1/\(f9H m x)/\True)/\∀(x:Nat×Heap×IV×IvC)(b:FF),(f9H m x)->aM (decide ((↑x.1:Int)< (↑m.length:Int))) (aM (decide ((↑x.1:Int)<4)) (aC (e3L m x) (aK .i64 (c4Y m) (e3P x) fun n0=>bR (3:Int)/\∀(w:Int),bR w->aC (e3L m x) (aK .i64 (c4Y m) (e3P x) fun n1=>bR (9:Int)/\∀(w_1:Int),bR w_1->aM (decide ((↑(x.1):Int)< (↑Z.length:Int))) (aC (decide (0<=(↑x.1:Int)) &&decide ((↑x.1:Int)< (↑Z.length:Int))) (aK .i64 (List.flatMap cR Z) ((↑x.1:Int).toNat*2) fun n2=>aK .i64 (List.flatMap cR Z) ((↑x.1:Int).toNat*2+1) fun n3=>aC (e3L m x) (aK .i64 (c4Y m) (e3P x) fun n4=>f9I/\qT x.2.1 (3:Nat) (24:Nat) x.2.2.1 1 [iI (wW (n4% (40:Int)- (1:Int))),iI n2,iI n3] fun(i5 e6 l7:Nat)(c8:List IV)(g9:Heap)=>e3Q Z m x (IV.vslice (some i5) e6 l7 3 c8) g9))) (aC (e3L m x) (aK .i64 (c4Y m) (e3P x) fun n10=>f9I/\qT x.2.1 (3:Nat) (24:Nat) x.2.2.1 1 [iI (wW (n10% (40:Int)-1)),iI w,iI w_1] fun(i11 e12 l13:Nat)(c14:List IV)(g15:Heap)=>e3Q Z m x (IV.vslice (some i11) e12 l13 3 c14) g15))))) (aC (aN (e3O x)) (Q (eZ (e3O x)) h))) (aC (aN (e3O x)) (Q (eZ (e3O x)) h)))):=by kernel_rfl
theorem g4N: ∀xs h Q,e3K xs h Q->aU env 26 xs h Q:=by
 intro xs h Q hk;unfold e3K at hk;split at hk
 ·rename_i e1 n c e2 n1 c1;obtain⟨m,Z,⟨rfl,rfl,rfl,rfl⟩,hb,hk⟩:=hk;refine aS (c9M) (g4M m Z e1 e2 h Q) ?_;delta e3Q f9H e3L e3M e3N e3O e3P c4Y f9I tI wW iI;have tn: ∀x:Nat,(x:Int).toNat=x:=h0Z
  obtain⟨hm,hZ⟩:=hb;refine aA (by simp only [aN,bL,cH,xL,h1L]) ⟨⟨(0,Heap.empty,.nilslice,[]),rfl,rfl,rfl,rfl,rfl,⟨⟨h1N _,h1N _⟩,.inl ⟨rfl,rfl⟩,rfl,fun p hp=>by cases hp⟩,trivial⟩,?_⟩;rintro⟨i,g,ov,C⟩ _ ⟨⟨i1,i2⟩,hov,hCl,hC⟩;dsimp only at i1 i2 hov hCl hC⊢;have fin:aC (aN [nZ Go.Proofs.Tryz.prog 49 ov]) (Q (eZ [nZ Go.Proofs.Tryz.prog 49 ov]) h):=by
   have hk2:=hk C hC (by omega);rcases hov with⟨rfl,e⟩| ⟨io,rfl,_⟩
   ·rw [show nZ Go.Proofs.Tryz.prog 49 .nilslice= .vslice none 0 0 3 [] by kernel_rfl];rw [e]at hk2;exact aA rfl hk2
   ·rw [b9C];refine aA ?_ hk2;simp only [aN,bL,h1L];exact oY _
  refine dW (fun c=>dW (fun c2=>?_) (fun _=>fin)) (fun _=>fin);have hlt:i<m.length:=by omega
  have hi2:0<=(i:Int)/\(i:Int)<m.length:=⟨by omega,by omega⟩;refine aP hi2 (jM hlt (by rw [tn,h1W]) ⟨by unfold bR;omega,fun w hw=>aP hi2 (jM hlt (by rw [tn,h1W]) ⟨by unfold bR;omega,fun w1 hw1=>dW (fun c3=>?_) (fun c3=>?_)⟩)⟩)
  ·have hlz:i<Z.length:=by omega
   exact aP ⟨by omega,by omega⟩ (ldR hlz (by rw [tn]) (aP hi2 (jM hlt (by rw [tn,h1W]) ⟨by omega,hov.app (x:=(IntKind.i64.wrap (m[i]%40-1),(Z[i].1,Z[i].2))) rfl (by omega) (h1N _) fun id e n c g2 ho fr nx=>⟨(i+1,g2,.vslice (some id) e n 3 c,C++ [(IntKind.i64.wrap (m[i]%40-1),(Z[i].1,Z[i].2))]),rfl,rfl,rfl,(by rw [h0X _ (by omega)];rfl),rfl,⟨⟨by dsimp only;omega,by dsimp only;omega⟩,ho,by simp [hCl],fun p hp=>by
    rcases h2S.1 hp with hp|hp
    ·exact hC p hp
    ·rw [h2J.1 hp];exact hZ _ (h1B hlz)⟩,by dsimp only;omega⟩⟩)))
  ·exact aP hi2 (jM hlt (by rw [tn,h1W]) ⟨by omega,hov.app (x:=(IntKind.i64.wrap (m[i]%40-1),(w,w1))) rfl (by omega) (h1N _) fun id e n c g2 ho fr nx=>⟨(i+1,g2,.vslice (some id) e n 3 c,C++ [(IntKind.i64.wrap (m[i]%40-1),(w,w1))]),rfl,rfl,rfl,(by rw [h0X _ (by omega)];rfl),rfl,⟨⟨by dsimp only;omega,by dsimp only;omega⟩,ho,by simp [hCl],fun p hp=>by
    rcases h2S.1 hp with hp|hp
    ·exact hC p hp
    ·rw [h2J.1 hp];exact⟨hw,hw1⟩⟩,by dsimp only;omega⟩⟩)
 ·exact hk.elim
def f1E:=bB 26 e3K c4X
theorem f9J:aT env f1E:=aI g4N (c9M)
end Go.Proofs.YtkonebkblgemkaaGreat
end
end
