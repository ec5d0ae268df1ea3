/-
  Texts of this proof, one after the other.
  Conditions: none.
-/
import Derived.Test.YtkonebkblgemkaaGreatW13
set_option linter.unusedVariables false
set_option linter.unusedSimpArgs false
set_option maxRecDepth 100000
set_option maxHeartbeats 4000000
noncomputable section
variable{i j m b:Nat}{x y z u v:Int}{h g:Go.Pv.Heap}{c d l:List Go.Pv.IV}{A B C:List Go.M15.Nd}{K L:Y12}{s t:Go.Pv.IV}{F:List Go.M10.E}{D:Go.Pv.Meta}{V W:List Go.Value}{T U:Go.TypeId}{o:Bool}{X Y:Go.Value}{r:Y11}{G:Go.M10.BSt}{O:Go.Oper}{N:Y10}{H:Array Go.Value}
section
namespace Go.Proofs.YtkonebkblgemkaaGreat
open Go.Pv Go.M13 Go.M15 Go.M10 Go.M14
def b8K(xs:Y14)(h:Heap)(K:KT):Prop:=match xs with
 | [.agg [.int .i64 op,.int .i64 im,.vslice none e n 1 c],.int .i64 q]=> ∃(ks:Y12)(j:Nat),(n=ks.length/\c=ks.map (IV.int .i64)/\q=(j:Int))/\(ks.length%2=1/\3<=ks.length/\ks.length<=41/\j<ks.length/2/\0<=im/\im<=15)/\K (eV (aX ⟨op,im,ks⟩ j)) h
 |_=>False
def a9T(ks:Y12)(j:Nat):=wW (((ks.length:Int)-1)/ (2:Int)+1)+(j:Int)
def Zc(ks:Y12):=List.map (IV.int .i64) ks
def pQ(g:Nat)(i:Int):Bool:=decide (0<=(g:Int)) &&decide ((g:Int)<i)
theorem f2G(op g:Int)(e:Nat)(ks:Y12)(j:Nat)(h:Heap)(Q:KT):dF (aU d7U) env 100 cC bD bD [.agg [.int .i64 op,.int .i64 g,.vslice none e ks.length 1 (ks.map (IV.int .i64))],.int .i64 (j:Int)] h Q=(
 aF (aQ [IV.agg [.int .i64 op,iI g,IV.vslice none 0 ks.length 1 (Zc ks)],iI (j:Int)]) ((1<=(ks.length:Int)/\(ks.length:Int)<=1000000)/\aF (pQ j (ks.length:Int)) (aN .i64 (Zc ks) ((j:Int).toNat*1) λi=>aF (decide (0<=wW (a9T ks j)) &&decide (wW (a9T ks j)< (ks.length:Int))) (aN .i64 (Zc ks) ((wW (a9T ks j)).toNat*(1:Nat)) λl=>aF (decide ((0:Int)<=((ks.length:Int)-1)/ (2:Int)) &&decide (((ks.length:Int)-1)/ (2:Int)< (ks.length:Int))) (aN .i64 (Zc ks) ((((ks.length:Int)-1)/ (2:Int)).toNat*(1:Nat)) λm=>Q (.agg [.int .i64 (wW (wW ((16:Int)*g)+(j:Int))),iI i,iI l,iI m]) h))))):=by kernel_rfl
theorem e9Q: ∀xs h Q,b8K xs h Q->aM env 100 xs h Q:=by
 intro xs h Q hk;unfold b8K at hk;split at hk
 .rename_i op r e n c q;obtain⟨ks,j,⟨rfl,rfl,rfl⟩,y,hk⟩:=hk;refine aL (d5G) (f2G op r e ks j h Q) ?_;delta Zc pQ a9T wW iI;have u: ∀x:Nat,(x:Int).toNat=x:=AK
  obtain⟨h1,h2,h3,h4,K,L⟩:=y;have z:IntKind.i64.wrap (16*r)=16*r:=AA _ JZ;have A:IntKind.i64.wrap (16*r+(j:Int))=16*r+(j:Int):=AA _ JZ;have m:((ks.length:Int)-1)/2=((ks.length/2:Nat):Int):=JZ;have D:IntKind.i64.wrap (((ks.length/2:Nat):Int)+1)=((ks.length/2+1:Nat):Int):=by rw [AA _ JZ];omega
  have G:IntKind.i64.wrap (((ks.length/2+1:Nat):Int)+(j:Int))=((ks.length/2+1+j:Nat):Int):=by rw [AA _ JZ];omega
  rw [z,A,m,D,G];have g:j<ks.length:=JZ;have i:ks.length/2+1+j<ks.length:=JZ;have l:ks.length/2<ks.length:=JZ;refine aA (by simp only [aQ,aY,bL,AN]) ⟨JZ,aP ⟨JZ,JZ⟩ (fD g (by rw [u,AM]) (aP ⟨JZ,JZ⟩ (fD i (by rw [u,AM]) (aP ⟨JZ,JZ⟩ (fD l (by rw [u,AM]) (bN hk ?_))))))⟩;have e:(ks.length-1)/2=ks.length/2:=JZ;simp only [eV,aX,e];rw [bO g,bO i,bO l]
 .exact hk.elim
def b5E:=aV 100 b8K d7U
theorem c1H:aS env b5E:=aE e9Q (d5G)
theorem e1F(i:Y10)(e n:Nat)(c:Y14):mV Go.Proofs.Tryz.prog 104 (.vslice i e n 4 c)= .vslice none 0 n 4 c:=by kernel_rfl
def e8J(l:Y15):Inv':=dL (Nat×Heap×IV) (λx=>[(0,.v (.vslice none 0 (l).length 3 ((l).flatMap cN))),(1,.v (.vslice none 0 (aD l).length 1 ((aD l).map (IV.int .i64)))),(6,.l 6 0),(10,.v (.vslice none 0 (l).length 3 ((l).flatMap cN))),(11,.v (.int .i64 (l.length:Int))),(5,.v x.2.2),(12,.v (.int .i64 (x.1:Int)))]) (λx=>[(6,Keep.sbC l x.1)]) (λx=>x.2.1) (λx=>x.1<=l.length/\OvS x.2.1 x.2.2 (Br l x.1)) (λx=>l.length-x.1)
def f4X(l:Y15):Inv':=dL (Nat×Heap×IV×Nat) (λx=>[(0,.v (.vslice none 0 (l).length 3 ((l).flatMap cN))),(1,.v (.vslice none 0 (aD l).length 1 ((aD l).map (IV.int .i64)))),(6,.l 6 0),(10,.v (.vslice none 0 (l).length 3 ((l).flatMap cN))),(11,.v (.int .i64 (l.length:Int))),(5,.v x.2.2.1),(12,.v (.int .i64 (x.1:Int))),(8,.l 8 0),(9,.v (.int .i64 (x.2.2.2:Int)))]) (λx=>[(6,Keep.sbC l (x.1+1)),(8,cN (l.getD x.1 default))]) (λx=>x.2.1)
 (λx=>(x.1<l.length/\(aD l).getD x.1 0=3/\vK l x.1 (l.getD x.1 default).im=false)/\(1<=x.2.2.2/\x.2.2.2<=(l.getD x.1 default).ks.length/2)/\OvS x.2.1 x.2.2.1 (Br l x.1++C9 (l.getD x.1 default) x.2.2.2)) (λx=>(l.length-x.1)*100+(50-x.2.2.2))
def d9Y(xs:Y14)(h:Heap)(K:KT):Prop:=match xs with
 | [.vslice none e1 n1 3 c1,.vslice none e2 n2 1 c2]=> ∃l:Y15,(n1=l.length/\c1=l.flatMap cN)/\(n2=l.length/\c2=(aD l).map (IV.int .i64))/\Lv l/\K (.vslice none 0 (aI l).length 4 ((aI l).flatMap E5)) h
 |_=>False
def Z3(g:Nat×Heap×IV×Nat):=g.2.2
def Tz:=IV.int .i64
def a5T(x:Nat×Heap×IV):=x.2.2
def b3T(l:Y15):=(aD l).length
def xD(l:Y15):TV:=TV.v (.vslice none 0 l.length 3 (List.flatMap cN l))
def xC(l:Y15)(g:Nat)(i:IV)(j:IV)(m:Int)(r:Int)(u:Prop):Prop:=some (xD l)=some (xD l)/\some (TV.v (.vslice none 0 g 1 (List.map Tz (aD l))))=some (TV.v (.vslice none 0 (b3T l) 1 (List.map Tz (aD l))))/\some (TV.l 6 0)=some (TV.l 6 0)/\some (xD l)=some (xD l)/\tI (l.length:Int)=tI (l.length:Int)/\some
 (TV.v i)=some (TV.v j)/\tI m=tI r/\u
def K9(l:Y15)(g:Nat×Heap×IV):Prop:=g.1<=l.length/\OvS g.2.1 g.2.2 (Br l g.1)
def Hc(l:Y15)(x:Nat×Heap×IV):Prop:= ∃(g:Nat×Heap×IV),xC l (b3T l) (a5T x) g.2.2 (wW ((x.1:Int)+1)) (g.1:Int) (some (Keep.sbC l x.1)=some (Keep.sbC l g.1)/\x.2.1=g.2.1/\(K9 l g)/\l.length-g.1<l.length-x.1)
def cD(l:Y15)(g:Nat×Heap×IV×Nat):Nd:=List.getD l g.1 default
def Hf(l:Y15)(i:IV)(j:Int)(m:Int)(r:Y14)(z:Int)(A:Int)(u:Y14)(y:Nat×Heap×IV×Nat->Prop):Prop:= ∃(g:Nat×Heap×IV×Nat),xC l (b3T l) i g.2.2.1 j (g.1:Int) (some (TV.l 8 0)=some (TV.l 8 0)/\tI m=tI (g.2.2.2:Int)/\some r=some (Keep.sbC l (g.1+1))/\some u=some [iI (Nd.op (cD l g)),iI (Nd.im (cD l g)),IV.vslice none
 0 ((Nd.ks (cD l g)).length) 1 (List.map Tz (Nd.ks (cD l g)))]/\y g)
def Hd(l:Y15)(g:Nat×Heap×IV×Nat):Prop:=(g.1<l.length/\List.getD (aD l) g.1 0=3/\vK l g.1 (Nd.im (cD l g))=false)/\(1<=g.2.2.2/\g.2.2.2<=List.length (Nd.ks (cD l g))/ (2:Nat))/\OvS g.2.1 g.2.2.1 (Br l g.1++C9 (cD l g) g.2.2.2)
theorem f7T(l:Y15)(K L:Nat)(h:Heap)(Q:KT):dF (aU b5E) env 54 cC (zE 5 (e8J l) (mJ 1000010 (f4X l))) bD [.vslice none K (l).length 3 ((l).flatMap cN),.vslice none L l.length 1 ((aD l).map (IV.int .i64))] h Q=(
 aF (aQ [IV.vslice none 0 l.length 3 (List.flatMap cN l),IV.vslice none 0 l.length 1 (List.map Tz (aD l))]) ((∃(x:Nat×Heap×IV),xC l l.length IV.nilslice (a5T x) 0 (x.1:Int) (some [IV.bool false,IV.bool false,IV.bool false,IV.bool false,IV.bool false,IV.bool false,IV.bool false,IV.bool false,IV.bool false,IV.bool false,IV.bool false,IV.bool false,IV.bool false,IV.bool false,IV.bool false,IV.bool false]=some (Keep.sbC l x.1)/\Heap.mk PT.nil 0=x.2.1/\(K9 l x)/\True))/\∀(x:Nat×Heap×IV)(b:FF),x.1<=l.length/\OvS x.2.1 (a5T x) (Br l x.1)->aK (decide ((x.1:Int)< (l.length:Int))) (aF (pQ x.1 (l.length:Int)) (aN .i64 (List.flatMap cN l) ((x.1:Int).toNat*3) λA=>aN .i64 (List.flatMap cN l) ((x.1:Int).toNat*3+1) λm=>bM 1 (List.flatMap cN l) ((x.1:Int).toNat*3+1+1) λT O X G=>aF (pQ x.1 ((b3T l):Int)) (aN .i64 (List.map Tz (aD l)) ((x.1:Int).toNat*1) λY=>aK (Y !=3) (Hc l x) (aF (decide (0<=m) &&decide (m<16)) (kQ (Keep.sbC l x.1) ((0:Nat)+m.toNat*1) λD=>aK D (Hc l x) (aF (decide (0<=m) &&decide (m<16)) (aF (Nat.ble ((0:Nat)+m.toNat*1+1) ((Keep.sbC l x.1).length)) (∃(M:Nat),(Hf l (a5T x) ((x.1):Int) 1 (List.take ((0:Nat)+m.toNat*1) (Keep.sbC l x.1)++ [IV.bool true]++List.drop ((0:Nat)+m.toNat*1+1) (Keep.sbC l x.1)) A m [iI A,iI m,IV.vslice T O X 1 G] (λg=>x.2.1=g.2.1/\(Hd l g)/\(l.length-g.1)*100+((50:Nat)- (Z3 g).2)<=M))/\∀(g:Nat×Heap×IV×Nat)(b:FF),(g.1<l.length/\List.getD (aD l) g.1 0=3/\vK l g.1 (Nd.im (cD l g))=false)/\(1<=Prod.snd (Z3 g)/\Prod.snd (Z3 g)<=List.length (Nd.ks (cD l g))/ (2:Nat))/\OvS g.2.1 ((Z3 g).1) (Br l g.1++C9 (cD l g) ((Z3 g).2))->(l.length-g.1)*100+((50:Nat)- (Z3 g).2)<=M->(1<=(↑((Nd.ks (cD l g)).length):Int)/\(↑((Nd.ks (cD l g)).length):Int)<=1000000)/\aK (decide ((↑((Z3 g).2):Int)< ((↑((Nd.ks (cD l g)).length):Int)-1)/ (2:Int))) (∃(ks:Y12)(j:Nat),((Nd.ks (cD l g)).length=ks.length/\List.map Tz (Nd.ks (cD l g))=List.map Tz ks/\(↑((Z3 g).2):Int)=(j:Int))/\(ks.length% (2:Nat)=1/\3<=ks.length/\ks.length<=41/\j<ks.length/ (2:Nat)/\0<=Nd.im (cD l g)/\Nd.im (cD l g)<=15)/\dX g.2.1 4 32 ((Z3 g).1) 1 [iI ((16:Int)*Nd.im (cD l g)+(j:Int)),iI (List.getD ks j 0),iI (List.getD ks ((ks.length-1)/ (2:Nat)+1+j) 0),iI (List.getD ks ((ks.length-1)/ (2:Nat)) 0)] λV R z u y=>Hf l (IV.vslice (some V) R z 4 u) (g.1:Int) (wW ((↑((Z3 g).2):Int)+1)) (Keep.sbC l (g.1+1)) (Nd.op (cD l g)) (Nd.im (cD l g)) [iI (Nd.op (cD l g)),iI (Nd.im (cD l g)),IV.vslice none 0 ((Nd.ks (cD l g)).length) 1 (List.map Tz (Nd.ks (cD l g)))] (λr=>y=r.2.1/\(Hd l r)/\(l.length-r.1)*100+((50:Nat)-r.2.2.2)< (l.length-g.1)*100+((50:Nat)- (Z3 g).2))) (∃(i:Nat×Heap×IV),xC l (b3T l) ((Z3 g).1) i.2.2 (wW ((g.1:Int)+1)) ((i.1):Int) (some (Keep.sbC l (g.1+1))=some (Keep.sbC l i.1)/\g.2.1=i.2.1/\(K9 l i)/\l.length-i.1<l.length-x.1)))))))))) (aF (aQ [mV Proofs.Tryz.prog 104 (a5T x)]) (Q (eF [mV Proofs.Tryz.prog 104 (a5T x)]) h)))):=by kernel_rfl
theorem f6A: ∀xs h Q,d9Y xs h Q->aM env 54 xs h Q:=by
 intro xs h Q hk;unfold d9Y at hk;split at hk
 .rename_i e1 n1 c1 e2 n2 c2;obtain⟨l,⟨rfl,rfl⟩,⟨rfl,rfl⟩,hw,hk⟩:=hk;refine aL (c1H) (f7T l e1 e2 h Q) ?_;delta Tz xD b3T xC a5T K9 pQ Hc cD Hf Hd Z3 tI wW iI; (try dsimp -iota -proj only);have tn: ∀x:Nat,(x:Int).toNat=x:=AK
  obtain⟨a8,O⟩:=(show Lv l from hw);have a3:=bA l;refine aA (by simp only [aQ,aY,bX,bL,AN]) ⟨⟨(0,Heap.empty,.nilslice),KD,(by rw [a3]),KD,KD,KD,KD,KD,KD,KD,⟨AR _,.inl ⟨rfl,rfl⟩⟩,trivial⟩,?_⟩;rintro⟨i,g,ov⟩ _ ⟨hi,y⟩;dsimp only at hi y⊢;refine cV (λc=>?_) (λc=>?_)
  .have u:i<l.length:=JZ;have hs:i< (aD l).length:=JZ;have X:l.getD i default=l[i]:=bO u;have hm:l[i].ks.length<=41:=O _ (AG u);have V:some (TV.v (IV.int IntKind.i64 (IntKind.i64.wrap ((i:Int)+1))))=some (TV.v (IV.int IntKind.i64 ((i+1:Nat):Int))):=by rw [AA _ JZ];rfl
   refine aP ⟨JZ,JZ⟩ (uM u (by rw [tn]) (aP ⟨JZ,JZ⟩ (fD hs (by rw [tn,AM]) ?_)));refine aB (λL=>?_) (λL=>?_)
   .rw [bne_iff_ne]at L;have T: ¬ ((aD l).getD i 0=3/\vK l i (l.getD i default).im=false):=λq=>L (by rw [<-q.1,bO hs])
    exact⟨(i+1,g,ov),KD,KD,KD,KD,KD,KD,V,(by rw [Yd T]),KD,⟨u,by rw [(wR T).2];exact y⟩,KE⟩
   .rw [bne_eq_false_iff_eq]at L;have h3:(aD l).getD i 0=3:=by rw [bO hs];exact L
    have R:=gJ h3;have a0:=R.im;have a2:=R.odd;rw [X]at a0 a2;have hv:(l.getD i default).im=((l[i].im.toNat:Nat):Int):=by rw [X];omega
    have D:l[i].im.toNat<16:=JZ;refine aP ⟨JZ,JZ⟩ (kS (by rw [AY,AM];exact X7 D) (aB (λY=>?_) (λY=>?_)))
    .have T: ¬ ((aD l).getD i 0=3/\vK l i (l.getD i default).im=false):=λq=>by rw [hv,Y]at q;cases q.2
     exact⟨(i+1,g,ov),KD,KD,KD,KD,KD,KD,V,(by rw [Yd T]),KD,⟨u,by rw [(wR T).2];exact y⟩,KE⟩
    .have Z:vK l i (l.getD i default).im=false:=by rw [hv];exact Y
     refine aP ⟨JZ,JZ⟩ (aA (by rw [BB,Sv];omega) ⟨(l.length-i)*100+49,⟨(i,g,ov,1),KD,KD,KD,KD,KD,KD,KD,KD,KD,(by rw [AY,AM,d0Y h3 hv D]),(by dsimp only;rw [X]),KD,⟨⟨u,h3,Z⟩,⟨AF _,by dsimp only;rw [X];omega⟩,(CZ _).symm▸y⟩,KE⟩,?_⟩);rintro⟨G,g2,a4,j⟩ _ ⟨⟨m,z,K⟩,⟨j1,j2⟩,r⟩ hM;dsimp only at m z K j1 j2 r hM⊢;have A:=gJ z;have a6:=A.odd;have a5:=A.im;have a7:(l.getD G default).ks.length<=41:=by rw [bO m];exact O _ (AG m)
     refine⟨JZ,cV (λcj=>?_) (λcj=>?_)⟩
     .refine⟨(l.getD G default).ks,j,⟨rfl,rfl,rfl⟩,⟨JZ,JZ,JZ,JZ,JZ,JZ⟩,r.app (x:=aX (l.getD G default) j) rfl ?_ (λid e n c g3 ho=>⟨(G,g3,.vslice (some id) e n 4 c,j+1),KD,KD,KD,KD,KD,KD,KD,KD,(by rw [AA _ JZ];rfl),KD,KD,KD,⟨⟨m,z,K⟩,⟨KE,KE⟩,by dsimp only;rw [Ns j1,<-List.append_assoc];exact ho⟩,KE⟩)⟩;have b1:=a3Q l G;have b2:(C9 (l.getD G default) j).length=j-1:=by unfold C9;rw [AX,EK]
      rw [AI,b2];omega
     .have a1:j=(l.getD G default).ks.length/2:=JZ;subst a1;rw [<-Wm ⟨z,K⟩]at r;exact⟨(G+1,g2,a4),KD,KD,KD,KD,KD,KD,(by rw [AA _ JZ];rfl),KD,KD,⟨m,r⟩,KE⟩
  .obtain rfl:i=l.length:=JZ;rcases y with⟨rfl,e⟩| ⟨io,rfl,_⟩
   .rw [show mV Go.Proofs.Tryz.prog 104 .nilslice= .vslice none 0 0 4 [] by kernel_rfl];refine aA rfl ?_;have e2:aI l=[]:=e;rw [e2]at hk;exact hk
   .rw [e1F];refine aA ?_ hk;simp only [aQ,aY,AN];exact Oq _
 .exact hk.elim
def d7Y:=aV 54 d9Y b5E
theorem d5K:aS env d7Y:=aE f6A (c1H)
def b9V(xs:Y14)(h:Heap)(K:KT):Prop:=match xs with
 | [.int .i64 n,.bool s]=>aZ n/\K (.tuple [eI (Tb n s).1,.bool (Tb n s).2]) h
 |_=>False
theorem f3O(n:Int)(s:Bool)(h:Heap)(Q:KT):dF (aU d7Y) env 110 cC bD bD [.int .i64 n,.bool s] h Q=(
 aK s (aK (n==(-9223372036854775808:Int)) (Q (.tuple [.agg [.int .i64 0,iI 0],IV.bool false]) h) (aK s (Q (.tuple [.agg [.int .i64 (-9223372036854775808),iI (wW (n-1))],IV.bool true]) h) (Q (.tuple [.agg [.int .i64 (-9223372036854775808),iI n],IV.bool true]) h))) (aK s (Q (.tuple [.agg [.int .i64 (-9223372036854775808),iI (wW (n-1))],IV.bool true]) h) (Q (.tuple [.agg [.int .i64 (-9223372036854775808),iI n],IV.bool true]) h))):=by kernel_rfl
theorem f0Z: ∀xs h Q,b9V xs h Q->aM env 110 xs h Q:=by
 intro xs h Q hk;unfold b9V at hk;split at hk
 .rename_i n s;obtain⟨g,hk⟩:=hk;refine aL (d5K) (f3O n s h Q) ?_;delta wW iI
  cases s
  .exact aB (λc=>by cases c) (λ_=>aB (λc=>by cases c) (λ_=>bN hk (by simp [Tb,eI];try rfl)))
  .refine aB (λ_=>aB (λc=>?_) (λc=>aB (λ_=>?_) (λc=>by cases c))) (λc=>by cases c)
   .rw [beq_iff_eq]at c;subst c;exact hk
   .rw [beq_eq_false_iff_ne]at c;unfold Tb at hk;rw [if_neg (λq=>c q.2)]at hk;have:=g;unfold aZ at this;refine bN hk ?_;rw [AA _ JZ];rfl
 .exact hk.elim
def b6T:=aV 110 b9V d7Y
theorem c2L:aS env b6T:=aE f0Z (d5K)
def b8D(xs:Y14)(h:Heap)(K:KT):Prop:=match xs with
 | [.int .i64 n,.bool s]=>aZ n/\K (.tuple [eI (Qo n s).1,.bool (Qo n s).2]) h
 |_=>False
theorem f1Z(n:Int)(s:Bool)(h:Heap)(Q:KT):dF (aU b6T) env 111 cC bD bD [.int .i64 n,.bool s] h Q=(
 aK s (aK (n==9223372036854775807) (Q (.tuple [.agg [.int .i64 0,iI 0],IV.bool false]) h) (aK s (Q (.tuple [.agg [.int .i64 (wW (n+1)),iI 9223372036854775807],IV.bool true]) h) (Q (.tuple [.agg [.int .i64 n,iI 9223372036854775807],IV.bool true]) h))) (aK s (Q (.tuple [.agg [.int .i64 (wW (n+1)),iI 9223372036854775807],IV.bool true]) h) (Q (.tuple [.agg [.int .i64 n,iI 9223372036854775807],IV.bool true]) h))):=by kernel_rfl
theorem e9J: ∀xs h Q,b8D xs h Q->aM env 111 xs h Q:=by
 intro xs h Q hk;unfold b8D at hk;split at hk
 .rename_i n s;obtain⟨g,hk⟩:=hk;refine aL (c2L) (f1Z n s h Q) ?_;delta wW iI
  cases s
  .exact aB (λc=>by cases c) (λ_=>aB (λc=>by cases c) (λ_=>bN hk (by simp [Qo,eI];try rfl)))
  .refine aB (λ_=>aB (λc=>?_) (λc=>aB (λ_=>?_) (λc=>by cases c))) (λc=>by cases c)
   .rw [beq_iff_eq]at c;subst c;exact hk
   .rw [beq_eq_false_iff_ne]at c;unfold Qo at hk;rw [if_neg (λq=>c q.2)]at hk;have:=g;unfold aZ at this;refine bN hk ?_;rw [AA _ JZ];rfl
 .exact hk.elim
def b4Y:=aV 111 b8D b6T
theorem c1B:aS env b4Y:=aE e9J (c2L)
def d9V(xs:Y14)(h:Heap)(K:KT):Prop:=match xs with
 | [.agg [.int .i64 a,.int .i64 b],.agg [.int .i64 c,.int .i64 d]]=>K (.bool (decide (c<=a) &&decide (b<=d))) h
 |_=>False
theorem f7Q(a b c d:Int)(h:Heap)(Q:KT):dF (aU b4Y) env 59 cC bD bD [.agg [.int .i64 a,.int .i64 b],.agg [.int .i64 c,.int .i64 d]] h Q=(
 aK (decide (a>=c)) (Q (.bool (decide (b<=d))) h) (Q (.bool false) h)):=by kernel_rfl
theorem f5X: ∀xs h Q,d9V xs h Q->aM env 59 xs h Q:=by
 intro xs h Q hk;unfold d9V at hk;split at hk
 .rename_i a b c d;refine aL (c1B) (f7Q a b c d h Q) ?_;refine cV (λg=>bN hk (by rw [decide_eq_true (show c<=a from g),BD])) (λg=>bN hk (by rw [decide_eq_false (show¬c<=a from g),CN]))
 .exact hk.elim
def d7X:=aV 59 d9V b4Y
theorem d5J:aS env d7X:=aE f5X (c1B)
def b4H(id:Nat)(h g:Heap)(C:List (Int×Iv))(m i:Nat):Prop:=(∃a b c d:IV,h.get id= .cells [a,b,c,d]/\g.get id= .cells [a,b,.map m,d])/\(∃es:List (Int×Iv),g.get m= .map (cM eI es)/\∀k,qY k es=kSI C k)/\(∃es:List (Int×Bool),g.get i= .map (cM IV.bool es)/\∀k,qY k es=if fW C k=true then some true else none)/\(h.next<=m/\h.next<=i/\m≠i/\m<g.next/\i<g.next)/\∀j,j<h.next->j≠id->g.get j=h.get j
def e3T(id:Nat)(C:List (Int×Iv))(g:Nat)(h:Heap):Inv':=dL (Nat×Heap×Nat×Nat) (λx=>[(0,.v (.ptr id 0)),(4,.v (.map x.2.2.2)),(12,.v (.vslice none g C.length 3 (C.flatMap cL))),(13,.v (.int .i64 (C.length:Int))),(14,.v (.int .i64 (x.1:Int)))]) (λ_=>[]) (λx=>x.2.1) (λx=>x.1<=C.length/\b4H id h x.2.1 (C.take x.1) x.2.2.1 x.2.2.2) (λx=>C.length-x.1)
def b9S(xs:Y14)(h:Heap)(K:KT):Prop:=match xs with
 | [.ptr id 0,.vslice none e1 n1 3 c1]=> ∃(C:List (Int×Iv))(a b c d:IV),(n1=C.length/\c1=C.flatMap cL)/\(h.get id= .cells [a,b,c,d]/\id<h.next/\C.length<=1152921504606846976)/\∀(h2:Heap)(m:Nat)(g:List (Int×Iv)),h2.get id= .cells [a,b,.map m,d]->(h2.get m= .map (cM eI g)/\∀k,qY k g=kSI C k)->(h.next<=m/\m<h2.next)->(∀j,j<h.next->j≠id->h2.get j=h.get j)->K (.tuple []) h2
 |_=>False
def Zw(g:Nat×Heap×Nat×Nat):=g.2.2.2
def Bj(g:Nat×Heap×Nat×Nat):=g.2.1
def b3V:=TypeDesc.int .i64
def Mj(g:Nat×Heap×Nat×Nat):=g.2.2
def He(id:Nat)(m:Nat)(C:dW)(i:Nat)(g:Nat×Heap×Nat×Nat)(j:Int)(l:Prop):Prop:=some (TV.v (.ptr id 0))=some (TV.v (.ptr id 0))/\some (TV.v (.map i))=some (TV.v (.map g.2.2.2))/\some (TV.v (.vslice none m C.length 3 (List.flatMap cL C)))=some (TV.v (.vslice none m C.length 3 (List.flatMap cL C)))/\tI (C.length:Int)=tI (C.length:Int)/\tI j=tI (↑g.1
 :Int)/\l
def Ha(C:dW)(h:Heap)(id:Nat)(g:Nat×Heap×Nat×Nat):Prop:=g.1<=C.length/\(∃(j l z m:IV),h.get id=IObj.cells [j,l,z,m]/\Heap.get g.2.1 id=IObj.cells [j,l,IV.map ((Mj g).1),m])/\(∃(r:List (Int×Iv)),g.2.1.get ((Mj g).1)=IObj.map (cM eI r)/\∀ (zb24
 :Int),qY zb24 r=kSI (List.take g.1 C) zb24)/\(∃(u:List (Int×Bool)),g.2.1.get ((Mj g).2)=IObj.map (cM IV.bool u)/\∀(y:Int),qY y u=if fW (List.take g.1 C) y=true then some true else none)/\(h.next<=Prod.fst (Mj g)/\Heap.next
 h<=Prod.snd (Mj g)/\Prod.fst (Mj g)≠Prod.snd (Mj g)/\Prod.fst (Mj g)<g.2.1.next/\Prod.snd (Mj g)<g.2.1.next)/\∀(i:Nat),i<h.next->i≠id->Heap.get g.2.1 i=h.get i
def K7(id:Nat)(i:Nat×Heap×Nat×Nat)(m:Nat)(C:dW)(h:Heap)(j:Heap)(l:List (IV×IV)):Prop:= ∃(g:Nat×Heap×Nat×Nat),He id m C (Zw i) g (wW ((i.1:Int)+1)) (j.set (Zw i) (IObj.map l)=g.2.1/\(Ha C h id g)/\C.length-g.1<C.length-i.1)
def Hb(z:Int)(A:Int)(i:Nat×Heap×Nat×Nat)(id:Nat)(u:Int)(y:Nat)(C:dW)(h:Heap):Prop:=aK (decide (z<=A)) (aT (Bj i) id λl=>Bd l 2 λg=>wK (Bj i) g b3V (iI u) (IV.agg [.int .i64 z,iI A]) λj=>wK ((Bj i).set g (IObj.map j)) (Zw i) b3V (iI u) (IV.bool true) λm=>K7 id i y C h ((Bj i).set g
 (IObj.map j)) m) (wK (Bj i) (Zw i) b3V (iI u) (IV.bool true) λr=>K7 id i y C h (Bj i) r)
theorem f3N(id:Nat)(C:dW)(i:Nat)(h:Heap)(Q:KT):dF (aU d7X) env 56 cC (mJ 4 (e3T id C i h)) bD [.ptr id 0,.vslice none i C.length 3 (C.flatMap cL)] h Q=(
 aT (h.push (IObj.map [])) id λr0=>aF (Nat.ble 3 r0.length) ((∃(g:Nat×Heap×Nat×Nat),He id i C (h.next+1) g 0 (((h.push (IObj.map [])).set id (IObj.cells (List.take 2 r0++ [IV.map (h.next)]++List.drop 3 r0))).push (IObj.map [])=g.2.1/\(Ha C h id g)/\True))/\∀(g:Nat×Heap×Nat×Nat)(b:FF),g.1<=C.length/\b4H id h (Bj g) (List.take g.1 C) g.2.2.1 (Zw g)->aK (decide ((g.1:Int)< (C.length:Int))) (aF (pQ g.1 (C.length:Int)) (aN .i64 (List.flatMap cL C) ((g.1:Int).toNat*3) λl=>aN .i64 (List.flatMap cL C) ((g.1:Int).toNat*3+1) λm=>aN .i64 (List.flatMap cL C) ((g.1:Int).toNat*3+1+1) λr=>kW (Bj g) (Zw g) b3V (iI l) (λy=>kQ y 0 λu=>aK (!u) (Hb m r g id l i C h) (wK (Bj g) (Zw g) b3V (iI l) (IV.bool true) λj=>K7 id g i C h (Bj g) j)) (Hb m r g id l i C h))) (Q (.tuple []) (Bj g)))):=by kernel_rfl
theorem f0U: ∀xs h Q,b9S xs h Q->aM env 56 xs h Q:=by
 intro xs h Q hk;unfold b9S at hk;split at hk
 .rename_i id K V c1;obtain⟨C,a,b,c,d,⟨rfl,rfl⟩,hb,hk⟩:=hk;refine aL (d5J) (f3N id C K h Q) ?_;delta He Mj Ha Bj Zw pQ b3V K7 Hb tI wW iI;have tn: ∀x:Nat,(x:Int).toNat=x:=AK
  obtain⟨A,D,hC⟩:=hb;have a0:(h.push (.map [])).get id= .cells [a,b,c,d]:=(aO D).trans A;refine aC a0 (aA rfl ⟨⟨(0,((h.push (.map [])).set id (.cells [a,b,.map h.next,d])).push (.map []),h.next,h.next+1),KD,KD,KD,KD,KD,KD,⟨AR _,⟨a,b,c,d,A,?_⟩,⟨[],?_,λ_=>rfl⟩,⟨[],?_,λ_=>rfl⟩,⟨AF _,DM _,ET (AQ _),by show h.next<h.next+1+1;omega,by show h.next+1<h.next+1+1;omega⟩,λj hj a1=>?_⟩,trivial⟩,?_⟩)
  .exact(aO (show id<h.next+1 by omega)).trans aH
  .exact(aO (show h.next<h.next+1 by omega)).trans ((aG (DL D)).trans aW)
  .exact aW
  .exact(aO (show j<h.next+1 by omega)).trans ((aG a1).trans (aO hj))
  rintro⟨j,g,m,l⟩ _ ⟨hj,a3⟩;obtain⟨⟨a',b',c',d',K,L⟩,⟨T,Y,O⟩,⟨z,y,R⟩,⟨V,n2,G,n4,n5⟩,Z⟩:=(show b4H id h g (C.take j) m l from a3);obtain⟨rfl,rfl,rfl,rfl⟩:a=a'/\b=b'/\c=c'/\d=d':=by
   rw [A]at K;simpa using K
  dsimp only at hj⊢;refine cV (λcj=>?_) (λcj=>?_)
  .have i:j<C.length:=JZ;have et:C.take (j+1)=C.take j++ [C[j]]:=AO i;have u:some (TV.v (IV.int IntKind.i64 (IntKind.i64.wrap ((j:Int)+1))))=some (TV.v (IV.int IntKind.i64 ((j+1:Nat):Int))):=by rw [AA _ JZ];rfl
   refine aP ⟨JZ,JZ⟩ (aR (by rw [tn];exact gA i 0 KA) (aR (by rw [tn];exact gA i 1 KA) (aR (by rw [tn];exact gA i 2 KA) ?_)));have skip:(fW (C.take j) C[j].1=true\/ ¬C[j].2.1<=C[j].2.2)->b4H id h (g.set l (.map (cM IV.bool (Lt C[j].1 true z)))) (C.take (j+1)) m l:=λq=>by
    rw [et];exact⟨⟨a,b,c,d,A,by rw [aG JZ];exact L⟩,⟨T,by rw [aG G];exact Y,b9R O q⟩,⟨_,aH,zD R⟩,⟨V,n2,G,n4,n5⟩,λq hq r=>(aG JZ).trans (Z q hq r)⟩
   cases hh:fW (C.take j) C[j].1 with
   |true=>
    refine fL y (cX (by rw [R,if_pos hh])) (kS rfl (bf rfl (iT y (rU _ _ _ _) ⟨(j+1,_,m,l),KD,KD,KD,KD,u,KD,⟨i,skip (.inl hh)⟩,KE⟩)))
   |false=>
    refine kX y (fB (by rw [R,if_neg (by rw [hh];decide)])) (cV (λX=>?_) (λX=>?_))
    .refine aC L (mT rfl (iT Y (rU eI C[j].1 C[j].2 T) (iT ((aG G.symm).trans y) (rU _ _ _ _) ⟨(j+1,(g.set m (.map (cM eI (Lt C[j].1 C[j].2 T)))).set l (.map (cM IV.bool (Lt C[j].1 true z))),m,l),KD,KD,KD,KD,u,KD,⟨i,?_⟩,KE⟩)));show b4H id h _ (C.take (j+1)) m l;rw [et];exact⟨⟨a,b,c,d,A,by rw [aG JZ,aG JZ];exact L⟩,⟨_,by rw [aG G];exact aH,b1I O hh X⟩,⟨_,aH,zD R⟩,⟨V,n2,G,n4,n5⟩,λq hq r=>(aG JZ).trans ((aG JZ).trans (Z q hq r))⟩
    .exact iT y (rU _ _ _ _) ⟨(j+1,_,m,l),KD,KD,KD,KD,u,KD,⟨i,skip (.inr X)⟩,KE⟩
  .have a2:C.take j=C:=AJ JZ;rw [a2]at O;exact hk g m T L ⟨Y,O⟩ ⟨V,n4⟩ Z
 .exact hk.elim
def b6Q:=aV 56 b9S d7X
theorem c2K:aS env b6Q:=aE f0U (d5J)
def knS(h:Heap)(m:Nat)(g:Int->Option Iv):Prop:= ∃es:List (Int×Iv),h.get m= .map (cM eI es)/\∀k,qY k es=g k
def unS(h:Heap)(i:IV)(j:Int->Bool):Prop:=(i= .nilmap/\∀k,j k=false) \/ ∃(m:Nat)(g:List (Int×Bool)),i= .map m/\h.get m= .map (cM IV.bool g)/\∀k,j k=(qY k g).getD false
def b8L(xs:Y14)(h:Heap)(K:KT):Prop:=match xs with
 | [.ptr id 0,.int .i64 v]=> ∃(a b l:IV)(j:Nat)(g:Int->Option Iv)(i:Int->Bool),h.get id= .cells [a,b,.map j,l]/\(knS h j g/\unS h l i/\(i v=true->g v=none))/\K (.tuple [eI ((g v).getD aJ),.bool (i v)]) h
 |_=>False
def c4Z:=[iI (-9223372036854775808:Int),iI 9223372036854775807]
def K8(h:Heap)(id:Nat)(v:Int)(Q:KT):=aT h id λi=>Bd i 2 λj=>kW h j (TypeDesc.int .i64) (iI v) (λl=>Sd 2 l 0 λg=>aN .i64 g 0 λm=>aN .i64 g 1 λr=>Q (.tuple [.agg [.int .i64 m,iI r],IV.bool false]) h) (Q (.tuple [.agg c4Z,IV.bool false]) h)
theorem f2H(id:Nat)(v:Int)(h:Heap)(Q:KT):dF (aU b6Q) env 106 cC bD bD [.ptr id 0,.int .i64 v] h Q=(
 aT h id λr0=>Eo r0 3 (K8 h id v Q) λi=>kW h i (TypeDesc.int .i64) (iI v) (λj=>kQ j 0 λg=>aK g (Q (.tuple [.agg c4Z,IV.bool true]) h) (K8 h id v Q)) (K8 h id v Q)):=by kernel_rfl
theorem e9R: ∀xs h Q,b8L xs h Q->aM env 106 xs h Q:=by
 intro xs h Q hk;unfold b8L at hk;split at hk
 .rename_i id v;obtain⟨a,b,mu,V,T,G,g,L,hk⟩:=hk;refine aL (c2K) (f2H id v h Q) ?_;delta c4Z K8 iI; (try dsimp -iota -proj only);obtain⟨⟨es,y,z⟩,R,O⟩:=L;have j:G v=false->kW h V (.int .i64) (.int .i64 v) (λZ=>Sd 2 Z 0 λK=>aN .i64 K 0 λX=>aN .i64 K 1 λY=>Q (.tuple [.agg [.int .i64 X,.int .i64 Y],.bool false]) h) (Q (.tuple [.agg [.int .i64 (-9223372036854775808),.int .i64 9223372036854775807],.bool false]) h):=λu=>by
   rw [u]at hk
   cases e:T v with
   |some r=>
    rw [e]at hk;exact fL y (cX ((z v).trans e)) (Em rfl rfl (aR rfl (aR rfl hk)))
   |none=>
    rw [e]at hk;exact kX y (fB ((z v).trans e)) hk
  refine aC g ?_;rcases R with⟨rfl,u0⟩| ⟨m,i,rfl,A,D⟩
  .exact c0I rfl (aC g (mT rfl (j (u0 v))))
  .refine c0H rfl ?_
   cases e:qY v i with
   |some x=>
    refine fL A (cX e) (kS rfl ?_);have l:G v=x:=by rw [D,e];rfl
    cases x with
    |true=>
     refine bt rfl ?_;rw [l,O l]at hk;exact hk
    |false=>exact bf rfl (aC g (mT rfl (j l)))
   |none=>
    exact kX A (fB e) (aC g (mT rfl (j (by rw [D,e];rfl))))
 .exact hk.elim
def b5F:=aV 106 b8L b6Q
theorem c1I:aS env b5F:=aE e9R (c2K)
abbrev Lu:=Int->Option Iv
abbrev Mo:=Int->Bool
def AzS(h:Heap)(l:Y15)(i:Nat)(j:IV)(g:Lu)(r:Mo):Prop:=Lv l/\(∀n∈l,aZ n.im)/\(knS h i g/\i<h.next)/\(unS h j r/\∀m,j= .map m->m<h.next)/\KOk g/\∀v,r v=true->g v=none
def ivI(id:Nat)(l:Y15)(j:Nat)(m:IV)(g:Lu)(i:Mo)(h:Heap):Inv':=dL (Nat×Heap×Nat×Nat×List Iv×Y13) (λx=>[(0,.v (.ptr id 0)),(4,.v (.hslice x.2.2.1 0 l.length 2)),(5,.v (.hslice x.2.2.2.1 0 l.length 1)),(27,.v (.vslice none 0 (l).length 3 ((l).flatMap cN))),(28,.v (.int .i64 (l.length:Int))),(29,.v (.int .i64 (x.1:Int)))]) (λ_=>[]) (λx=>x.2.1) (λx=>IVg l g i x.1 x.2.1 x.2.2.1 x.2.2.2.1 x.2.2.2.2.1 x.2.2.2.2.2 h/\True) (λx=>l.length-x.1)
def b8H(xs:Y14)(h:Heap)(K:KT):Prop:=match xs with
 | [.ptr id 0]=> ∃(l:Y15)(r:Nat)(u:IV)(m:Lu)(y:Mo),(h.get id= .cells [.vslice none 0 (l).length 3 ((l).flatMap cN),.vslice none 0 (aD l).length 1 ((aD l).map (IV.int .i64)),.map r,u]/\id<h.next)/\AzS h l r u m y/\∀(h2:Heap)(g i:Nat),h2.get g= .cells ((rG l m).flatMap cR)->h2.get i= .cells ((uG l y).map IV.bool)->(h.next<=g/\g<h2.next/\h.next<=i/\i<h2.next/\g≠i)->(∀j,j<h.next->h2.get j=h.get j)->K (.tuple [.hslice g 0 l.length 2,.hslice i 0 l.length 1]) h2
 |_=>False
def c6N:=[iI (-9223372036854775808:Int),iI 9223372036854775807]
def c6O(g i j l m r:Int):=[iI ((jO g i j l m r).1),iI ((jO g i j l m r).2)]
def lM(l:Y15):=l.length
def c6P(ks:Y12)(j:Nat):=(ks.length-1)/ (2:Nat)+1+j
def gS(g:Int)(i:Nat):Bool:=true&&decide (g< (i:Int))
def Ub(g:Nat):=gS 0 g
def nW(g:Nat×Heap×Nat×Nat×List Iv×Y13):Nat×List Iv×Y13:=g.2.2.2
def Lm(x:Nat×Heap×Nat×Nat×List Iv×Y13):=(nW x).1
def d3J(h:Heap):=(h.push IObj.free).push IObj.free
def e6H(l:Y15):=IV.vslice none 0 (lM l) 3 (List.flatMap cN l)
def Hj(g:Nat)(i:Int):Bool:=decide (0<=(g:Int)) && (decide ((g:Int)<=(g:Int)) && (decide ((g:Int)<=9223372036854775807) &&decide (i*(g:Int)<=140737488355328)))
def xF(h:Heap)(g:Nat):Heap:=(d3J h).set (h.next) (IObj.cells (fY ((g:Int).toNat) [iI 0,iI 0]))
def dO(g:Nat×Heap×Nat×Nat×List Iv×Y13):Nat:=g.2.2.1
def Hh(id:Nat)(l:Y15)(L:Lu)(O:Mo)(h:Heap)(i:Nat)(j:Nat)(g:Nat×Heap×Nat×Nat×List Iv×Y13)(m:Nat)(r:Nat)(u:IV)(y:Nat)(z:Int)(A:Heap)(D:Nat)(G:IObj)(K:Prop):Prop:=some (TV.v (.ptr id 0))=some (TV.v (.ptr id 0))/\some (TV.v (.hslice i 0 j 2))=some (TV.v (.hslice (dO g) 0 (lM l) 2))/\some (TV.v (.hslice m 0 r 1))=some (TV.v (.hslice ((nW g).1) 0 (lM l) 1))/\some (TV.v u)=some (TV.v (e6H l))/\tI (y:Int)
 =tI ((lM l):Int)/\tI z=tI (g.1:Int)/\Heap.set A D G=g.2.1/\(IVg l L O g.1 g.2.1 (dO g) ((nW g).1) (((nW g).2).1) (((nW g).2).2) h/\True)/\K
def sU(x:Nat×Heap×Nat×Nat×List Iv×Y13)(g:Nat):Bool:=decide (0<=(x.1:Int)) &&decide ((x.1:Int)< (g:Int))
def sT(x:Nat×Heap×Nat×Nat×List Iv×Y13)(g:Nat)(i:Y14)(j:Y14):IObj:=IObj.cells (List.take ((0:Nat)+(x.1:Int).toNat*g) i++j++List.drop ((0:Nat)+(x.1:Int).toNat*g+g) i)
def eA(x:Nat×Heap×Nat×Nat×List Iv×Y13)(g:Y14):Heap:=x.2.1.set (dO x) (sT x 2 g c6N)
def sS(id:Nat)(x:Nat×Heap×Nat×Nat×List Iv×Y13)(l:Y15)(y:Lu)(z:Mo)(h:Heap)(i:Heap)(j:Nat)(m:Nat)(r:Y14)(u:Y14):Prop:= ∃(g:Nat×Heap×Nat×Nat×List Iv×Y13),Hh id l y z h (dO x) (lM l) g (Lm x) (lM l) (e6H l) (lM l) (wW ((x.1:Int)+1)) i j (sT x m r u) (l.length-g.1<l.length-x.1)
def nV(x:Nat×Heap×Nat×Nat×List Iv×Y13)(l:Y15)(j:Y14)(i:Y14->Prop):Prop:=aF (sU x (lM l)) (aT (eA x j) (dO x) λg=>aF (Nat.ble ((0:Nat)+(x.1:Int).toNat*2+2) g.length) (i g))
def lT(x:Nat×Heap×Nat×Nat×List Iv×Y13)(l:Y15)(g:Y14)(id:Nat)(u:Lu)(y:Mo)(h:Heap)(j:Y14)(m:Y14)(r:Bool):Prop:=aF (sU x (lM l)) (aT ((eA x g).set (dO x) (sT x 2 j m)) (Lm x) λi=>aF (Nat.ble ((0:Nat)+(x.1:Int).toNat*1+1) i.length) (sS id x l u y h ((eA x g).set (dO x) (sT x 2 j m)) (Lm
 x) 1 i [IV.bool r]))
def cP(g:Int)(i:Nat):Bool:=decide (0<=g) &&decide (g< (i:Int))
def xE(ks:Y12)(l:Y15)(g:Nat):Bool:=decide (0<=List.getD ks g 0) &&decide (List.getD ks g 0< ((lM l):Int))
def kA(x:Nat×Heap×Nat×Nat×List Iv×Y13)(r:Y14)(i:Int)(m:Int->Int->Prop):=aT (eA x r) (dO x) λg=>aN .i64 g ((0:Nat)+i.toNat*2) λj=>aN .i64 g ((0:Nat)+i.toNat*2+1) λl=>m j l
def L1(x:Nat×Heap×Nat×Nat×List Iv×Y13)(i:Y14)(l:Y15)(id:Nat)(y:Lu)(z:Mo)(h:Heap)(u:Int)(g:Int×Int):=aT (eA x i) (Lm x) λj=>kQ j ((0:Nat)+u.toNat*1) λm=>nV x l i (λr=>(lT x l i id y z h r [iI g.1,iI g.2] m))
def Yt(u:Int)(i:Nat)(g:Y14)(l:Y15)(x:Nat×Heap×Nat×Nat×List Iv×Y13)(y:Y14)(id:Nat)(kn:Lu)(un:Mo)(h:Heap)(L:Int)(O:Int)(R:Nat)(T:Int->Int->Int->Prop)(V:Int)(X:Bool)(Y:Prop)(Z:Prop):Prop:=aK (u==L) (aF (Ub i) (aN .i64 g 0 λj=>aF (cP j (lM l)) (kA x y j (λz A=>aF (true&&decide (O< (i:Int))) (aN .i64 g R λD=>T z A D))))) (aK (u==V) (aF (Ub i) (aN .i64 g 0 λm=>
 aF (cP m (lM l)) (kA x y m (λG K=>aF (Ub i) (aN .i64 g 0 λr=>aF (cP r (lM l)) (L1 x y l id kn un h r (Bc u G K))))))) (aK X Y Z))
def L2(x:Nat×Heap×Nat×Nat×List Iv×Y13)(D:Y14)(G:Y14)(m:Int)(r:Int)(u:Int)(y:Int)(z:Int)(A:Int)(j:Int)(l:Bool->Prop):=aT ((eA x D).set (dO x) (sT x 2 G (c6O m r u y z A))) (Lm x) λg=>kQ g ((0:Nat)+j.toNat*1) λi=>l i
def Ys(x:Nat×Heap×Nat×Nat×List Iv×Y13)(z:Y14)(A:Y14)(i:Int)(j:Int)(m:Int)(r:Int)(u:Int)(y:Int)(l:Y15)(id:Nat)(V:Lu)(X:Mo)(h:Heap)(T:Nat)(R:Y14)(G:Int)(K:Int)(L:Nat)(O:Bool->Prop):=L2 x z A i j m r u y G (λD=>aK D (lT x l z id V X h A (c6O i j m r u y) true) (aF (true&&decide (K< (T:Int))) (aN .i64 R L λg=>aF (cP g (lM l)) (L2 x z A i j m r u y g (fun
 zb45=>O zb45)))))
theorem f2D(id:Nat)(l:Y15)(mk:Nat)(mu:IV)(u:Lu)(z:Mo)(h:Heap)(Q:KT):dF (aU b5F) env 57 cC (mJ 4 (ivI id l mk mu u z h)) bD [.ptr id 0] h Q=(
 aT (d3J h) id λr0=>bM 3 r0 0 λi1 e2 l3 c4=>aF (Hj l3 16) (Qr (d3J h) (h.next) (aT (xF h l3) id λr5=>bM 3 r5 0 λi6 e7 l8 c9=>aF (!Nat.beq (h.next) id) (aF (Hj l8 1) (Qr (xF h l3) (h.next+1) (aT ((xF h l3).set (h.next+1) (IObj.cells (fY ((l8:Int).toNat) [IV.bool false]))) id λd7=>bM 3 d7 0 λd0 c8 a6 c5=>(∃(x:Nat×Heap×Nat×Nat×List Iv×Y13),Hh id l u z h (h.next) ((l3:Int).toNat) x (h.next+1) ((l8:Int).toNat) (IV.vslice d0 c8 a6 3 c5) a6 0 (xF h l3) (h.next+(1:Nat)) (IObj.cells (fY ((l8:Int).toNat) [IV.bool false])) True)/\∀(x:Nat×Heap×Nat×Nat×List Iv×Y13)(b:FF),IVg l u z x.1 x.2.1 (dO x) (Lm x) (((nW x).2).1) (((nW x).2).2) h/\True->aK (decide ((x.1:Int)< ((lM l):Int))) (aF (sU x (lM l)) (aN .i64 (List.flatMap cN l) ((x.1:Int).toNat*3) λi=>aN .i64 (List.flatMap cN l) ((x.1:Int).toNat*3+1) λy=>bM 1 (List.flatMap cN l) ((x.1:Int).toNat*3+1+1) λf3 e9 r m=>aF (sU x (lM l)) (aT x.2.1 (dO x) λg=>aF (Nat.ble ((0:Nat)+(x.1:Int).toNat*2+2) g.length) (aT (eA x g) id λd8=>bM 1 d8 1 λf4 f0 d1 c6=>aF (sU x d1) (aN .i64 c6 ((x.1:Int).toNat*1) λd4=>aK (d4 !=1) (sS id x l u z h x.2.1 (dO x) 2 g c6N) (aK (i==1) (nV x l g (λd9=>(sS id x l u z h (eA x g) (dO x) 2 d9 [iI y,iI y]))) (aK (i==(3:Int)) (∃(a ba mu:IV)(mk:Nat)(A:Int->Option Iv)(T:Int->Bool),(eA x g).get id=IObj.cells [a,ba,IV.map mk,mu]/\(knS (eA x g) mk A/\unS (eA x g) mu T/\(T y=true->A y=none))/\nV x l g (λe1=>(lT x l g id u z h e1 [iI ((Option.getD (A y) aJ).1),iI ((Option.getD (A y) aJ).2)] (T y)))) (aK (i==25) (aT (eA x g) id λe3=>bM 3 e3 0 λf5 f1 d2 a4=>aF (Ub r) (aN .i64 m 0 λV=>aF (cP V d2) (aN .i64 a4 (V.toNat*3) λf7=>aN .i64 a4 (V.toNat*3+1) λa7=>bM 1 a4 (V.toNat*3+1+1) λf6 f2 d3 c7=> ∃(ks:Y12)(j:Nat),(d3=ks.length/\c7=List.map (IV.int .i64) ks/\y=(j:Int))/\(ks.length% (2:Nat)=1/\3<=List.length ks/\ks.length<=41/\j<ks.length/ (2:Nat)/\0<=a7/\a7<=15)/\aF (xE ks l j) (kA x g (List.getD ks j 0) (λa8 a9=>aF (xE ks l (c6P ks j)) (kA x g (List.getD ks (c6P ks j) 0) (λb0 b1=>aF (xE ks l j) (aT (eA x g) (Lm x) λe4=>kQ e4 ((0:Nat)+(List.getD ks j 0).toNat*1) λc0=>aK c0 (nV x l g (λe5=>(lT x l g id u z h e5 [iI (min a8 b0),iI (max a9 b1)] true))) (aF (xE ks l (c6P ks j)) (aT (eA x g) (Lm x) λe6=>kQ e6 ((0:Nat)+(List.getD ks (c6P ks j) 0).toNat*1) λc1=>nV x l g (λe8=>(lT x l g id u z h e8 [iI (min a8 b0),iI (max a9 b1)] c1)))))))))))) (Yt i r m l x g id u z h 22 1 1 (λX Y b2=>aF (cP b2 (lM l)) (kA x g b2 (λZ a0=>aF (gS 2 r) (aN .i64 m 2 λb3=>aF (cP b3 (lM l)) (kA x g b3 (λa1 a2=>nV x l g (λa3=>(aF (Ub r) (aN .i64 m 0 λb4=>aF (cP b4 (lM l)) (Ys x g a3 X Y Z a0 a1 a2 l id u z h r m b4 1 1 (λc2=>aK c2 (lT x l g id u z h a3 (c6O X Y Z a0 a1 a2) true) (aF (gS 2 r) (aN .i64 m 2 λb5=>aF (cP b5 (lM l)) (L2 x g a3 X Y Z a0 a1 a2 b5 (λc3=>lT x l g id u z h a3 (c6O X Y Z a0 a1 a2) c3))))))))))))))) 20 (i==21) (aF (Ub r) (aN .i64 m 0 λb6=>aF (cP b6 (lM l)) (kA x g b6 (λd5 d6=>aF (Ub r) (aN .i64 m 0 λb7=>aF (cP b7 (lM l)) (L1 x g l id u z h b7 (Bc i d5 d6))))))) (aK (decide (i>=4)) (aK (decide (i<=19)) (aF (Ub r) (aN .i64 m 0 λD=>aF (gS 1 r) (aN .i64 m 1 λG=>aF (cP D (lM l)) (kA x g D (λK L=>aF (cP G (lM l)) (kA x g G (λO R=>((aZ K/\aZ L)/\aZ O/\aZ R)/\aF (cP D (lM l)) (aT (eA x g) (Lm x) λb8=>kQ b8 ((0:Nat)+D.toNat*1) λa5=>aK a5 (nV x l g (λb9=>(lT x l g id u z h b9 [iI ((mI i K L O R).1),iI ((mI i K L O R).2)] true))) (aF (cP G (lM l)) (L1 x g l id u z h G (mI i K L O R))))))))))) (sS id x l u z h x.2.1 (dO x) 2 g c6N)) (sS id x l u z h x.2.1 (dO x) 2 g c6N))))))))))) (Q (.tuple [.hslice (dO x) 0 (lM l) 2,IV.hslice (Lm x) 0 (lM l) 1]) x.2.1))))))):=by kernel_rfl
theorem e9N: ∀xs h Q,b8H xs h Q->aM env 57 xs h Q:=by
 intro xs h Q hk;unfold b8H at hk;split at hk
 .rename_i id;obtain⟨l,mk,mu,T,un,hb,hw,hk⟩:=hk;refine aL (c1I) (f2D id l mk mu T un h Q) ?_;delta d3J Hj xF dO lM nW e6H Hh Lm sU sT c6N eA sS nV lT gS Ub cP xE kA c6P L1 Yt c6O L2 Ys tI wW iI; (try dsimp -iota -proj only);have tn: ∀x:Nat,(x:Int).toNat=x:=AK
  obtain⟨hg,b3⟩:=hb;obtain⟨hL,e5,⟨e6,f6⟩,⟨g0,f7⟩,d9,d6⟩:=(show AzS h l mk mu T un from hw);obtain⟨hl,e8⟩:=(show Lv l from hL);have p1:((h.push .free).push .free).get id=h.get id:=by rw [aO (show id< (h.push .free).next from BO b3),aO b3]
  have p2:((h.push .free).push .free).get h.next= .free:=by rw [aO (show h.next< (h.push .free).next from AQ _),aW]
  have p3:((h.push .free).push .free).get (h.next+1)= .free:=aW;have p4: ∀j,j<h.next->((h.push .free).push .free).get j=h.get j:=λj hj=>by rw [aO (show j< (h.push .free).next from BO hj),aO hj]
  have m1:h.next≠id:=DL b3;have m2:h.next+1≠id:=JZ;have m3:h.next≠h.next+1:=JZ;have r: ∀{p:Prop}[Decidable p]{A:Prop},p->A->aF (true&&decide p) A:=λh a=>aA (by rw [decide_eq_true h];rfl) a
  refine aC (p1.trans hg) (lP rfl (aA (by simp;omega) (lB p2 (aC ((aG m1.symm).trans (p1.trans hg)) (lP rfl (aA (by rw [Ev.2 m1];rfl) (aA (by simp;omega) (lB ((aG m3.symm).trans p3) (aC ((aG m2.symm).trans ((aG m1.symm).trans (p1.trans hg))) (lP rfl ⟨⟨(0,(((h.push .free).push .free).set h.next (.cells (fY l.length [.int .i64 0,.int .i64 0]))).set (h.next+1) (.cells (fY l.length [.bool false])),h.next,h.next+1,List.replicate l.length (0,0),List.replicate l.length false),KD,(by rw [tn]),(by rw [tn]),KD,KD,KD,(by rw [tn]),⟨⟨⟨AR _,KB,KB,rfl,rfl,λq _=>?_⟩,⟨?_,?_⟩,⟨AF _,DM _,m3,by show h.next<h.next+1+1;omega,by show h.next+1<h.next+1+1;omega⟩,λj hj=>?_⟩,trivial⟩,trivial⟩,?_⟩))))))))))
  .rw [AH,IU];split<;>rfl
  .dsimp only;rw [aG m3,aH,d0C]
  .dsimp only;rw [aH,a4B]
  .dsimp only;rw [aG JZ,aG JZ];exact p4 j hj
  rintro⟨i,g,G,L,R,U⟩ _ ⟨hv,_⟩;dsimp only at hv⊢;have g2:=hv;obtain⟨⟨hi,b6,b8,b7,d2,e4⟩,⟨c9,d0⟩,⟨c1,c2,c3,c4,c5⟩,fr⟩:=g2;refine cV (λc=>?_) (λc=>?_)
  case refine_2=>
   obtain rfl:i=l.length:=JZ;have a1:R=rG l T:=by rw [AJ JZ]at b7;exact b7
   have a2:U=uG l un:=by rw [AJ JZ]at d2;exact d2
   exact hk g G L (by rw [<-a1];exact c9) (by rw [<-a2];exact d0) ⟨c1,c4,c2,c5,c3⟩ fr
  have a8:i<l.length:=JZ;have D:0<=(i:Int)/\(i:Int)<l.length:=⟨JZ,JZ⟩;have V:l.length- (i+1)<l.length-i:=JZ;have g5:=bA l;have hs:i< (aD l).length:=JZ;have Z:some (TV.v (IV.int IntKind.i64 (IntKind.i64.wrap ((i:Int)+1))))=some (TV.v (IV.int IntKind.i64 ((i+1:Nat):Int))):=by rw [AA _ JZ];rfl
  refine aP D (uM a8 (by rw [tn]) (aP D (aC c9 (aA (by rw [BB,Uw,tn];omega) ?_))));have e0:List.take (0+(i:Int).toNat*2) (R.flatMap cR)++ [IV.int .i64 (-9223372036854775808),IV.int .i64 9223372036854775807]++List.drop (0+(i:Int).toNat*2+2) (R.flatMap cR)=(R.set i aJ).flatMap cR:=by rw [tn,AY];exact e3U JZ
  rw [e0];generalize hg1:g.set G (IObj.cells ((R.set i aJ).flatMap cR))=g1;have kR:g1.get G= .cells ((R.set i aJ).flatMap cR):=by rw [<-hg1];exact aH
  have kU:g1.get L= .cells (U.map IV.bool):=by rw [<-hg1,aG (Ne.symm c3)];exact d0
  have kj: ∀j,j<h.next->g1.get j=h.get j:=λj hj=>by rw [<-hg1,aG JZ];exact fr j hj
  have b1:=(kj id b3).trans hg;have c6:g1.next=g.next:=by rw [<-hg1];rfl
  have a0: ∀{X:Y14},(g1.set G (.cells X)).get L= .cells (U.map IV.bool):=λ{X} =>(aG (Ne.symm c3)).trans kU
  have a6:Nat.ble (0+(i:Int).toNat*2+2) ((R.set i aJ).flatMap cR).length=true:=by rw [BB,Uw,CM,tn];omega
  have a4:Nat.ble (0+(i:Int).toNat*1+1) (U.map IV.bool).length=true:=by rw [BB,AX,tn];omega
  have a3: ∀a b:Int,List.take (0+i*2) ((R.set i aJ).flatMap cR)++ [IV.int .i64 a,IV.int .i64 b]++List.drop (0+i*2+2) ((R.set i aJ).flatMap cR)=(R.set i (a,b)).flatMap cR:=λa b=>by rw [AY,e3U (by rw [CM];omega),List.set_set]
  have a5: ∀b:Bool,List.take (0+i*1) (U.map IV.bool)++ [IV.bool b]++List.drop (0+i*1+1) (U.map IV.bool)=(U.set i b).map IV.bool:=λb=>by rw [AY,AM];exact e3S JZ
  have d1:U.set i false=U:=b2U JZ (e4 i (AF _));have d8: ∀(X Y:IObj) j,j≠G->j≠L->((g1.set G X).set L Y).get j=g.get j:=λX Y j a b=>by rw [aG b,aG a,<-hg1,aG a]
  have O: ∀(a b:Int)(u:Bool),(a,b)=nR l ((aD l).getD i 0) T (R.set i aJ) l[i]->u=rE l ((aD l).getD i 0) un U l[i]->IVg l T un (i+1) ((g1.set G (.cells ((R.set i (a,b)).flatMap cR))).set L (.cells ((U.set i u).map IV.bool))) G L (R.set i (a,b)) (U.set i u) h:=λa b u er eu=>
   hv.step a8 ((aG c3).trans aH) aH rfl rfl er eu c6 (d8 _ _)
  have c8: ∀(a b:Int),(a,b)=nR l ((aD l).getD i 0) T (R.set i aJ) l[i]->false=rE l ((aD l).getD i 0) un U l[i]->IVg l T un (i+1) (g1.set G (.cells ((R.set i (a,b)).flatMap cR))) G L (R.set i (a,b)) U h:=λa b er eu=>
   hv.step a8 aH ((aG (Ne.symm c3)).trans kU) rfl d1.symm er eu c6 (λj x y=>by rw [aG x,<-hg1,aG x])
  have b0:aJ=nR l ((aD l).getD i 0) T (R.set i aJ) l[i]->false=rE l ((aD l).getD i 0) un U l[i]->IVg l T un (i+1) g1 G L (R.set i aJ) U h:=λer eu=>
   hv.step a8 kR kU rfl d1.symm er eu c6 (λj x y=>by rw [<-hg1,aG x])
  refine aC b1 (lP rfl (aP ⟨JZ,JZ⟩ (fD hs (by rw [tn,AM]) (aB (λc1=>?_) (λc1=>?_)))))
  .rw [bne_iff_ne]at c1;have a7:(aD l).getD i 0≠1:=by rw [bO hs];exact c1
   exact⟨(i+1,g1,G,L,R.set i aJ,U),KD,KD,KD,KD,KD,Z,KD,⟨b0 (by unfold nR;rw [if_pos a7]) (by unfold rE;rw [if_pos a7]),trivial⟩,V⟩
  rw [bne_eq_false_iff_eq]at c1;have a7:(aD l).getD i 0=1:=by rw [bO hs];exact c1
  obtain⟨v1,v2⟩:=mY a8 a7;have g4:=a4T a8 a7;have hr:nR l ((aD l).getD i 0) T (R.set i aJ) l[i]=if l[i].op=3 then(T l[i].im).getD aJ else if l[i].op=25 then Vn (gR (R.set i aJ) (aX (mP l l[i]) l[i].im.toNat).f) (gR (R.set i aJ) (aX (mP l l[i]) l[i].im.toNat).n)else Bb (R.set i aJ) l[i]:=by
   unfold nR
   rw [if_neg (λq=>q a7)]
  have hu:rE l ((aD l).getD i 0) un U l[i]=if l[i].op=3 then un l[i].im else if l[i].op=25 then(gU U (aX (mP l l[i]) l[i].im.toNat).f||gU U (aX (mP l l[i]) l[i].im.toNat).n)else(decide (4<=l[i].op/\l[i].op<=22) &&l[i].ks.any (gU U)):=by
   unfold rE
   rw [if_neg (λq=>q a7)]
  have kq: ∀j,j<l[i].ks.length->0<=l[i].ks.getD j 0/\l[i].ks.getD j 0< (l.length:Int):=λj hj=>by
   have:=v1 _ (V1 (z:=0) hj);exact⟨this.1,JZ⟩
  have kr: ∀j,j<l[i].ks.length->0<=l[i].ks.getD j 0/\l[i].ks.getD j 0< ((R.set i aJ).length:Int):=λj hj=>by
   rw [CM,b6];exact kq j hj
  have ku: ∀j,j<l[i].ks.length->0<=l[i].ks.getD j 0/\l[i].ks.getD j 0< (U.length:Int):=λj hj=>by
   rw [b8];exact kq j hj
  by_cases o1:l[i].op=1
  .have e1:(l[i].im,l[i].im)=nR l ((aD l).getD i 0) T (R.set i aJ) l[i]:=by
    rw [hr,if_neg JZ,if_neg JZ];unfold Bb
    rw [if_pos o1]
   have e2:false=rE l ((aD l).getD i 0) un U l[i]:=by
    rw [hu,if_neg JZ,if_neg JZ,decide_eq_false JZ];rfl
   rw [beq_iff_eq.2 o1];exact bt rfl (aP D (aC kR (aA a6 ⟨(i+1,g1.set G (.cells ((R.set i (l[i].im,l[i].im)).flatMap cR)),G,L,R.set i (l[i].im,l[i].im),U),KD,KD,KD,KD,KD,Z,(by rw [tn,a3]),⟨c8 _ _ e1 e2,trivial⟩,V⟩)))
  refine bf (beq_eq_false_iff_ne.2 o1) ?_
  by_cases o3:l[i].op=3
  .have e1:((T l[i].im).getD aJ).1=((T l[i].im).getD aJ).1:=rfl;have e2:(((T l[i].im).getD aJ).1,((T l[i].im).getD aJ).2)=nR l ((aD l).getD i 0) T (R.set i aJ) l[i]:=by
    rw [hr,if_pos o3]
   have e3:un l[i].im=rE l ((aD l).getD i 0) un U l[i]:=by
    rw [hu,if_pos o3]
   obtain⟨es,s1,s2⟩:=e6;refine bt (beq_iff_eq.2 o3) ⟨_,_,mu,mk,T,un,b1,⟨⟨es,(kj mk f6).trans s1,s2⟩,?_,d6 _⟩,aP D (aC kR (aA a6 (aP D (aC a0 (aA a4 ⟨(i+1,(g1.set G (.cells ((R.set i (((T l[i].im).getD aJ).1,((T l[i].im).getD aJ).2)).flatMap cR))).set L (.cells ((U.set i (un l[i].im)).map IV.bool)),G,L,R.set i (((T l[i].im).getD aJ).1,((T l[i].im).getD aJ).2),U.set i (un l[i].im)),KD,KD,KD,KD,KD,Z,(by rw [tn,a3,a5]),⟨O _ _ _ e2 e3,trivial⟩,V⟩)))))⟩;rcases g0 with q| ⟨m,d7,q1,q2,q3⟩
   .exact .inl q
   .exact .inr ⟨m,d7,q1,(kj m (f7 m q1)).trans q2,q3⟩
  refine bf (beq_eq_false_iff_ne.2 o3) ?_
  by_cases o25:l[i].op=25
  .rcases v2 with⟨_,q,hq,f9,q3,q4,q5,q6⟩| ⟨c7,_⟩
   case inr=>exact absurd o25 c7
   have c0:=gJ q3;have f8:=c0.odd;have b9:=c0.im;have a9:q.toNat<l.length:=JZ;have d4:mP l l[i]=l[q.toNat]:=by unfold mP;rw [hq];exact bO a9
   rw [bO a9]at f8 b9 q6;have d3:l[i].im.toNat<l[q.toNat].ks.length/2:=JZ;have d5:=Z9 (j:=l[i].im.toNat) c0 (by rw [bO a9];exact d3);rw [bO a9]at d5;obtain⟨f1,n1,_⟩:=d5;have e1:(min (gR (R.set i aJ) (aX l[q.toNat] l[i].im.toNat).f).1 (gR (R.set i aJ) (aX l[q.toNat] l[i].im.toNat).n).1,max (gR (R.set i aJ) (aX l[q.toNat] l[i].im.toNat).f).2 (gR (R.set i aJ) (aX l[q.toNat] l[i].im.toNat).n).2)=nR l ((aD l).getD i 0) T (R.set i aJ) l[i]:=by
    rw [hr,if_neg o3,if_pos o25,d4];rfl
   have e2:(gU U (aX l[q.toNat] l[i].im.toNat).f||gU U (aX l[q.toNat] l[i].im.toNat).n)=rE l ((aD l).getD i 0) un U l[i]:=by
    rw [hu,if_neg o3,if_pos o25,d4]
   have f2:0<=(aX l[q.toNat] l[i].im.toNat).f/\(aX l[q.toNat] l[i].im.toNat).f< (l.length:Int):=⟨f1.1,JZ⟩;have n2:0<=(aX l[q.toNat] l[i].im.toNat).n/\(aX l[q.toNat] l[i].im.toNat).n< (l.length:Int):=⟨n1.1,JZ⟩;have f3:0<=(aX l[q.toNat] l[i].im.toNat).f/\(aX l[q.toNat] l[i].im.toNat).f< ((R.set i aJ).length:Int):=by rw [CM,b6];exact f2
   have n3:0<=(aX l[q.toNat] l[i].im.toNat).n/\(aX l[q.toNat] l[i].im.toNat).n< ((R.set i aJ).length:Int):=by rw [CM,b6];exact n2
   have f4:0<=(aX l[q.toNat] l[i].im.toNat).f/\(aX l[q.toNat] l[i].im.toNat).f< (U.length:Int):=by rw [b8];exact f2
   have n4:0<=(aX l[q.toNat] l[i].im.toNat).n/\(aX l[q.toNat] l[i].im.toNat).n< (U.length:Int):=by rw [b8];exact n2
   have g3:l[i].ks.length=1:=by rw [hq];rfl
   have e7:l[i].ks.getD 0 0=q:=by rw [hq];rfl
   refine bt (beq_iff_eq.2 o25) (aC b1 (lP rfl (r JZ (oP JZ rfl ?_))));rw [e7];refine aP ⟨f9.1,JZ⟩ (uM a9 rfl ⟨l[q.toNat].ks,l[i].im.toNat,⟨rfl,rfl,JZ⟩,⟨JZ,JZ,e8 _ (AG a9),d3,b9.1,b9.2⟩,?_⟩);refine aP f2 (aC kR (rM f3 (by rw [AY];rfl) (aP n2 (aC kR (rM n3 (by rw [AY];rfl) (aP f2 (aC kU (H1 f4 (by rw [AY,AM];rfl) (aB (λcu=>?_) (λcu=>?_))))))))))
   .rw [cu,FM]at e2;exact aP D (aC kR (aA a6 (aP D (aC a0 (aA a4 ⟨(i+1,(g1.set G (.cells ((R.set i (min (gR (R.set i aJ) (aX l[q.toNat] l[i].im.toNat).f).1 (gR (R.set i aJ) (aX l[q.toNat] l[i].im.toNat).n).1,max (gR (R.set i aJ) (aX l[q.toNat] l[i].im.toNat).f).2 (gR (R.set i aJ) (aX l[q.toNat] l[i].im.toNat).n).2)).flatMap cR))).set L (.cells ((U.set i (true)).map IV.bool)),G,L,R.set i (min (gR (R.set i aJ) (aX l[q.toNat] l[i].im.toNat).f).1 (gR (R.set i aJ) (aX l[q.toNat] l[i].im.toNat).n).1,max (gR (R.set i aJ) (aX l[q.toNat] l[i].im.toNat).f).2 (gR (R.set i aJ) (aX l[q.toNat] l[i].im.toNat).n).2),U.set i (true)),KD,KD,KD,KD,KD,Z,(by rw [tn,a3,a5]),⟨O _ _ _ e1 e2,trivial⟩,V⟩)))))
   .rw [cu,EA]at e2;exact aP n2 (aC kU (H1 n4 (by rw [AY,AM];rfl) (aP D (aC kR (aA a6 (aP D (aC a0 (aA a4 ⟨(i+1,(g1.set G (.cells ((R.set i (min (gR (R.set i aJ) (aX l[q.toNat] l[i].im.toNat).f).1 (gR (R.set i aJ) (aX l[q.toNat] l[i].im.toNat).n).1,max (gR (R.set i aJ) (aX l[q.toNat] l[i].im.toNat).f).2 (gR (R.set i aJ) (aX l[q.toNat] l[i].im.toNat).n).2)).flatMap cR))).set L (.cells ((U.set i (gU U (aX l[q.toNat] l[i].im.toNat).n)).map IV.bool)),G,L,R.set i (min (gR (R.set i aJ) (aX l[q.toNat] l[i].im.toNat).f).1 (gR (R.set i aJ) (aX l[q.toNat] l[i].im.toNat).n).1,max (gR (R.set i aJ) (aX l[q.toNat] l[i].im.toNat).f).2 (gR (R.set i aJ) (aX l[q.toNat] l[i].im.toNat).n).2),U.set i (gU U (aX l[q.toNat] l[i].im.toNat).n)),KD,KD,KD,KD,KD,Z,(by rw [tn,a3,a5]),⟨O _ _ _ e1 e2,trivial⟩,V⟩))))))))
  refine bf (beq_eq_false_iff_ne.2 o25) ?_;rcases v2 with⟨c7,_⟩| ⟨_,_,_,b2,_⟩
  case inl=>exact absurd c7 o25
  unfold ar at b2;have K:rE l ((aD l).getD i 0) un U l[i]=(decide (4<=l[i].op/\l[i].op<=22) &&l[i].ks.any (gU U)):=by rw [hu,if_neg o3,if_neg o25]
  have b4:nR l ((aD l).getD i 0) T (R.set i aJ) l[i]=Bb (R.set i aJ) l[i]:=by rw [hr,if_neg o3,if_neg o25]
  by_cases o22:l[i].op=22
  .have f5:l[i].ks.length=3:=by
    rw [if_neg JZ,if_neg JZ,if_neg JZ,if_pos JZ]at b2;omega
   have e1:((jO (gR (R.set i aJ) (l[i].ks.getD 0 0)).1 (gR (R.set i aJ) (l[i].ks.getD 0 0)).2 (gR (R.set i aJ) (l[i].ks.getD 1 0)).1 (gR (R.set i aJ) (l[i].ks.getD 1 0)).2 (gR (R.set i aJ) (l[i].ks.getD 2 0)).1 (gR (R.set i aJ) (l[i].ks.getD 2 0)).2).1,(jO (gR (R.set i aJ) (l[i].ks.getD 0 0)).1 (gR (R.set i aJ) (l[i].ks.getD 0 0)).2 (gR (R.set i aJ) (l[i].ks.getD 1 0)).1 (gR (R.set i aJ) (l[i].ks.getD 1 0)).2 (gR (R.set i aJ) (l[i].ks.getD 2 0)).1 (gR (R.set i aJ) (l[i].ks.getD 2 0)).2).2)=nR l ((aD l).getD i 0) T (R.set i aJ) l[i]:=by
    rw [b4];unfold Bb
    rw [if_neg o1,if_pos o22];rfl
   rw [f4D f5,decide_eq_true (show 4<=l[i].op/\l[i].op<=22 by omega),BD]at K;refine bt (beq_iff_eq.2 o22) (r JZ (oP JZ rfl (aP (kq 0 JZ) (aC kR (rM (kr 0 JZ) (by rw [AY]) (r JZ (oP JZ rfl (aP (kq 1 JZ) (aC kR (rM (kr 1 JZ) (by rw [AY]) (r JZ (oP JZ rfl (aP (kq 2 JZ) (aC kR (rM (kr 2 JZ) (by rw [AY]) (aP D (aC kR (aA a6 (r JZ (oP JZ rfl (aP (kq 0 JZ) (aC a0 (H1 (ku 0 JZ) (by rw [AY,AM]) (aB (λcu=>?_) (λcu=>?_)))))))))))))))))))))))))
   .rw [cu,FM]at K;exact aP D (aC a0 (aA a4 ⟨(i+1,(g1.set G (.cells ((R.set i ((jO (gR (R.set i aJ) (l[i].ks.getD 0 0)).1 (gR (R.set i aJ) (l[i].ks.getD 0 0)).2 (gR (R.set i aJ) (l[i].ks.getD 1 0)).1 (gR (R.set i aJ) (l[i].ks.getD 1 0)).2 (gR (R.set i aJ) (l[i].ks.getD 2 0)).1 (gR (R.set i aJ) (l[i].ks.getD 2 0)).2).1,(jO (gR (R.set i aJ) (l[i].ks.getD 0 0)).1 (gR (R.set i aJ) (l[i].ks.getD 0 0)).2 (gR (R.set i aJ) (l[i].ks.getD 1 0)).1 (gR (R.set i aJ) (l[i].ks.getD 1 0)).2 (gR (R.set i aJ) (l[i].ks.getD 2 0)).1 (gR (R.set i aJ) (l[i].ks.getD 2 0)).2).2)).flatMap cR))).set L (.cells ((U.set i (true)).map IV.bool)),G,L,R.set i ((jO (gR (R.set i aJ) (l[i].ks.getD 0 0)).1 (gR (R.set i aJ) (l[i].ks.getD 0 0)).2 (gR (R.set i aJ) (l[i].ks.getD 1 0)).1 (gR (R.set i aJ) (l[i].ks.getD 1 0)).2 (gR (R.set i aJ) (l[i].ks.getD 2 0)).1 (gR (R.set i aJ) (l[i].ks.getD 2 0)).2).1,(jO (gR (R.set i aJ) (l[i].ks.getD 0 0)).1 (gR (R.set i aJ) (l[i].ks.getD 0 0)).2 (gR (R.set i aJ) (l[i].ks.getD 1 0)).1 (gR (R.set i aJ) (l[i].ks.getD 1 0)).2 (gR (R.set i aJ) (l[i].ks.getD 2 0)).1 (gR (R.set i aJ) (l[i].ks.getD 2 0)).2).2),U.set i (true)),KD,KD,KD,KD,KD,Z,(by rw [tn,a3,a5]),⟨O _ _ _ e1 K.symm,trivial⟩,V⟩))
   .rw [cu,EA]at K;refine r JZ (oP JZ rfl (aP (kq 1 JZ) (aC a0 (H1 (ku 1 JZ) (by rw [AY,AM]) (aB (λb5=>?_) (λb5=>?_))))))
    .rw [b5,FM]at K;exact aP D (aC a0 (aA a4 ⟨(i+1,(g1.set G (.cells ((R.set i ((jO (gR (R.set i aJ) (l[i].ks.getD 0 0)).1 (gR (R.set i aJ) (l[i].ks.getD 0 0)).2 (gR (R.set i aJ) (l[i].ks.getD 1 0)).1 (gR (R.set i aJ) (l[i].ks.getD 1 0)).2 (gR (R.set i aJ) (l[i].ks.getD 2 0)).1 (gR (R.set i aJ) (l[i].ks.getD 2 0)).2).1,(jO (gR (R.set i aJ) (l[i].ks.getD 0 0)).1 (gR (R.set i aJ) (l[i].ks.getD 0 0)).2 (gR (R.set i aJ) (l[i].ks.getD 1 0)).1 (gR (R.set i aJ) (l[i].ks.getD 1 0)).2 (gR (R.set i aJ) (l[i].ks.getD 2 0)).1 (gR (R.set i aJ) (l[i].ks.getD 2 0)).2).2)).flatMap cR))).set L (.cells ((U.set i (true)).map IV.bool)),G,L,R.set i ((jO (gR (R.set i aJ) (l[i].ks.getD 0 0)).1 (gR (R.set i aJ) (l[i].ks.getD 0 0)).2 (gR (R.set i aJ) (l[i].ks.getD 1 0)).1 (gR (R.set i aJ) (l[i].ks.getD 1 0)).2 (gR (R.set i aJ) (l[i].ks.getD 2 0)).1 (gR (R.set i aJ) (l[i].ks.getD 2 0)).2).1,(jO (gR (R.set i aJ) (l[i].ks.getD 0 0)).1 (gR (R.set i aJ) (l[i].ks.getD 0 0)).2 (gR (R.set i aJ) (l[i].ks.getD 1 0)).1 (gR (R.set i aJ) (l[i].ks.getD 1 0)).2 (gR (R.set i aJ) (l[i].ks.getD 2 0)).1 (gR (R.set i aJ) (l[i].ks.getD 2 0)).2).2),U.set i (true)),KD,KD,KD,KD,KD,Z,(by rw [tn,a3,a5]),⟨O _ _ _ e1 K.symm,trivial⟩,V⟩))
    .rw [b5,EA]at K;exact r JZ (oP JZ rfl (aP (kq 2 JZ) (aC a0 (H1 (ku 2 JZ) (by rw [AY,AM]) (aP D (aC a0 (aA a4 ⟨(i+1,(g1.set G (.cells ((R.set i ((jO (gR (R.set i aJ) (l[i].ks.getD 0 0)).1 (gR (R.set i aJ) (l[i].ks.getD 0 0)).2 (gR (R.set i aJ) (l[i].ks.getD 1 0)).1 (gR (R.set i aJ) (l[i].ks.getD 1 0)).2 (gR (R.set i aJ) (l[i].ks.getD 2 0)).1 (gR (R.set i aJ) (l[i].ks.getD 2 0)).2).1,(jO (gR (R.set i aJ) (l[i].ks.getD 0 0)).1 (gR (R.set i aJ) (l[i].ks.getD 0 0)).2 (gR (R.set i aJ) (l[i].ks.getD 1 0)).1 (gR (R.set i aJ) (l[i].ks.getD 1 0)).2 (gR (R.set i aJ) (l[i].ks.getD 2 0)).1 (gR (R.set i aJ) (l[i].ks.getD 2 0)).2).2)).flatMap cR))).set L (.cells ((U.set i (gU U (l[i].ks.getD 2 0))).map IV.bool)),G,L,R.set i ((jO (gR (R.set i aJ) (l[i].ks.getD 0 0)).1 (gR (R.set i aJ) (l[i].ks.getD 0 0)).2 (gR (R.set i aJ) (l[i].ks.getD 1 0)).1 (gR (R.set i aJ) (l[i].ks.getD 1 0)).2 (gR (R.set i aJ) (l[i].ks.getD 2 0)).1 (gR (R.set i aJ) (l[i].ks.getD 2 0)).2).1,(jO (gR (R.set i aJ) (l[i].ks.getD 0 0)).1 (gR (R.set i aJ) (l[i].ks.getD 0 0)).2 (gR (R.set i aJ) (l[i].ks.getD 1 0)).1 (gR (R.set i aJ) (l[i].ks.getD 1 0)).2 (gR (R.set i aJ) (l[i].ks.getD 2 0)).1 (gR (R.set i aJ) (l[i].ks.getD 2 0)).2).2),U.set i (gU U (l[i].ks.getD 2 0))),KD,KD,KD,KD,KD,Z,(by rw [tn,a3,a5]),⟨O _ _ _ e1 K.symm,trivial⟩,V⟩)))))))
  refine bf (beq_eq_false_iff_ne.2 o22) ?_
  by_cases o20:l[i].op=20\/l[i].op=21
  .have e9:l[i].ks.length=1:=by
    rw [if_neg JZ,if_pos JZ]at b2;omega
   have e1:((Bc l[i].op (gR (R.set i aJ) (l[i].ks.getD 0 0)).1 (gR (R.set i aJ) (l[i].ks.getD 0 0)).2).1,(Bc l[i].op (gR (R.set i aJ) (l[i].ks.getD 0 0)).1 (gR (R.set i aJ) (l[i].ks.getD 0 0)).2).2)=nR l ((aD l).getD i 0) T (R.set i aJ) l[i]:=by
    rw [b4];unfold Bb
    rw [if_neg o1,if_neg o22,if_pos o20];rfl
   rw [f4B e9,decide_eq_true (show 4<=l[i].op/\l[i].op<=22 by omega),BD]at K;have go: ∀A B:Prop,A->aK (l[i].op==20) A (aK (l[i].op==21) A B):=λA B a=>aB (λ_=>a) (λc2=>aB (λ_=>a) (λc3=>by rw [beq_eq_false_iff_ne]at c2 c3;rcases o20 with q|q<;>contradiction))
   refine go _ _ ?_;exact r JZ (oP JZ rfl (aP (kq 0 JZ) (aC kR (rM (kr 0 JZ) (by rw [AY]) (r JZ (oP JZ rfl (aP (kq 0 JZ) (aC kU (H1 (ku 0 JZ) (by rw [AY,AM]) (aP D (aC kR (aA a6 (aP D (aC a0 (aA a4 ⟨(i+1,(g1.set G (.cells ((R.set i ((Bc l[i].op (gR (R.set i aJ) (l[i].ks.getD 0 0)).1 (gR (R.set i aJ) (l[i].ks.getD 0 0)).2).1,(Bc l[i].op (gR (R.set i aJ) (l[i].ks.getD 0 0)).1 (gR (R.set i aJ) (l[i].ks.getD 0 0)).2).2)).flatMap cR))).set L (.cells ((U.set i (gU U (l[i].ks.getD 0 0))).map IV.bool)),G,L,R.set i ((Bc l[i].op (gR (R.set i aJ) (l[i].ks.getD 0 0)).1 (gR (R.set i aJ) (l[i].ks.getD 0 0)).2).1,(Bc l[i].op (gR (R.set i aJ) (l[i].ks.getD 0 0)).1 (gR (R.set i aJ) (l[i].ks.getD 0 0)).2).2),U.set i (gU U (l[i].ks.getD 0 0))),KD,KD,KD,KD,KD,Z,(by rw [tn,a3,a5]),⟨O _ _ _ e1 K.symm,trivial⟩,V⟩)))))))))))))))
  refine bf (beq_eq_false_iff_ne.2 (λq=>o20 (.inl q))) (bf (beq_eq_false_iff_ne.2 (λq=>o20 (.inr q))) ?_)
  by_cases o4:4<=l[i].op/\l[i].op<=19
  .have f0:l[i].ks.length=2:=by
    rw [if_neg JZ,if_neg JZ,if_pos JZ]at b2;omega
   have e1:((mI l[i].op (gR (R.set i aJ) (l[i].ks.getD 0 0)).1 (gR (R.set i aJ) (l[i].ks.getD 0 0)).2 (gR (R.set i aJ) (l[i].ks.getD 1 0)).1 (gR (R.set i aJ) (l[i].ks.getD 1 0)).2).1,(mI l[i].op (gR (R.set i aJ) (l[i].ks.getD 0 0)).1 (gR (R.set i aJ) (l[i].ks.getD 0 0)).2 (gR (R.set i aJ) (l[i].ks.getD 1 0)).1 (gR (R.set i aJ) (l[i].ks.getD 1 0)).2).2)=nR l ((aD l).getD i 0) T (R.set i aJ) l[i]:=by
    rw [b4];unfold Bb
    rw [if_neg o1,if_neg o22,if_neg o20,if_pos o4];rfl
   rw [f4C f0,decide_eq_true (show 4<=l[i].op/\l[i].op<=22 by omega),BD]at K;have rR: ∀j,j<l[i].ks.length->aZ (gR (R.set i aJ) (l[i].ks.getD j 0)).1/\aZ (gR (R.set i aJ) (l[i].ks.getD j 0)).2:=λj hj=>by
    have a:=v1 _ (V1 (z:=0) hj);have b:=(Ag e5 d9 (l[i].ks.getD j 0).toNat JZ).2;have e:gR (R.set i aJ) (l[i].ks.getD j 0)=(rG l T).getD (l[i].ks.getD j 0).toNat (0,0):=by
     unfold gR
     rw [X9 JZ,<-d6M hi JZ,<-b7,Bw JZ]
    rw [e];exact b
   refine cV (λ_=>cV (λ_=>r JZ (oP JZ rfl (r JZ (oP JZ rfl (aP (kq 0 JZ) (aC kR (rM (kr 0 JZ) (by rw [AY]) (aP (kq 1 JZ) (aC kR (rM (kr 1 JZ) (by rw [AY]) (⟨⟨rR 0 JZ,rR 1 JZ⟩,aP (kq 0 JZ) (aC kU (H1 (ku 0 JZ) (by rw [AY,AM]) (aB (λcu=>?_) (λcu=>?_))))⟩))))))))))) (λc2=>absurd o4.2 c2)) (λc2=>absurd o4.1 c2)
   .rw [cu,FM]at K;exact aP D (aC kR (aA a6 (aP D (aC a0 (aA a4 ⟨(i+1,(g1.set G (.cells ((R.set i ((mI l[i].op (gR (R.set i aJ) (l[i].ks.getD 0 0)).1 (gR (R.set i aJ) (l[i].ks.getD 0 0)).2 (gR (R.set i aJ) (l[i].ks.getD 1 0)).1 (gR (R.set i aJ) (l[i].ks.getD 1 0)).2).1,(mI l[i].op (gR (R.set i aJ) (l[i].ks.getD 0 0)).1 (gR (R.set i aJ) (l[i].ks.getD 0 0)).2 (gR (R.set i aJ) (l[i].ks.getD 1 0)).1 (gR (R.set i aJ) (l[i].ks.getD 1 0)).2).2)).flatMap cR))).set L (.cells ((U.set i (true)).map IV.bool)),G,L,R.set i ((mI l[i].op (gR (R.set i aJ) (l[i].ks.getD 0 0)).1 (gR (R.set i aJ) (l[i].ks.getD 0 0)).2 (gR (R.set i aJ) (l[i].ks.getD 1 0)).1 (gR (R.set i aJ) (l[i].ks.getD 1 0)).2).1,(mI l[i].op (gR (R.set i aJ) (l[i].ks.getD 0 0)).1 (gR (R.set i aJ) (l[i].ks.getD 0 0)).2 (gR (R.set i aJ) (l[i].ks.getD 1 0)).1 (gR (R.set i aJ) (l[i].ks.getD 1 0)).2).2),U.set i (true)),KD,KD,KD,KD,KD,Z,(by rw [tn,a3,a5]),⟨O _ _ _ e1 K.symm,trivial⟩,V⟩)))))
   .rw [cu,EA]at K;exact aP (kq 1 JZ) (aC kU (H1 (ku 1 JZ) (by rw [AY,AM]) (aP D (aC kR (aA a6 (aP D (aC a0 (aA a4 ⟨(i+1,(g1.set G (.cells ((R.set i ((mI l[i].op (gR (R.set i aJ) (l[i].ks.getD 0 0)).1 (gR (R.set i aJ) (l[i].ks.getD 0 0)).2 (gR (R.set i aJ) (l[i].ks.getD 1 0)).1 (gR (R.set i aJ) (l[i].ks.getD 1 0)).2).1,(mI l[i].op (gR (R.set i aJ) (l[i].ks.getD 0 0)).1 (gR (R.set i aJ) (l[i].ks.getD 0 0)).2 (gR (R.set i aJ) (l[i].ks.getD 1 0)).1 (gR (R.set i aJ) (l[i].ks.getD 1 0)).2).2)).flatMap cR))).set L (.cells ((U.set i (gU U (l[i].ks.getD 1 0))).map IV.bool)),G,L,R.set i ((mI l[i].op (gR (R.set i aJ) (l[i].ks.getD 0 0)).1 (gR (R.set i aJ) (l[i].ks.getD 0 0)).2 (gR (R.set i aJ) (l[i].ks.getD 1 0)).1 (gR (R.set i aJ) (l[i].ks.getD 1 0)).2).1,(mI l[i].op (gR (R.set i aJ) (l[i].ks.getD 0 0)).1 (gR (R.set i aJ) (l[i].ks.getD 0 0)).2 (gR (R.set i aJ) (l[i].ks.getD 1 0)).1 (gR (R.set i aJ) (l[i].ks.getD 1 0)).2).2),U.set i (gU U (l[i].ks.getD 1 0))),KD,KD,KD,KD,KD,Z,(by rw [tn,a3,a5]),⟨O _ _ _ e1 K.symm,trivial⟩,V⟩))))))))
  have e1:aJ=nR l ((aD l).getD i 0) T (R.set i aJ) l[i]:=by
   rw [b4];unfold Bb
   rw [if_neg o1,if_neg o22,if_neg o20,if_neg o4];rfl
  have e2:false=rE l ((aD l).getD i 0) un U l[i]:=by
   rw [K,decide_eq_false JZ,CN]
  exact cV (λc3=>cV (λc4=>absurd ⟨c3,c4⟩ o4) (λ_=>⟨(i+1,g1,G,L,R.set i aJ,U),KD,KD,KD,KD,KD,Z,KD,⟨b0 e1 e2,trivial⟩,V⟩)) (λ_=>⟨(i+1,g1,G,L,R.set i aJ,U),KD,KD,KD,KD,KD,Z,KD,⟨b0 e1 e2,trivial⟩,V⟩)
 .exact hk.elim
def b5C:=aV 57 b8H b5F
theorem c1F:aS env b5C:=aE e9N (c1I)
def b9Q(xs:Y14)(h:Heap)(K:KT):Prop:=match xs with
 | [.ptr id 0,.agg [.int .i64 v,.int .i64 f,.int .i64 n,.int .i64 d],.agg [.int .i64 a,.int .i64 b],.hslice iR 0 len 2]=> ∃(l:Y15)(x y z:IV)(R:List Iv),(h.get id= .cells [.vslice none 0 (l).length 3 ((l).flatMap cN),x,y,z]/\h.get iR= .cells (R.flatMap cR)/\R.length=l.length/\len=l.length)/\(∀i,i<l.length->(R.getD i (0,0)).1<=(R.getD i (0,0)).2/\cF (R.getD i (0,0)))/\(0<=d/\d<l.length/\(aD l).getD d.toNat 0=1/\l.length<=100000)/\K (.tuple [eI (jL l ⟨v,f,n,d⟩ (a,b) R).1,.bool (jL l ⟨v,f,n,d⟩ (a,b) R).2]) h
 |_=>False
def d3K(g i:Int):=IV.tuple [.agg [.int .i64 g,iI i],IV.bool true]
def d3L(g:Int):=wW (g-1)
def Hi(Q:KT)(h:Heap)(i:Int)(j:Int)(g:Iv×Bool):Prop:=aK (!g.2) (Q (.tuple [.agg [.int .i64 0,iI 0],IV.bool false]) h) (Q (.tuple [.agg [.int .i64 ((mM i j g.1.1 g.1.2).1),iI ((mM i j g.1.1 g.1.2).2)],IV.bool (iS i j g.1.1 g.1.2)]) h)
def Hg(z:Int)(len:Nat)(h:Heap)(y:Nat)(Q:KT)(g:Int)(i:Int)(n:Int)(j:Int)(r:Int):Prop:=aK (z==19) (aF (cP j len) (aT h y λA=>aN .i64 A ((0:Nat)+j.toNat*2+1) λm=>Q (.tuple [.agg [.int .i64 ((mM g i 0 (d3L m)).1),iI ((mM g i 0 (d3L m)).2)],IV.bool (iS g i 0 (d3L m))])
 h)) (aK (r==n) (aF (cP j len) (aT h y λD=>aN .i64 D ((0:Nat)+j.toNat*2+1) λl=>aZ l/\Hi Q h g i (Tb l (z==17)))) (aK (j==n) (aF (cP r len) (aT h y λu=>aN .i64 u ((0:Nat)+r.toNat*2+0) fun
 zb12=>aZ zb12/\Hi Q h g i (Qo zb12 (z==17)))) (Q (d3K g i) h)))
def L0(u:Y14)(z:Int)(n:Int)(Q:KT)(g:Int)(i:Int)(h:Heap)(len:Nat)(y:Nat)(l:Int):=aN .i64 u 1 λj=>aK (z==19) (aK (l !=n) (Q (d3K g i) h) (aF (cP j len) (aT h y λm=>aN .i64 m ((0:Nat)+j.toNat*2+0) λr=>aK (decide (r<0)) (Q (d3K g i) h) (Hg z len h y Q g i n j l)))) (Hg
 z len h y Q g i n j l)
def Yr(A:Int)(z:Nat)(g:Y14)(n:Int)(Q:KT)(i:Int)(j:Int)(h:Heap)(len:Nat)(D:Nat)(r:Int)(u:Int)(y:Prop):Prop:=aK (A !=r) (aK (A !=u) y (aF (gS 0 z) (aN .i64 g 0 λl=>aF (gS 1 z) (L0 g A n Q i j h len D l)))) (aF (gS 0 z) (aN .i64 g 0 λm=>aF (gS 1 z) (L0 g A n Q i j h
 len D m)))
theorem f3L(id:Nat)(v f n d a b:Int)(j len:Nat)(h:Heap)(Q:KT):dF (aU b5C) env 60 cC bD bD [.ptr id 0,.agg [.int .i64 v,.int .i64 f,.int .i64 n,.int .i64 d],.agg [.int .i64 a,.int .i64 b],.hslice j 0 len 2] h Q=(
 aT h id λr0=>bM 3 r0 0 λA y u i=>aF (cP d u) (aN .i64 i (d.toNat*3) λr=>aN .i64 i (d.toNat*3+1) λG=>bM 1 i (d.toNat*3+1+1) λD z l g=>Yr r l g n Q a b h len j 17 18 (aK (r !=19) (Q (.tuple [.agg [.int .i64 a,iI b],IV.bool true]) h) (aF (gS 0 l) (aN .i64 g 0 λm=>aF (gS 1 l) (L0 g r n Q a b h len j m)))))):=by kernel_rfl
theorem f0S: ∀xs h Q,b9Q xs h Q->aM env 60 xs h Q:=by
 intro xs h Q hk;unfold b9Q at hk;split at hk
 .rename_i id v f n d a b iR len;obtain⟨l,x,y,z,R,⟨hg,m,a0,Z⟩,hR,hd,hk⟩:=hk;refine aL (c1F) (f3L id v f n d a b iR len h Q) ?_;delta cP gS d3K d3L Hi Hg L0 Yr wW iI; (try dsimp -iota -proj only);have tn: ∀x:Nat,(x:Int).toNat=x:=AK
  have L:d.toNat<l.length:=JZ;obtain⟨h1,h2⟩:=mY L hd.2.2.1;have a2:=hd.2.2.2;have hD:l.getD d.toNat default=l[d.toNat]:=bO L;have G: ∀q:Int,(V:0<=q/\q<l.length)->gR R q=R[q.toNat]'JZ/\True/\aZ (gR R q).1/\aZ (gR R q).2:=λq V=>⟨bO JZ,trivial,(hR q.toNat JZ).2⟩
  have j: ∀q:Int,(V:0<=q/\q<l.length)->(R.flatMap cR)[0+q.toNat*2+0]?=some (.int .i64 (gR R q).1)/\(R.flatMap cR)[0+q.toNat*2+1]?=some (.int .i64 (gR R q).2):=λq V=>by
   rw [(G q V).1,AY];exact A5 (show q.toNat<R.length by omega)
  have g: ∀{p:Prop}[Decidable p]{A:Prop},p->A->aF (true&&decide p) A:=λh a=>aA (by rw [decide_eq_true h];rfl) a
  refine aC hg (lP rfl (aP ⟨hd.1,JZ⟩ (uM L rfl ?_)));unfold jL at hk;dsimp only at hk;rw [hD]at hk;have X:(l[d.toNat].op=17\/l[d.toNat].op=18\/l[d.toNat].op=19)->l[d.toNat].ks.length=2:=λo=>by
   rcases h2 with⟨a3,_⟩| ⟨_,_,_,Y,_⟩
   .omega
   .unfold ar at Y;rw [if_neg JZ,if_neg JZ,if_pos JZ]at Y;omega
  by_cases o17:l[d.toNat].op=17\/l[d.toNat].op=18\/l[d.toNat].op=19
  case neg=>
   rw [if_pos ⟨λq=>o17 (.inl q),λq=>o17 (.inr (.inl q)),λq=>o17 (.inr (.inr q))⟩]at hk;refine aB (λ_=>aB (λ_=>aB (λ_=>hk) (λc=>?_)) (λc=>?_)) (λc=>?_)
   .rw [bne_eq_false_iff_eq]at c;exact absurd (.inr (.inr c)) o17
   .rw [bne_eq_false_iff_eq]at c;exact absurd (.inr (.inl c)) o17
   .rw [bne_eq_false_iff_eq]at c;exact absurd (.inl c) o17
  have a1:=X o17;have O:0<l[d.toNat].ks.length:=JZ;have T:1<l[d.toNat].ks.length:=JZ;have K:=h1 _ (AG O);have r:=h1 _ (AG T);have e0:l[d.toNat].ks.getD 0 0=l[d.toNat].ks[0]:=bO O;have D:l[d.toNat].ks.getD 1 0=l[d.toNat].ks[1]:=bO T;replace K:0<=l[d.toNat].ks[0]/\l[d.toNat].ks[0]< (l.length:Int):=⟨K.1,JZ⟩;replace r:0<=l[d.toNat].ks[1]/\l[d.toNat].ks[1]< (l.length:Int):=⟨r.1,JZ⟩;rcases o17 with o|o|o
  .rw [o]at hk⊢;rw [if_neg KA,if_neg KA]at hk;refine(bf rfl (g JZ (fD O rfl (g JZ (fD T rfl (bf rfl (bf rfl (aB (λc=>?_) (λc=>?_)))))))))
   .rw [beq_iff_eq]at c;rw [if_pos (e0.trans c)]at hk;refine aP ⟨r.1,JZ⟩ (aC m (aR (j l[d.toNat].ks[1] r).2 ⟨(G l[d.toNat].ks[1] r).2.2.2,?_⟩))
    cases u:(Tb (gR R l[d.toNat].ks[1]).2 ((17:Int)==17)).2 with
    |true=>
     rw [D,u,if_pos rfl]at hk;exact bf rfl hk
    |false=>
     rw [D,u,if_neg KA]at hk;exact bt rfl hk
   .rw [beq_eq_false_iff_ne]at c;rw [if_neg (λq=>c (e0.symm.trans q))]at hk;refine aB (λi=>?_) (λi=>?_)
    .rw [beq_iff_eq]at i;rw [if_pos (D.trans i)]at hk;refine aP ⟨K.1,JZ⟩ (aC m (aR (j l[d.toNat].ks[0] K).1 ⟨(G l[d.toNat].ks[0] K).2.2.1,?_⟩))
     cases u:(Qo (gR R l[d.toNat].ks[0]).1 ((17:Int)==17)).2 with
     |true=>
      rw [e0,u,if_pos rfl]at hk;exact bf rfl hk
     |false=>
      rw [e0,u,if_neg KA]at hk;exact bt rfl hk
    .rw [beq_eq_false_iff_ne]at i;rw [if_neg (λq=>i (D.symm.trans q))]at hk;exact hk
  .rw [o]at hk⊢;rw [if_neg KA,if_neg KA]at hk;refine(bt rfl (bf rfl (g JZ (fD O rfl (g JZ (fD T rfl (bf rfl (bf rfl (aB (λc=>?_) (λc=>?_))))))))))
   .rw [beq_iff_eq]at c;rw [if_pos (e0.trans c)]at hk;refine aP ⟨r.1,JZ⟩ (aC m (aR (j l[d.toNat].ks[1] r).2 ⟨(G l[d.toNat].ks[1] r).2.2.2,?_⟩))
    cases u:(Tb (gR R l[d.toNat].ks[1]).2 ((18:Int)==17)).2 with
    |true=>
     rw [D,u,if_pos rfl]at hk;exact bf rfl hk
    |false=>
     rw [D,u,if_neg KA]at hk;exact bt rfl hk
   .rw [beq_eq_false_iff_ne]at c;rw [if_neg (λq=>c (e0.symm.trans q))]at hk;refine aB (λi=>?_) (λi=>?_)
    .rw [beq_iff_eq]at i;rw [if_pos (D.trans i)]at hk;refine aP ⟨K.1,JZ⟩ (aC m (aR (j l[d.toNat].ks[0] K).1 ⟨(G l[d.toNat].ks[0] K).2.2.1,?_⟩))
     cases u:(Qo (gR R l[d.toNat].ks[0]).1 ((18:Int)==17)).2 with
     |true=>
      rw [e0,u,if_pos rfl]at hk;exact bf rfl hk
     |false=>
      rw [e0,u,if_neg KA]at hk;exact bt rfl hk
    .rw [beq_eq_false_iff_ne]at i;rw [if_neg (λq=>i (D.symm.trans q))]at hk;exact hk
  .rw [o]at hk⊢;rw [if_neg KA,if_pos rfl]at hk;refine bt rfl (bt rfl (bf rfl (g JZ (fD O rfl (g JZ (fD T rfl (bt rfl (aB (λc=>?_) (λc=>?_)))))))))
   .rw [bne_iff_ne]at c;rw [if_pos (.inl (λq=>c (e0.symm.trans q)))]at hk;exact hk
   .rw [bne_eq_false_iff_eq]at c;refine aP ⟨r.1,JZ⟩ (aC m (aR (j l[d.toNat].ks[1] r).1 ?_));refine cV (λi=>?_) (λi=>?_)
    .rw [if_pos (.inr (by rw [D];exact i))]at hk;exact hk
    .rw [if_neg (λq=>q.elim (λq=>q (e0.trans c)) (λq=>i (by rw [D]at q;exact q))),D]at hk;refine bt rfl (aP ⟨r.1,JZ⟩ (aC m (aR (j l[d.toNat].ks[1] r).2 ?_)));exact hk
 .exact hk.elim
def b6P:=aV 60 b9Q b5C
theorem c2J:aS env b6P:=aE f0S (c1F)
def e0R(xs:Y14)(h:Heap)(K:KT):Prop:=match xs with
 | [.agg [.int .i64 a,.int .i64 b],.ptr s 0,.ptr w 0]=> ∃o:Option Iv,D3 h s w o/\s≠w/\∀h2:Heap,D3 h2 s w (joG o (a,b))->(∀j,j≠s->j≠w->h2.get j=h.get j)->h2.next=h.next->K (.tuple []) h2
 |_=>False
def Ho(h:Heap)(w:Nat)(s:Nat)(Q:KT)(j:Y14)(i:Y14):Prop:=aF (Nat.ble 2 j.length) (aT (h.set w (IObj.cells i)) s λg=>aF (Nat.ble 1 g.length) (Q (.tuple []) ((h.set w (IObj.cells i)).set s (IObj.cells (IV.bool true::List.drop 1 g)))))
theorem f8S(a b:Int)(s w:Nat)(h:Heap)(Q:KT):dF (aU b6P) env 101 cC bD bD [.agg [.int .i64 a,.int .i64 b],.ptr s 0,.ptr w 0] h Q=(
 aT h s λr0=>kQ r0 0 λl=>aK l (aT h w λg=>aN .i64 g 0 λm=>aN .i64 g 1 λr=>aT h w λi=>Ho h w s Q i (iI (min m a)::iI (max r b)::List.drop 2 i)) (aT h w λj=>Ho h w s Q j (iI a::iI b::List.drop 2 j))):=by kernel_rfl
theorem f6S: ∀xs h Q,e0R xs h Q->aM env 101 xs h Q:=by
 intro xs h Q hk;unfold e0R at hk;split at hk
 .rename_i a b s w;obtain⟨o,ho,g,hk⟩:=hk;refine aL (c2J) (f8S a b s w h Q) ?_;delta Ho iI; (try dsimp -iota -proj only);obtain⟨q,r,m,u⟩:=ho;refine aC m (kS rfl (aB (λc=>?_) (λc=>?_)))
  .have i:joG o (a,b)=some (min q.1 a,max q.2 b):=by
    cases o with
    |none=>cases c
    |some z=>rw [u z rfl];rfl
   rw [i]at hk;exact aC r (aR rfl (aR rfl (aC r (aA rfl (aC ((aG g).trans m) (aA rfl (hk _ ⟨(min q.1 a,max q.2 b),(aG g.symm).trans aH,aH,λz l=>(AV l).symm⟩ (λj x y=>(aG x).trans (aG y)) rfl)))))))
  .have i:joG o (a,b)=some (a,b):=by
    cases o with
    |none=>rfl
    |some z=>cases c
   rw [i]at hk;exact aC r (aA rfl (aC ((aG g).trans m) (aA rfl (hk _ ⟨(a,b),(aG g.symm).trans aH,aH,λz l=>(AV l).symm⟩ (λj x y=>(aG x).trans (aG y)) rfl))))
 .exact hk.elim
def d8W:=aV 101 e0R b6P
theorem d6I:aS env d8W:=aE f6S (c2J)
def e0S(xs:Y14)(h:Heap)(K:KT):Prop:=match xs with
 | [.agg [.int .i64 a,.int .i64 b],.ptr s 0,.ptr r 0,.ptr w 0]=> ∃(o:Option Iv)(m:Nat),D3 h s w o/\h.get r= .cells [.int .i64 (m:Int)]/\K (eI (tY o m (a,b))) h
 |_=>False
theorem f8T(a b:Int)(s r w:Nat)(h:Heap)(Q:KT):dF (aU d8W) env 103 cC bD bD [.agg [.int .i64 a,.int .i64 b],.ptr s 0,.ptr r 0,.ptr w 0] h Q=(
 aT h s λr0=>kQ r0 0 λj=>aK j (aT h r λA=>aN .i64 A 0 λl=>aK (decide (l>3)) (aT h w λg=>aN .i64 g 0 λm=>aN .i64 g 1 λu=>aT h w λi=>aN .i64 i 0 λy=>aN .i64 i 1 λz=>Q (.agg [.int .i64 (wlo m (min y a)),iI (whi u (max z b))]) h) (Q (.agg [.int .i64 a,iI b]) h)) (Q (.agg [.int .i64 a,iI b]) h)):=by kernel_rfl
theorem f6T: ∀xs h Q,e0S xs h Q->aM env 103 xs h Q:=by
 intro xs h Q hk;unfold e0S at hk;split at hk
 .rename_i a b s r w;obtain⟨o,m,ho,u,hk⟩:=hk;refine aL (d6I) (f8T a b s r w h Q) ?_;delta iI;obtain⟨q,i,y,l⟩:=ho;refine aC y (kS rfl (aB (λc=>?_) (λc=>?_)))
  .cases o with
   |none=>cases c
   |some z=>
    obtain rfl:z=q:=l z rfl;refine aC u (aR rfl (cV (λj=>?_) (λj=>?_)))
    .have g:tY (some z) m (a,b)=(wlo z.1 (min z.1 a),whi z.2 (max z.2 b)):=by
      unfold tY
      dsimp only;rw [if_pos JZ]
     rw [g]at hk;exact aC i (aR rfl (aR rfl (aC i (aR rfl (aR rfl hk)))))
    .have g:tY (some z) m (a,b)=(a,b):=by
      unfold tY
      dsimp only;rw [if_neg JZ]
     rw [g]at hk;exact hk
  .cases o with
   |none=>exact hk
   |some z=>cases c
 .exact hk.elim
def d8X:=aV 103 e0S d8W
theorem d6J:aS env d8X:=aE f6T (d6I)
def f6Z(id:Nat)(l:Y15)(m j:Nat)(g:Lu)(i:Mo)(v f n d:Int)(r:Nat)(h:Heap):Inv':=dL (Heap×UpN) (λx=>[(0,.v (.ptr id 0)),(4,.l 4 0),(5,.v (.ptr x.2.i5 0)),(7,.v (.hslice x.2.iR 0 l.length 2)),(8,.v (.hslice x.2.iU 0 l.length 1)),(9,.v (.ptr x.2.i9 0)),(10,.v (.ptr x.2.i10 0))]) (λx=>[(4,[.int .i64 v,.int .i64 f,.int .i64 n,.int .i64 d])]) (λx=>x.1) (λx=>UpS l g i v r h x.1 x.2 x.1.next/\True) (λ_=>0)
def f7A(id:Nat)(l:Y15)(m j:Nat)(g:Lu)(i:Mo)(v f n d:Int)(r:Nat)(h:Heap):Inv':=dL (Heap×UpN×Nat) (λx=>[(0,.v (.ptr id 0)),(4,.l 4 0),(5,.v (.ptr x.2.1.i5 0)),(7,.v (.hslice x.2.1.iR 0 l.length 2)),(8,.v (.hslice x.2.1.iU 0 l.length 1)),(9,.v (.ptr x.2.1.i9 0)),(10,.v (.ptr x.2.1.i10 0)),(11,.v (.ptr x.2.1.i11 0)),(12,.v (.ptr x.2.1.i12 0)),(13,.v (.func (.func 101) [] [.ptr x.2.1.i12 0,.ptr x.2.1.i11 0])),(14,.v (.func (.func 103) [] [.ptr x.2.1.i10 0,.ptr x.2.1.i5 0,.ptr x.2.1.i9 0]))]) (λx=>[(4,[.int .i64 v,.int .i64 f,.int .i64 n,.int .i64 d])]) (λx=>x.1) (λx=>UpS l g i v r h x.1 x.2.1 x.2.2/\UpM x.1 x.2.1 x.2.2 (Nm l g i v f r)) (λ_=>0)
def f1T(id:Nat)(l:Y15)(m j:Nat)(i:Lu)(g:Mo)(v f n d:Int)(r:Nat)(h:Heap):Inv':=dL (Heap×UpN×Nat) (λx=>[(0,.v (.ptr id 0)),(4,.l 4 0),(5,.v (.ptr x.2.1.i5 0)),(7,.v (.hslice x.2.1.iR 0 l.length 2)),(8,.v (.hslice x.2.1.iU 0 l.length 1)),(9,.v (.ptr x.2.1.i9 0)),(10,.v (.ptr x.2.1.i10 0)),(11,.v (.ptr x.2.1.i11 0)),(12,.v (.ptr x.2.1.i12 0)),(13,.v (.func (.func 101) [] [.ptr x.2.1.i12 0,.ptr x.2.1.i11 0])),(14,.v (.func (.func 103) [] [.ptr x.2.1.i10 0,.ptr x.2.1.i5 0,.ptr x.2.1.i9 0])),(15,.l 15 0),(16,.v (.bool (Sq l i g v f n d r).2))]) (λx=>[(4,[.int .i64 v,.int .i64 f,.int .i64 n,.int .i64 d]),(15,[.int .i64 (Sq l i g v f n d r).1.1,.int .i64 (Sq l i g v f n d r).1.2])]) (λx=>x.1) (λx=>UpS l i g v r h x.1 x.2.1 x.2.2/\UpM x.1 x.2.1 x.2.2 (Nm l i g v f r)/\gU (uG l g) n=false) (λ_=>0)
def f1U(id:Nat)(l:Y15)(m j:Nat)(g:Lu)(i:Mo)(v f n d:Int)(r:Nat)(h:Heap):Inv':=dL (Heap×UpN×Nat) (λx=>[(0,.v (.ptr id 0)),(4,.l 4 0),(9,.v (.ptr x.2.1.i9 0)),(10,.v (.ptr x.2.1.i10 0)),(11,.v (.ptr x.2.1.i11 0)),(12,.v (.ptr x.2.1.i12 0))]) (λx=>[(4,[.int .i64 v,.int .i64 f,.int .i64 n,.int .i64 d])]) (λx=>x.1) (λx=>UpS l g i v r h x.1 x.2.1 x.2.2/\UpM x.1 x.2.1 x.2.2 (qU l g i ⟨v,f,n,d⟩ r)) (λ_=>0)
def e0T(xs:Y14)(h:Heap)(K:KT):Prop:=match xs with
 | [.ptr id 0,.agg [.int .i64 v,.int .i64 f,.int .i64 n,.int .i64 d],.int .i64 q]=> ∃(l:Y15)(i g:Nat)(m:Lu)(u:Mo)(r:Nat),(q=(r:Int)/\h.get id= .cells [.vslice none 0 (l).length 3 ((l).flatMap cN),.vslice none 0 (aD l).length 1 ((aD l).map (IV.int .i64)),.map i,.map g]/\id<h.next)/\AzS h l i (.map g) m u/\i≠g/\LvS l f n d/\(oT l m u ⟨v,f,n,d⟩ r=none-> ∀h2:Heap,(∀j,j<h.next->h2.get j=h.get j)->h.next<=h2.next->K (.bool false) h2)/\(∀y,oT l m u ⟨v,f,n,d⟩ r=some y-> ∀h2:Heap,knS h2 i (qT m v y)->unS h2 (.map g) (λw=>if w=v then false else u w)->(∀j,j<h.next->j≠i->j≠g->h2.get j=h.get j)->h.next<=h2.next->K (.bool true) h2)
 |_=>False
def oX(g:Heap×UpN×Nat):=g.2.1
def d3F:=[iI 0,iI 0]
def Zv(x:Heap×UpN):=x.1.next+1
def d3G(x:Heap×UpN):=(x.1.push IObj.free).push IObj.free
def d3H(r:Nat)(h:Heap):=h.push (IObj.cells [iI (r:Int)])
def Ua(g:Heap×UpN×Nat):=g.2.1
def e6G(g:Heap):=((g.push IObj.free).push IObj.free).set (g.next) (IObj.cells d3F)
def d3I:=TypeDesc.int .i64
def a5U(g:Heap×UpN×Nat):=g.2.2
def b3U(x:Heap×UpN):=x.1.next
def a5V(g:Heap×UpN×Nat):=g.2.2
def Hn(g:Heap)(j:Y14->Prop):Prop:=Qr ((g.push IObj.free).push IObj.free) (g.next) (Qr (e6G g) (g.next+1) (aT ((e6G g).set (g.next+1) (IObj.cells [IV.bool false])) (g.next) λi=>j i))
def pR(g:Heap)(j:Int)(l:Int)(i:Y14):Heap:=((((g.push IObj.free).push IObj.free).set (g.next) (IObj.cells d3F)).set (g.next+1) (IObj.cells [IV.bool false])).set (g.next) (IObj.cells (iI j::iI l::List.drop 2 i))
def L7(id:Nat)(g:Prop):Prop:=some (TV.v (.ptr id 0))=some (TV.v (.ptr id 0))/\some (TV.l 4 0)=some (TV.l 4 0)/\g
def Hm(l:Y15)(j:Nat)(g:UpN)(m:Nat)(i:Y15)(r:Nat)(u:Nat)(y:Nat)(z:Prop):Prop:=some (TV.v (.ptr j 0))=some (TV.v (.ptr (UpN.i5 g) 0))/\some (TV.v (.hslice m 0 i.length 2))=some (TV.v (.hslice (UpN.iR g) 0 l.length 2))/\some (TV.v (.hslice r 0 i.length 1))=some (TV.v (.hslice (UpN.iU g) 0 l.length 1))/\some (TV.v (.ptr u 0))=some (TV.v (.ptr
 (UpN.i9 g) 0))/\some (TV.v (.ptr y 0))=some (TV.v (.ptr (UpN.i10 g) 0))/\z
def sV(v:Int)(f:Int)(n:Int)(d:Int)(g:Prop):Prop:=some [iI v,iI f,iI n,iI d]=some [iI v,iI f,iI n,iI d]/\g
def Hl(h2:Heap)(id:Nat)(h:Heap)(A:Nat)(z:Y15)(l:Y15)(D:Nat)(v:Int)(f:Int)(n:Int)(d:Int)(G:Lu)(K:Mo)(r:Nat)(m:Int)(u:Int)(y:Bool):Prop:=Hn h2 (λi=>aF (Nat.ble 2 i.length) (aT (pR h2 m u i) (h2.next+1) λj=>aF (Nat.ble 1 j.length) (∃(g:Heap×UpN),L7 id (Hm l (h.next) g.2 A z D (h2.next) (h2.next+1) (sV v f n d ((pR
 h2 m u i).set (h2.next+1) (IObj.cells (IV.bool y::List.drop 1 j))=g.1/\(UpS l G K v r h g.1 g.2 (g.1.next)/\True)/\True))))))
def sW(l:Y15)(g:Int):Bool:=decide (0<=g) &&decide (g< (l.length:Int))
def pS(x:Heap×UpN)(i:Int)(j:Int)(l:Y14)(g:Bool)(m:Y14):Heap:=(pR x.1 i j l).set (Zv x) (IObj.cells (IV.bool g::List.drop 1 m))
def gT(g:Heap×UpN×Nat):Nat:=UpN.i11 g.2.1
def lU(g:Heap×UpN×Nat):Nat:=UpN.i12 g.2.1
def L3(id:Nat)(l:Y15)(g:UpN)(i:Heap×UpN×Nat)(j:Nat)(m:Nat)(r:Go.Fn)(u:Go.Fn)(y:Prop):Prop:=L7 id (Hm l (UpN.i5 g) i.2.1 (UpN.iR g) l (UpN.iU g) (UpN.i9 g) (UpN.i10 g) (some (TV.v (.ptr j 0))=some (TV.v (.ptr (gT i) 0))/\some (TV.v (.ptr m 0))=some (TV.v (.ptr (lU i) 0))/\some (TV.v (.func r [] [IV.ptr m 0,IV.ptr j 0]))=some (TV.v (.func
 (Fn.func (101:FuncId)) [] [IV.ptr (lU i) 0,IV.ptr (gT i) 0]))/\some (TV.v (.func u [] [IV.ptr (UpN.i10 g) 0,IV.ptr (UpN.i5 g) 0,IV.ptr (UpN.i9 g) 0]))=some (TV.v (.func (Fn.func (103:FuncId)) [] [IV.ptr (UpN.i10 i.2.1) 0,IV.ptr (UpN.i5 i.2.1) 0,IV.ptr (UpN.i9 i.2.1)
 0]))/\y))
def L4(id:Nat)(l:Y15)(y:Heap×UpN×Nat)(m:Lu)(j:Mo)(v:Int)(f:Int)(n:Int)(d:Int)(r:Nat)(h:Heap)(u:Bool)(i:Iv):Prop:= ∃(g:Heap×UpN×Nat),L3 id l (oX y) g (gT y) (lU y) (Fn.func (101:FuncId)) (Fn.func (103:FuncId)) (some (TV.l 15 0)=some (TV.l 15 0)/\some (TV.v (.bool u))=some (TV.v (.bool ((Sq l m j v f n d r).2)))/\sV v f n d (some [iI i.1,iI i.2]
 =some [iI (((Sq l m j v f n d r).1).1),iI (((Sq l m j v f n d r).1).2)]/\y.1=g.1/\(UpS l m j v r h g.1 g.2.1 g.2.2/\UpM g.1 g.2.1 g.2.2 (Nm l m j v f r)/\gU (uG l j) n=false)/\True))
def L5(id:Nat)(j:Heap×UpN×Nat)(g:Heap×UpN×Nat)(v:Int)(f:Int)(n:Int)(d:Int)(i:Prop):Prop:=L7 id (some (TV.v (.ptr (UpN.i9 (oX j)) 0))=some (TV.v (.ptr (UpN.i9 (Ua g)) 0))/\some (TV.v (.ptr (UpN.i10 (oX j)) 0))=some (TV.v (.ptr (UpN.i10 (Ua g)) 0))/\some (TV.v (.ptr (gT j) 0))=some (TV.v (.ptr (gT g) 0))/\some (TV.v (.ptr (lU j) 0))=some
 (TV.v (.ptr (lU g) 0))/\sV v f n d i)
def L6(l:Y15)(i:Lu)(j:Mo)(v:Int)(r:Nat)(h:Heap)(g:Heap×UpN×Nat)(f:Int)(n:Int)(d:Int):Prop:=UpS l i j v r h g.1 (Ua g) (a5V g)/\UpM g.1 (Ua g) (a5V g) (qU l i j (LV.mk v f n d) r)
def Hk(l:Heap×UpN×Nat)(id:Nat)(v:Int)(Q:KT):Prop:=aT l.1 id λy=>Bd y 2 λg=>aT l.1 id λz=>Bd z 3 λi=>aT l.1 (gT l) λr=>aN .i64 r 0 λA=>aN .i64 r 1 λD=>b0Z l.1 g d3I (iI v) (IV.agg d3F) λO G j=>(l.1.set g (IObj.map j)).get
 (gT l)=l.1.get (gT l)/\Nt (l.1.set g (IObj.map j)) g (G:Int) (IV.agg [.int .i64 A,iI D]) λm=>b0Z ((l.1.set g (IObj.map j)).set g (IObj.map m)) i d3I (iI v) (IV.bool false) λR K u=>Nt ((Heap.set
 (l.1.set g (IObj.map j)) g (IObj.map m)).set i (IObj.map u)) i (K:Int) (IV.bool false) λL=>Q (.bool true) ((((l.1.set g (IObj.map j)).set g (IObj.map m)).set i (IObj.map u)).set i (IObj.map L))
theorem f8U(id:Nat)(l:Y15)(mk mU:Nat)(G:Lu)(D:Mo)(v f n d:Int)(r:Nat)(h:Heap)(Q:KT):dF (aU d8X) env 55 cC bD (icS (zE 4 (f6Z id l mk mU G D v f n d r h) (zE 9 (f7A id l mk mU G D v f n d r h) (zE 13 (f1T id l mk mU G D v f n d r h) (zE 15 (f1U id l mk mU G D v f n d r h) bD))))) [.ptr id 0,.agg [.int .i64 v,.int .i64 f,.int .i64 n,.int .i64 d],.int .i64 (r:Int)] h Q=(
 (∃(A:Y15)(mk:Nat)(mu:IV)(Z:Int->Option Iv)(a0:Int->Bool),((d3H r h).get id=IObj.cells [IV.vslice none 0 A.length 3 (List.flatMap cN A),IV.vslice none 0 ((aD A).length) 1 (List.map (IV.int .i64) (aD A)),IV.map mk,mu]/\id<h.next+1)/\AzS (d3H r h) A mk mu Z a0/\∀(h2:Heap)(iR iU:Nat),h2.get iR=IObj.cells (List.flatMap cR (rG A Z))->Heap.get h2 iU=IObj.cells (List.map IV.bool (uG A a0))->Heap.next h+1<=iR/\iR<h2.next/\Heap.next h+1<=iU/\iU<h2.next/\iR≠iU->(∀(j:Nat),j<h.next+1->Heap.get h2 j=(d3H r h).get j)->aT ((h2.push IObj.free).push IObj.free) id λr0=>Bd r0 2 λi1=>kW ((h2.push IObj.free).push IObj.free) i1 d3I (iI v) (λr2=>Sd 2 r2 0 λx3=>aN .i64 x3 0 λn4=>aN .i64 x3 1 λn5=>Hl h2 id h iR A l iU v f n d G D r n4 n5 true) (Hl h2 id h iR A l iU v f n d G D r 0 0 false))/\(∀(x:Heap×UpN)(ba:FF),UpS l G D v r h x.1 x.2 (b3U x)/\True->aT (d3G x) (UpN.i9 x.2) λa4=>aN .i64 a4 0 λL=>aN .i64 a4 1 λO=>aT (d3G x) (UpN.i10 x.2) λc0=>kQ c0 0 λV=>Hn x.1 (λK=>aF (Nat.ble 2 K.length) (fO (pR x.1 L O K) (UpN.i10 x.2) 0=fO (d3G x) (UpN.i10 x.2) 0/\aT (pR x.1 L O K) (Zv x) λT=>aF (Nat.ble 1 T.length) (aF (sW l f) (aT (pS x L O K V T) (UpN.iU x.2) λc1=>kQ c1 ((0:Nat)+f.toNat*1) λb0=>aK (!b0) (aF (sW l f) (aT (pS x L O K V T) (UpN.iR x.2) λa5=>aN .i64 a5 ((0:Nat)+f.toNat*2) λa1=>aN .i64 a5 ((0:Nat)+f.toNat*2+1) λa2=> ∃(o:Option Iv)(m:Nat),D3 (pS x L O K V T) (UpN.i10 x.2) (UpN.i9 x.2) o/\Heap.get (pS x L O K V T) (UpN.i5 x.2)=IObj.cells [iI (m:Int)]/\∃(a3:Option Iv),D3 (pS x L O K V T) (Zv x) (b3U x) a3/\Heap.next x.1+1≠Heap.next x.1/\∀(h2:Heap),D3 h2 (Zv x) (b3U x) (joG a3 ((tY o m (a1,a2)).1,(tY o m (a1,a2)).2))->(∀(j:Nat),j≠Heap.next x.1+1->j≠Heap.next x.1->Heap.get h2 j=(pS x L O K V T).get j)->Heap.next h2=(Heap.reserve._f x.1 Nat.zero PUnit.unit).next+1+1-> ∃(u:Heap×UpN×Nat),L3 id l x.2 u (b3U x) (Zv x) (Fn.func 101) (Fn.func 103) (sV v f n d (h2=u.1/\(UpS l G D v r h (u.1) (Ua u) (a5V u)/\UpM u.1 (Ua u) (a5V u) (Nm l G D v f r))/\True)))) (∃(u:Heap×UpN×Nat),L3 id l x.2 u (b3U x) (Zv x) (Fn.func 101) (Fn.func 103) (sV v f n d ((pR x.1 L O K).set (Zv x) (IObj.cells (IV.bool V::List.drop 1 T))=u.1/\(UpS l G D v r h u.1 (Ua u) (a5V u)/\UpM u.1 (Ua u) (a5V u) (Nm l G D v f r))/\True))))))))/\(∀(g:Heap×UpN×Nat)(ba:FF),UpS l G D v r h g.1 (oX g) (a5U g)/\UpM (g.1) (oX g) (a5U g) (Nm l G D v f r)->aF (sW l n) (aT g.1 (UpN.iU (oX g)) λc2=>kQ c2 ((0:Nat)+n.toNat*1) λb1=>aK (!b1) (aF (sW l n) (aT g.1 (UpN.iR (oX g)) λa6=>aN .i64 a6 ((0:Nat)+n.toNat*2) λX=>aN .i64 a6 ((0:Nat)+n.toNat*2+1) λY=> ∃(o:Option Iv)(m:Nat),D3 g.1 (UpN.i10 (oX g)) (UpN.i9 (oX g)) o/\Heap.get g.1 (UpN.i5 (oX g))=IObj.cells [iI (m:Int)]/\(aT g.1 (UpN.i5 (oX g)) λc3=>aN .i64 c3 0 λb5=>aK (decide (b5<=12)) (aF (sW l d) (aT g.1 (UpN.iU (oX g)) λc4=>kQ c4 ((0:Nat)+d.toNat*1) λb2=>aK (!b2) (∃(A:Y15)(a9 y z:IV)(R:List Iv),(g.1.get id=IObj.cells [IV.vslice none 0 A.length 3 (List.flatMap cN A),a9,y,z]/\Heap.get g.1 (UpN.iR (oX g))=IObj.cells (List.flatMap cR R)/\R.length=A.length/\l.length=A.length)/\(∀(i:Nat),i<A.length->Prod.fst (List.getD R i ((0:Int),(0:Int)))<=Prod.snd (List.getD R i ((0:Int),(0:Int)))/\cF (List.getD R i ((0:Int),(0:Int))))/\(0<=d/\d< (A.length:Int)/\List.getD (aD A) d.toNat 0=1/\A.length<=100000)/\L4 id l g G D v f n d r h ((jL A (LV.mk v f n d) ((tY o m (X,Y)).1,(tY o m (X,Y)).2) R).2) ((jL A (LV.mk v f n d) ((tY o m (X,Y)).1,(tY o m (X,Y)).2) R).1)) (L4 id l g G D v f n d r h true (tY o m (X,Y))))) (L4 id l g G D v f n d r h true (tY o m (X,Y))))/\∀(g:Heap×UpN×Nat)(ba:FF),UpS l G D v r h g.1 (oX g) (a5U g)/\UpM g.1 (oX g) (a5U g) (Nm l G D v f r)/\gU (uG l D) n=false->aK ((Sq l G D v f n d r).2) (∃(o:Option Iv),D3 g.1 (lU g) (gT g) o/\UpN.i12 (oX g)≠UpN.i11 (oX g)/\∀(h2:Heap),D3 h2 (lU g) (gT g) (joG o (((Sq l G D v f n d r).1).1,((Sq l G D v f n d r).1).2))->(∀(j:Nat),j≠UpN.i12 (oX g)->j≠UpN.i11 (oX g)->Heap.get h2 j=g.1.get j)->Heap.next h2=g.1.next-> ∃(u:Heap×UpN×Nat),L5 id g u v f n d (h2=u.1/\(L6 l G D v r h u f n d)/\True)) (∃(u:Heap×UpN×Nat),L5 id g u v f n d (g.1=u.1/\(L6 l G D v r h u f n d)/\True)))) (∃(u:Heap×UpN×Nat),L5 id g u v f n d (g.1=u.1/\(L6 l G D v r h u f n d)/\True))))/\(∀(g:Heap×UpN×Nat)(ba:FF),UpS l G D v r h g.1 (oX g) (a5U g)/\UpM g.1 (oX g) (a5U g) (qU l G D (LV.mk v f n d) r)->aT g.1 (lU g) λc5=>kQ c5 0 λb3=>aK (!b3) (Q (.bool false) g.1) (aT (g.1) (UpN.i10 (oX g)) λc6=>kQ c6 0 λb4=>aK b4 (aT g.1 (gT g) λa7=>aN .i64 a7 0 λb6=>aN .i64 a7 1 λb7=>aT g.1 (UpN.i9 (oX g)) λa8=>aN .i64 a8 0 λb8=>aN .i64 a8 1 λb9=>aK (b6==b8&& (b7==b9&&true)) (Q (.bool false) g.1) (Hk g id v Q)) (Hk g id v Q)))/\True):=by kernel_rfl
theorem f6U: ∀xs h Q,e0T xs h Q->aM env 55 xs h Q:=by
 intro xs h Q hk;unfold e0T at hk;split at hk
 .rename_i id v f n d q;obtain⟨l,mk,X,i,y,r,⟨rfl,hb⟩,hw,K,c1,b3,b4⟩:=hk;refine aL (d6J) (f8U id l mk X i y v f n d r h Q) ?_;delta d3H d3I d3F e6G Hn pR L7 Hm sV Hl b3U d3G Zv sW pS gT lU L3 Ua a5V oX a5U L4 L5 L6 Hk iI; (try dsimp -iota -proj only);obtain⟨hg,T⟩:=hb;have d1:=hw;obtain⟨hL,b2,⟨c0,V⟩,⟨c8,c7⟩,b0,b5⟩:=(show AzS h l mk (.map X) i y from hw);have a7:X<h.next:=c7 X rfl;obtain⟨c9,k1,k2⟩:=c0;obtain⟨m',d0,e',u2,u3⟩: ∃(m:Nat)(es:List (Int×Bool)),IV.map X= .map m/\h.get m= .map (cM IV.bool es)/\∀k,y k=(qY k es).getD false:=by
   rcases c8 with⟨q,_⟩|q
   .cases q
   .exact q
  obtain rfl:X=m':=by cases e';rfl
  obtain⟨lf,ln,ld⟩:=(show LvS l f n d from c1);have a3:=rS l i;have a5:=a4Q l y;refine⟨⟨l,mk,.map X,i,y,⟨(aO T).trans hg,BO T⟩,⟨hL,b2,⟨⟨c9,(aO V).trans k1,k2⟩,BO V⟩,⟨.inr ⟨X,d0,rfl,(aO a7).trans u2,u3⟩,λm hm=>by cases hm;exact BO a7⟩,b0,b5⟩,λh2 iR iU eR eU ⟨n1,n2,n3,n4,n5⟩ fr=>?_⟩,?_,?_,?_⟩
  .have a2: ∀j,j<h.next->((h2.push .free).push .free).get j=h.get j:=λj L=>by
    rw [aO (show j< (h2.push .free).next by show j<h2.next+1;omega),aO JZ,fr j JZ,aO L]
   have p2:((h2.push .free).push .free).get h2.next= .free:=by rw [aO (show h2.next< (h2.push .free).next from AQ _),aW]
   have p3:((h2.push .free).push .free).get (h2.next+1)= .free:=aW;have O:h2.next≠h2.next+1:=JZ;have fin: ∀q:Iv,(∀z,i v=some z->z=q)->UpS l i y v r h (I4 h2 q.1 q.2 (i v).isSome) ⟨h.next,iR,iU,h2.next,h2.next+1,0,0⟩ (I4 h2 q.1 q.2 (i v).isSome).next:=λq hq=>
    ⟨(I5 n2).trans eR,(I5 n4).trans eU,(I5 (show h.next<h2.next by omega)).trans ((fr _ (AQ _)).trans aW),Xs hq,⟨by show h.next<=iR;omega,by show h.next<=iU;omega,AF _,by show h.next<=h2.next;omega,by show h.next<=h2.next+1;omega⟩,⟨by show iR<h2.next+2;omega,by show iU<h2.next+2;omega,by show h.next<h2.next+2;omega,by show h2.next<h2.next+2;omega,by show h2.next+1<h2.next+2;omega,AF _⟩,λj L=>(I5 JZ).trans ((fr j JZ).trans (aO L))⟩
   refine aC ((a2 id T).trans hg) (mT rfl ?_)
   cases e:i v with
   |some q=>
    rw [e]at fin;exact fL ((a2 mk V).trans k1) (cX ((k2 v).trans e)) (Em rfl rfl (aR rfl (aR rfl (lB p2 (lB ((aG O.symm).trans p3) (aC ((aG O).trans aH) (aA rfl (aC ((aG O.symm).trans aH) (aA rfl ⟨(I4 h2 q.1 q.2 true,⟨h.next,iR,iU,h2.next,h2.next+1,0,0⟩),KD,KD,KD,KD,KD,KD,KD,KD,KD,⟨fin q (λz hz=>(AV hz).symm),trivial⟩,trivial⟩)))))))))
   |none=>
    rw [e]at fin;exact kX ((a2 mk V).trans k1) (fB ((k2 v).trans e)) (lB p2 (lB ((aG O.symm).trans p3) (aC ((aG O).trans aH) (aA rfl (aC ((aG O.symm).trans aH) (aA rfl ⟨(I4 h2 0 0 false,⟨h.next,iR,iU,h2.next,h2.next+1,0,0⟩),KD,KD,KD,KD,KD,KD,KD,KD,KD,⟨fin (0,0) (λz hz=>by cases hz),trivial⟩,trivial⟩))))))
  .rintro⟨g,x⟩ _ ⟨A,_⟩;have u:=(show UpS l i y v r h g x g.next from A);obtain⟨l1,l2,l3,l4,l5,_⟩:=u.lt;obtain⟨q,w1,s1,e1⟩:=u.old;have pp: ∀j,j<g.next->((g.push .free).push .free).get j=g.get j:=λj L=>by
    rw [aO (show j< (g.push .free).next from BO L),aO L]
   have p2:((g.push .free).push .free).get g.next= .free:=by rw [aO (show g.next< (g.push .free).next from AQ _),aW]
   have p3:((g.push .free).push .free).get (g.next+1)= .free:=aW;have O:g.next≠g.next+1:=JZ;have G:=Xs (g:=g) e1;have gl: ∀j,j<g.next->(I4 g q.1 q.2 (i v).isSome).get j=g.get j:=λj L=>I5 L
   have a4: ∀b6 b7,UpS l i y v r h (I4 g q.1 q.2 (i v).isSome) ⟨x.i5,x.iR,x.iU,x.i9,x.i10,b6,b7⟩ g.next:=λb6 b7=>by
    have:=u.mono (g2:=I4 g q.1 q.2 (i v).isSome) gl (show g.next<=g.next+2 by omega);exact⟨this.R,this.U,this.r5,this.old,this.ge,this.lt,this.fr⟩
   refine aC ((pp _ l4).trans w1) (aR rfl (aR rfl (aC ((pp _ l5).trans s1) (kS rfl (lB p2 (lB ((aG O.symm).trans p3) (aC ((aG O).trans aH) (aA rfl ⟨?_,aC ((aG O.symm).trans aH) (aA rfl ?_)⟩))))))))
   .unfold fO
    rw [aG (by(try dsimp only);omega),aG (by(try dsimp only);omega),aG (by(try dsimp only);omega)]
   refine aP lf (aC ((gl _ l2).trans u.U) (H1 (by rw [a5];exact lf) (by rw [AY,AM]) (aB (λc=>?_) (λc=>?_))))
   .rw [BS]at c;have ej:Nm l i y v f r=joG (i v) (tY (i v) r (gR (rG l i) f)):=if_neg (by rw [c];decide);refine aP lf (aC ((gl _ l1).trans u.R) (rM (by rw [a3];exact lf) (by rw [AY]) ⟨i v,r,a4 0 0|>.old,(gl _ l3).trans u.r5,i v,G,O.symm,λh3 ho fr nx=>⟨(h3,⟨x.i5,x.iR,x.iU,x.i9,x.i10,g.next,g.next+1⟩,g.next),KD,KD,KD,KD,KD,KD,KD,KD,KD,KD,KD,KD,KD,⟨(a4 g.next (g.next+1)).mono (λj L=>fr j (by(try dsimp only);omega) (by(try dsimp only);omega)) (HD nx.symm),by dsimp only;rw [ej];exact ho,⟨AF _,DM _,by rw [nx];show g.next<g.next+2;omega,by rw [nx];show g.next+1<g.next+2;omega,O.symm⟩⟩,trivial⟩⟩))
   .rw [CA]at c;have ej:Nm l i y v f r=i v:=if_pos c;exact⟨(I4 g q.1 q.2 (i v).isSome,⟨x.i5,x.iR,x.iU,x.i9,x.i10,g.next,g.next+1⟩,g.next),KD,KD,KD,KD,KD,KD,KD,KD,KD,KD,KD,KD,KD,⟨a4 g.next (g.next+1),by dsimp only;rw [ej];exact G,⟨AF _,DM _,by show g.next<g.next+2;omega,by show g.next+1<g.next+2;omega,O.symm⟩⟩,trivial⟩
  .rintro⟨g,x,b⟩ _ ⟨A,D⟩;have u:=(show UpS l i y v r h g x b from A);have Y:=(show UpM g x b (Nm l i y v f r)from D);have eu:=c4H l i y v f n d r;have b1:g.get id=h.get id:=u.fr id T;refine aP ln (aC u.U (H1 (by rw [a5];exact ln) (by rw [AY,AM]) (aB (λc=>?_) (λc=>?_))))
   .rw [BS]at c;rw [if_neg (by rw [c];decide)]at eu;refine aP ln (aC u.R (rM (by rw [a3];exact ln) (by rw [AY]) ⟨i v,r,u.old,u.r5,⟨?_,?_⟩⟩))
    .refine aC u.r5 (aR rfl (cV (λc2=>?_) (λc2=>?_)))
     .refine aP ⟨ld.1,ld.2.1⟩ (aC u.U (H1 (by rw [a5];exact⟨ld.1,ld.2.1⟩) (by rw [AY,AM]) (aB (λc3=>?_) (λc3=>?_))))
      .rw [BS]at c3;have ep:Sq l i y v f n d r=jL l ⟨v,f,n,d⟩ (tY (i v) r (gR (rG l i) n)) (rG l i):=if_pos ⟨JZ,c3⟩;exact⟨l,_,_,_,rG l i,⟨b1.trans hg,u.R,a3,rfl⟩,Ag b2 b0,⟨ld.1,ld.2.1,ld.2.2,hL.1⟩,⟨(g,x,b),KD,KD,KD,KD,KD,KD,KD,KD,KD,KD,KD,KD,(by rw [ep]),KD,(by rw [ep]),KD,⟨A,D,c⟩,trivial⟩⟩
      .rw [CA]at c3;have ep:Sq l i y v f n d r=(tY (i v) r (gR (rG l i) n),true):=if_neg (λq=>by rw [c3]at q;cases q.2);exact⟨(g,x,b),KD,KD,KD,KD,KD,KD,KD,KD,KD,KD,KD,KD,(by rw [ep]),KD,(by rw [ep]),KD,⟨A,D,c⟩,trivial⟩
     .have ep:Sq l i y v f n d r=(tY (i v) r (gR (rG l i) n),true):=if_neg (λq=>by have:=q.1;omega);exact⟨(g,x,b),KD,KD,KD,KD,KD,KD,KD,KD,KD,KD,KD,KD,(by rw [ep]),KD,(by rw [ep]),KD,⟨A,D,c⟩,trivial⟩
    .rintro⟨g,x,b⟩ _ ⟨A,D,_⟩;have u:=(show UpS l i y v r h g x b from A);have Y:=(show UpM g x b (Nm l i y v f r)from D);obtain⟨l1,l2,l3,l4,l5,l6⟩:=u.lt;obtain⟨g1,g2,g3,g4,g5⟩:=Y.ge;refine aB (λc4=>?_) (λc4=>?_)
     .rw [if_pos c4]at eu;exact⟨Nm l i y v f r,Y.now,g5,λh3 ho fr nx=>⟨(h3,x,b),KD,KD,KD,KD,KD,KD,KD,KD,⟨u.mono (λj L=>fr j (by(try dsimp only);omega) (by(try dsimp only);omega)) (HD nx.symm),by dsimp only;rw [eu];exact ho,⟨g1,g2,by rw [nx];exact g3,by rw [nx];exact g4,g5⟩⟩,trivial⟩⟩
     .rw [if_neg (by rw [c4];decide)]at eu;exact⟨(g,x,b),KD,KD,KD,KD,KD,KD,KD,KD,⟨A,by dsimp only;rw [eu];exact Y.now,Y.ge⟩,trivial⟩
   .rw [CA]at c;rw [if_pos c]at eu;exact⟨(g,x,b),KD,KD,KD,KD,KD,KD,KD,KD,⟨A,by dsimp only;rw [eu];exact Y.now,Y.ge⟩,trivial⟩
  .refine⟨?_,trivial⟩;rintro⟨g,x,b⟩ _ ⟨A,D⟩;have u:=(show UpS l i y v r h g x b from A);have Y:=(show UpM g x b (qU l i y ⟨v,f,n,d⟩ r)from D);obtain⟨l1,l2,l3,l4,l5,l6⟩:=u.lt;obtain⟨g1,g2,g3,g4,g5⟩:=Y.ge;obtain⟨o1,o2,o3,o4,o5⟩:=u.ge;have Z:=(u.fr id T).trans hg;have gk:=u.fr mk V;have gu:=u.fr X a7;have a0:h.next<=g.next:=JZ;obtain⟨q,w1,s1,e1⟩:=Y.now;refine aC s1 (kS rfl (aB (λc=>?_) (λc=>?_)))
   .refine b3 ?_ g u.fr a0;unfold oT
    cases e:qU l i y ⟨v,f,n,d⟩ r with
    |none=>rfl
    |some z=>rw [e]at c;cases c
   .have a1:qU l i y ⟨v,f,n,d⟩ r=some q:=by
     cases e:qU l i y ⟨v,f,n,d⟩ r with
     |none=>rw [e]at c;cases c
     |some z=>rw [e1 z e]
    obtain⟨q2,w2,s2,e2⟩:=u.old;refine aC s2 (kS rfl (aB (λc5=>?_) (λc5=>?_)))
    .have a9:i v=some q2:=by
      cases e:i v with
      |none=>rw [e]at c5;cases c5
      |some z=>rw [e2 z e]
     refine aC w1 (aR rfl (aR rfl (aC w2 (aR rfl (aR rfl (aB (λc6=>?_) (λc6=>?_)))))))
     .refine b3 ?_ g u.fr a0;simp only [AN,AE,beq_iff_eq]at c6;unfold oT
      rw [a1];show(if i v=some q then none else some q)=none;rw [if_pos (by rw [a9];exact congrArg some (Prod.ext c6.1.symm c6.2.symm))]
     .have hu:oT l i y ⟨v,f,n,d⟩ r=some q:=by
       unfold oT
       rw [a1];show(if i v=some q then none else some q)=some q;rw [if_neg (λz=>by rw [a9,AC]at z;subst z;simp at c6)]
      exact aC Z (mT rfl (aC Z (mT rfl (aC w1 (aR rfl (aR rfl (zA (e:=eI) q (gk.trans k1) (λv0 n0 b8 hn he=>⟨aG (by(try dsimp only);omega),uO aH hn he (zA (e:=IV.bool) false ((aG K.symm).trans ((aG K.symm).trans (gu.trans u2))) (λv1 n2 b9 a8 a6=>uO aH a8 a6 (b4 q hu _ ⟨_,(aG K).trans ((aG K).trans aH),λk=>by rw [uN,k2 k];rfl⟩ (.inr ⟨X,_,rfl,aH,λk=>by show(if k=v then false else y k)=_;rw [uN,u3 k];split<;>rfl⟩) (λj L a b=>(aG b).trans ((aG b).trans ((aG a).trans ((aG a).trans (u.fr j L))))) a0)))⟩))))))))
    .have hu:oT l i y ⟨v,f,n,d⟩ r=some q:=by
      unfold oT
      rw [a1];show(if i v=some q then none else some q)=some q;rw [if_neg (λz=>by rw [z]at c5;cases c5)]
     exact aC Z (mT rfl (aC Z (mT rfl (aC w1 (aR rfl (aR rfl (zA (e:=eI) q (gk.trans k1) (λv0 n0 b8 hn he=>⟨aG (by(try dsimp only);omega),uO aH hn he (zA (e:=IV.bool) false ((aG K.symm).trans ((aG K.symm).trans (gu.trans u2))) (λv1 n2 b9 a8 a6=>uO aH a8 a6 (b4 q hu _ ⟨_,(aG K).trans ((aG K).trans aH),λk=>by rw [uN,k2 k];rfl⟩ (.inr ⟨X,_,rfl,aH,λk=>by show(if k=v then false else y k)=_;rw [uN,u3 k];split<;>rfl⟩) (λj L a b=>(aG b).trans ((aG b).trans ((aG a).trans ((aG a).trans (u.fr j L))))) a0)))⟩))))))))
 .exact hk.elim
def d8Y:=aV 55 e0T d8X
theorem d6K:aS env d8Y:=aE f6U (d6J)
theorem Wv(i:Y10)(e n:Nat)(c:Y14):mV Go.Proofs.Tryz.prog 49 (.vslice i e n 3 c)= .vslice none 0 n 3 c:=by kernel_rfl
theorem We{h g:Heap}{m:Nat}{i:Lu}(a:knS h m i)(e:g.get m=h.get m):knS g m i:=by
 obtain⟨r,j,l⟩:=a;exact⟨r,e.trans j,l⟩
theorem Yk{h g:Heap}{j:Mo}(a:unS h s j)(e: ∀m,s= .map m->g.get m=h.get m):unS g s j:=by
 rcases a with a| ⟨m,u,i,l,r⟩
 .exact .inl a
 .exact .inr ⟨m,u,i,(e m i).trans l,r⟩
def In1(l:Y15)(g:Heap)(i:Nat):Prop:=g.get 2= .cells [.vslice none 0 (l).length 3 ((l).flatMap cN),.vslice none 0 (aD l).length 1 ((aD l).map (IV.int .i64)),.map 0,.map 1]/\g.get 0= .map []/\(∃es:List (Int×Bool),g.get 1= .map (cM IV.bool es)/\∀k,(qY k es).getD false=((aI l).take i).any (λx=>decide (x.v=k)))/\3<=g.next
def InS(l:Y15)(g:Heap)(i:Lu):Prop:=g.get 2= .cells [.vslice none 0 (l).length 3 ((l).flatMap cN),.vslice none 0 (aD l).length 1 ((aD l).map (IV.int .i64)),.map 0,.map 1]/\knS g 0 i/\unS g (.map 1) (zL (aI l) i)/\3<=g.next
def RdN(l:Y15)(n:Nat):Prop:= ∀m,m<n->(eT l (aI l) m).2=true
def in1(l:Y15):Inv':=dL (Nat×Heap) (λx=>[(3,.v (.ptr 2 0)),(4,.v (.vslice none 0 (aI l).length 4 ((aI l).flatMap E5))),(32,.v (.vslice none 0 (aI l).length 4 ((aI l).flatMap E5))),(33,.v (.int .i64 ((aI l).length:Int))),(34,.v (.int .i64 (x.1:Int)))]) (λ_=>[]) (λx=>x.2) (λx=>x.1<=(aI l).length/\In1 l x.2 x.1) (λx=>(aI l).length-x.1)
def in2(l:Y15):Inv':=dL (Nat×Heap) (λx=>[(3,.v (.ptr 2 0)),(4,.v (.vslice none 0 (aI l).length 4 ((aI l).flatMap E5))),(7,.v (.int .i64 ((x.1+1:Nat):Int))),(8,.v (.bool (eT l (aI l) x.1).2))]) (λ_=>[]) (λx=>x.2) (λx=>RdN l x.1/\InS l x.2 (eT l (aI l) x.1).1) (λx=>(13+3*(aI l).length-x.1)*2000000)
def in3(l:Y15):Inv':=dL (Nat×Nat×Heap) (λx=>[(3,.v (.ptr 2 0)),(4,.v (.vslice none 0 (aI l).length 4 ((aI l).flatMap E5))),(7,.v (.int .i64 ((x.1+1:Nat):Int))),(8,.v (.bool (((aI l).take x.2.1).foldl (Ga l (aI l) (x.1+1)) ((eT l (aI l) x.1).1,false)).2)),(48,.v (.vslice none 0 (aI l).length 4 ((aI l).flatMap E5))),(49,.v (.int .i64 ((aI l).length:Int))),(50,.v (.int .i64 (x.2.1:Int)))]) (λ_=>[]) (λx=>x.2.2)
 (λx=>(RdN l (x.1+1)/\x.2.1<=(aI l).length)/\InS l x.2.2 (((aI l).take x.2.1).foldl (Ga l (aI l) (x.1+1)) ((eT l (aI l) x.1).1,false)).1) (λx=>(13+3*(aI l).length-x.1)*2000000+((aI l).length-x.2.1))
def in4(l:Y15):Inv':=dL (Nat×Nat×Heap×IV) (λx=>[(3,.v (.ptr 2 0)),(4,.v (.vslice none 0 (aI l).length 4 ((aI l).flatMap E5))),(11,.v x.2.2.2),(59,.v (.vslice none 0 (aI l).length 4 ((aI l).flatMap E5))),(60,.v (.int .i64 ((aI l).length:Int))),(61,.v (.int .i64 (x.2.1:Int)))]) (λ_=>[]) (λx=>x.2.2.1)
 (λx=>(RdN l x.1/\(eT l (aI l) x.1).2=false)/\x.2.1<=(aI l).length/\InS l x.2.2.1 (eT l (aI l) x.1).1/\OvC cL 3 3 x.2.2.1 x.2.2.2 (mW ((aI l).take x.2.1) (eT l (aI l) x.1).1)) (λx=>(aI l).length-x.2.1)
def b8G(xs:Y14)(h:Heap)(K:KT):Prop:=match xs with
 | [.agg [g0,g1,.vslice none e0 n 3 c,g3,g4]]=> ∃l:Y15,(n=l.length/\c=l.flatMap cN)/\(aY g0=true/\aY g1=true/\aY g3=true/\aY g4=true)/\Lv l/\(∀n∈l,aZ n.im)/\∀N,(∀m,m<N->(eT l (aI l) m).2=true)->(eT l (aI l) N).2=false->K (.vslice none 0 (mW (aI l) (eT l (aI l) N).1).length 3 ((mW (aI l) (eT l (aI l) N).1).flatMap cL)) h
 |_=>False
def Tv(g:Nat×Nat×Heap):=g.2.2
def b3M:=IV.int .i64
def d2Q(l:Y15)(g:Nat×Nat×Heap):=(13:Nat)+3*(aI l).length-g.1
def d2R:=TypeDesc.int .i64
def dP(g:Y15):TV:=TV.v (.vslice none 0 ((aI g).length) 4 (List.flatMap E5 (aI g)))
def lV(l:Y15)(g:Nat)(i:Y15)(j:TV)(m:TV)(r:Prop):Prop:=some (TV.v (.ptr g 0))=some (TV.v (.ptr 2 0))/\some (dP i)=some (dP l)/\some j=some m/\r
def nY(l:Y15)(g:Y15)(i:Int)(j:Int)(m:Prop):Prop:=tI (↑((aI g).length):Int)=tI (↑((aI l).length):Int)/\tI i=tI j/\m
def xG(i:Nat×Heap)(g:Y15)(j:Nat)(l:Nat)(m:Prop):Prop:=i.2.get 2=IObj.cells [IV.vslice none 0 g.length 3 (List.flatMap cN g),IV.vslice none 0 ((aD g).length) 1 (List.map b3M (aD g)),IV.map j,IV.map l]/\m
def Ht(l:Y15)(g:Nat×Heap):Prop:=g.1<=List.length (aI l)/\xG g l 0 1 (g.2.get 0=IObj.map []/\(∃(i:List (Int×Bool)),g.2.get 1=IObj.map (cM IV.bool i)/\∀(j:Int),Option.getD (qY j i) false=List.any (List.take g.1 (aI l)) λm=>decide
 (LV.v m=j))/\3<=Heap.next g.2)
def L9(l:Y15)(g:Int)(u:Int->Int->Int->Int->Prop):Prop:=aF (decide (0<=g) &&decide (g< (↑((aI l).length):Int))) (aN .i64 (List.flatMap E5 (aI l)) (g.toNat*4) λi=>aN .i64 (List.flatMap E5 (aI l)) (g.toNat*4+1) λj=>aN .i64 (List.flatMap E5 (aI l)) (g.toNat*4+1+1) λm=>aN .i64
 (List.flatMap E5 (aI l)) (g.toNat*4+1+1+1) λr=>u i j m r)
def Hr(l:Y15)(j:Int)(m:IV)(r:Nat×Heap)(u:Nat×Heap->Prop):Prop:= ∃(g:Nat×Heap),lV l 2 l (TV.v (.int .i64 j)) (TV.v (.int .i64 (↑(g.1+1):Int))) (some (TV.v m)=some (TV.v (.bool ((eT l (aI l) g.1).2)))/\r.2=g.2/\((∀(i:Nat),i<g.1->Prod.snd (eT l (aI l) i)=true)/\xG g l (0:
 Nat) 1 (knS g.2 0 ((eT l (aI l) g.1).1)/\unS g.2 (IV.map 1) (zL (aI l) ((eT l (aI l) g.1).1))/\3<=Heap.next g.2))/\u g)
def nX(l:Y15)(g:Nat×Nat×Heap):=List.foldl (Ga l (aI l) (g.1+1)) ((eT l (aI l) g.1).1,false) (List.take g.2.1 (aI l))
def Hs(l:Y15)(g:Nat×Nat×Heap):Prop:=((∀(i:Nat),i<g.1+1->Prod.snd (eT l (aI l) i)=true)/\g.2.1<=List.length (aI l))/\xG g.2 l 0 1 (knS g.2.2 0 ((nX l g).1)/\unS g.2.2 (IV.map 1) (zL (aI l) ((nX l g).1))/\3<=Heap.next g.2.2)
def Hq(i:Nat×Nat×Heap)(h2:Heap)(l:Y15)(j:IV):Prop:=(Tv i).next<=Heap.next h2-> ∃(g:Nat×Nat×Heap),lV l 2 l (TV.v (.int .i64 (↑(i.1+1):Int))) (TV.v (.int .i64 (↑(g.1+1):Int))) (some (TV.v j)=some (TV.v (.bool ((nX l g).2)))/\some (dP l)=some (dP l)/\nY l l (wW
 ((i.2.1:Int)+1)) (g.2.1:Int) (h2=g.2.2/\(Hs l g)/\((13:Nat)+3*(aI l).length-g.1)*2000000+((aI l).length-g.2.1)< (d2Q l i)*2000000+((aI l).length-i.2.1)))
def kB(g:Nat×Nat×Heap×IV):IV:=g.2.2.2
def fR(g:Nat×Nat×Heap×IV):Heap:=g.2.2.1
def L8(l:Y15)(g:Nat×Nat×Heap×IV):Prop:=((∀(i:Nat),i<g.1->Prod.snd (eT l (aI l) i)=true)/\Prod.snd (eT l (aI l) g.1)=false)/\g.2.1<=List.length (aI l)/\((fR g).get 2=IObj.cells [IV.vslice none 0 l.length 3 (List.flatMap cN l),IV.vslice none 0 ((aD l).length) 1 (List.map
 b3M (aD l)),IV.map 0,IV.map 1]/\knS (fR g) 0 ((eT l (aI l) g.1).1)/\unS (fR g) (IV.map 1) (zL (aI l) ((eT l (aI l) g.1).1))/\3<=Heap.next (fR g))/\OvC cL 3 3 (fR g) (kB
 g) (mW (List.take g.2.1 (aI l)) ((eT l (aI l) g.1).1))
def Hp(i:Nat×Nat×Heap×IV)(j:Int)(l:Y15)(A:Int)(D:Int):Prop:=dX (fR i) 3 24 (kB i) 1 [iI j,iI A,iI D] λm r u y z=> ∃(g:Nat×Nat×Heap×IV),lV l 2 l (TV.v (.vslice (some m) r u 3 y)) (TV.v (kB g)) (some (dP l)=some (dP l)/\nY l l (wW ((i.2.1:Int)
 +1)) (g.2.1:Int) (z=g.2.2.1/\(L8 l g)/\List.length (aI l)-g.2.1< (aI l).length-i.2.1))
def Hu(z:Nat×Nat×Heap×IV)(i:Int)(l:Y15):=aT (fR z) 2 λj=>Bd j 2 λm=>kW (fR z) m d2R (iI i) (λr=>Sd 2 r 0 λg=>aN .i64 g 0 λu=>aN .i64 g 1 λy=>Hp z i l u y) (Hp z i l 0 0)
theorem f2C(l:Y15)(g0 g1 g3 g4:IV)(e0:Nat)(h:Heap)(Q:KT):dF (aU d8Y) env 23 cC (zE 5 (in1 l) (zE 10 (in2 l) (zE 1000014 (in3 l) (mJ 21 (in4 l))))) bD [.agg [g0,g1,.vslice none e0 (l).length 3 ((l).flatMap cN),g3,g4]] h Q=(
 aF (aQ [IV.agg [g0,g1,IV.vslice none 0 l.length 3 (List.flatMap cN l),g3,g4]]) (∃(z:Y15),(l.length=z.length/\List.flatMap cN l=List.flatMap cN z)/\Lv z/\∃(u:Y15),(l.length=u.length/\List.flatMap cN l=List.flatMap cN u)/\((aD z).length=u.length/\List.map b3M (aD z)=List.map b3M (aD u))/\Lv u/\(∃(x:Nat×Heap),lV l ((0:Nat)+1+1) u (dP u) (dP l) (nY l u 0 (x.1:Int) (Heap.mk (PT.node (PT.node PT.nil (some (IObj.map [])) PT.nil) (some (IObj.map [])) (PT.node PT.nil (some (IObj.cells [IV.vslice none 0 l.length 3 (List.flatMap cN l),IV.vslice none 0 ((aD z).length) 1 (List.map b3M (aD z)),IV.map 0,IV.map ((0:Nat)+1)])) PT.nil)) ((0:Nat)+1+1+1)=x.2/\(Ht l x)/\True)))/\∀(x:Nat×Heap)(b:FF),x.1<=List.length (aI l)/\In1 l x.2 x.1->aK (decide ((x.1:Int)< (↑((aI l).length):Int))) (L9 l (x.1:Int) (λn0 n1 n2 n3=>aT x.2 2 λr4=>Bd r4 3 λi5=>wK x.2 i5 d2R (iI n0) (IV.bool true) λY=> ∃(D:Nat×Heap),lV l 2 l (dP l) (dP l) (nY l l (wW ((x.1:Int)+1)) (D.1:Int) (x.2.set i5 (IObj.map Y)=D.2/\(Ht l D)/\List.length (aI l)-D.1< (aI l).length-x.1)))) ((Hr l 1 (IV.bool true) x (λD=>True))/\∀(x:Nat×Heap)(b:FF),RdN l x.1/\InS l x.2 ((eT l (aI l) x.1).1)->aK ((eT l (aI l) x.1).2) (∃(M:Nat),(∃(g:Nat×Nat×Heap),lV l 2 l (TV.v (.int .i64 (↑(x.1+(1:Nat)):Int))) (TV.v (.int .i64 (↑(g.1+1):Int))) (some (TV.v (.bool false))=some (TV.v (.bool ((nX l g).2)))/\some (dP l)=some (dP l)/\nY l l 0 (g.2.1:Int) (x.2=g.2.2/\(Hs l g)/\(d2Q l g)*2000000+((aI l).length-g.2.1)<=M)))/\∀(g:Nat×Nat×Heap)(b:FF),(RdN l (g.1+1)/\g.2.1<=List.length (aI l))/\InS l (Tv g) ((nX l g).1)->(d2Q l g)*(2000000:Nat)+((aI l).length-g.2.1)<=M->aK (decide ((g.2.1:Int)< (↑((aI l).length):Int))) (L9 l (g.2.1:Int) (λT n8 n9 G=> ∃(A:Y15)(O L:Nat)(R:Int->Option Iv)(V:Int->Bool)(r:Nat),((↑(g.1+1):Int)=(r:Int)/\xG g.2 A O L (2< (Tv g).next))/\AzS (Tv g) A O (IV.map L) R V/\O≠L/\LvS A n8 n9 G/\(oT A R V (LV.mk T n8 n9 G) r=none-> ∀(h2:Heap),(∀(j:Nat),j< (Tv g).next->Heap.get h2 j=(Tv g).get j)->Hq g h2 l (IV.bool ((nX l g).2)))/\∀(y:Iv),oT A R V (LV.mk T n8 n9 G) r=some y-> ∀(h2:Heap),knS h2 O (qT R T y)->(unS h2 (IV.map L) λw=>if w=T then false else V w)->(∀(j:Nat),j< (Tv g).next->j≠O->j≠L->Heap.get h2 j=(Tv g).get j)->Hq g h2 l (IV.bool true))) (Hr l (wW ((↑(g.1+1):Int)+1)) (IV.bool ((nX l g).2)) g.2 (λa2=>((13:Nat)+3*(aI l).length-a2.1)*2000000< ((13:Nat)+3*(aI l).length-x.1)*2000000))) ((∃(i:Nat×Nat×Heap×IV),lV l 2 l (TV.v IV.nilslice) (TV.v (kB i)) (some (dP l)=some (dP l)/\nY l l 0 (i.2.1:Int) (x.2=i.2.2.1/\(L8 l i)/\True)))/\∀(m:Nat×Nat×Heap×IV)(b:FF),(RdN l m.1/\Prod.snd (eT l (aI l) m.1)=false)/\m.2.1<=List.length (aI l)/\InS l (fR m) ((eT l (aI l) m.1).1)/\OvC cL 3 3 (fR m) (kB m) (mW (List.take m.2.1 (aI l)) ((eT l (aI l) m.1).1))->aK (decide (((m.2.1):Int)< (↑((aI l).length):Int))) (L9 l (m.2.1:Int) (λK a3 a4 a5=>aT (fR m) 2 λa0=>Bd a0 3 λZ=>kW (fR m) Z d2R (iI K) (λa1=>kQ a1 0 λX=>aK (!X) (Hu m K l) (∃(i:Nat×Nat×Heap×IV),lV l 2 l (TV.v (kB m)) (TV.v (kB i)) (some (dP l)=some (dP l)/\nY l l (wW ((↑((m.2).1):Int)+1)) (i.2.1:Int) (m.2.2.1=i.2.2.1/\(L8 l i)/\List.length (aI l)-i.2.1< (aI l).length-m.2.1)))) (Hu m K l))) (aF (aQ [mV Proofs.Tryz.prog 49 (kB m)]) (Q (eF [mV Proofs.Tryz.prog 49 (kB m)]) h)))))):=by kernel_rfl
theorem e9M: ∀xs h Q,b8G xs h Q->aM env 23 xs h Q:=by
 intro xs h Q hk;unfold b8G at hk;split at hk
 .rename_i g0 g1 e0 n c g3 g4;obtain⟨l,⟨rfl,rfl⟩,hp,hL,a5,hk⟩:=hk;refine aL (d6K) (f2C l g0 g1 g3 g4 e0 h Q) ?_;delta b3M dP lV nY xG Ht L9 d2R Hr nX Hs d2Q Tv Hq kB fR L8 Hp Hu tI wW iI; (try dsimp -iota -proj only);have V: ∀x:Nat,(x:Int).toNat=x:=AK
  obtain⟨p0,p1,p3,p4⟩:=hp;have c3:=(show Lv l from hL).1;have c0:=H6 l;have b8:=bA l;refine aA (by simp only [aQ,aY,bX,p0,p1,p3,p4,AN,EI]) ⟨l,⟨rfl,rfl⟩,hL,l,⟨rfl,rfl⟩,⟨b8,rfl⟩,hL,⟨(0,_),KD,KD,KD,KD,KD,KD,⟨AR _,KD,KD,⟨[],KD,λ_=>KD⟩,AF _⟩,trivial⟩,?_⟩;rintro⟨i,g⟩ _ ⟨hi,b3⟩;obtain⟨g2,g0,⟨es,g1,ge⟩,gn⟩:=(show In1 l g i from b3);dsimp only at hi⊢;refine cV (λc=>?_) (λc=>?_)
  .have u:i< (aI l).length:=JZ;refine aP ⟨JZ,JZ⟩ (aR (by rw [V];exact iO u 0 KA) (aR (by rw [V];exact iO u 1 KA) (aR (by rw [V];exact iO u 2 KA) (aR (by rw [V];exact iO u 3 KA) (?_)))));refine aC g2 (mT rfl (iT g1 (rU _ _ _ _) ⟨(i+1,_),KD,KD,KD,KD,(by rw [AA _ JZ];rfl),KD,⟨u,?_⟩,KE⟩));refine⟨(aG KA).trans g2,(aG KA).trans g0,⟨_,aH,λk=>?_⟩,gn⟩;rw [uN];dsimp only;rw [List.take_succ_eq_append_getElem u,DO,<-ge k]
   by_cases e:k=(aI l)[i].v
   .rw [if_pos e];simp [e]
   .rw [if_neg e];simp only [EB,EU,DA];rw [decide_eq_false (λq=>e q.symm),DA]
  have b6:(aI l).take i=aI l:=AJ JZ;rw [b6]at ge;refine⟨⟨(0,g),KD,KD,KD,KD,KD,⟨λm hm=>absurd hm (DN _),g2,⟨[],g0,λ_=>KD⟩,.inr ⟨1,es,KD,g1,λk=>?_⟩,gn⟩,trivial⟩,?_⟩
  .rw [ge k];show(_&&true)=_;rw [AN]
  rintro⟨n,g⟩ _ ⟨b5,a8⟩;have hR:=(show RdN l n from b5);obtain⟨g2,gk,gu,gn⟩:=(show InS l g (eT l (aI l) n).1 from a8);dsimp only;refine aB (λc=>?_) (λc=>?_)
  .have b0:RdN l (n+1):=λm hm=>by
    rcases BK m n with q|q
    .exact hR m q
    .obtain rfl:m=n:=JZ;exact c
   have hb:=X6 (l:=l) (vs:=aI l) (n:=n) (λm hm=>b0 m JZ);refine⟨(13+3*(aI l).length-n)*2000000+(aI l).length,⟨(n,0,g),KD,KD,KD,KD,KD,KD,KD,KD,⟨⟨b0,AR _⟩,g2,gk,gu,gn⟩,KE⟩,?_⟩;rintro⟨G,j,g3⟩ _ ⟨⟨X,hj⟩,L⟩ hM;dsimp only at X hj hM⊢;have c1:=X6 (l:=l) (vs:=aI l) (n:=G) (λm hm=>(show RdN l (G+1)from X) m JZ);obtain⟨k2,kk,ku,R⟩:=(show InS l g3 _ from L);have a9:=St a5 G;have b4:=Bn a5 (vs:=aI l) (r:=G+1) ((aI l).take j) ((eT l (aI l) G).1,false) (λx hx=>W6 (DY hx)) a9;generalize ha:((aI l).take j).foldl (Ga l (aI l) (G+1)) ((eT l (aI l) G).1,false)=a at*
   refine cV (λcj=>?_) (λcj=>?_)
   .have u:j< (aI l).length:=JZ;have D:((aI l).take (j+1)).foldl (Ga l (aI l) (G+1)) ((eT l (aI l) G).1,false)=Ga l (aI l) (G+1) a (aI l)[j]:=by
     rw [List.take_succ_eq_append_getElem u,GQ,ha];rfl
    refine aP ⟨JZ,JZ⟩ (aR (by rw [V];exact iO u 0 KA) (aR (by rw [V];exact iO u 1 KA) (aR (by rw [V];exact iO u 2 KA) (aR (by rw [V];exact iO u 3 KA) (?_)))));refine⟨l,0,1,a.1,zL (aI l) a.1,G+1,⟨KD,k2,JZ⟩,⟨hL,a5,⟨kk,JZ⟩,⟨ku,λm hm=>by cases hm;omega⟩,b4,λv hv=>c4F hv⟩,KA,W6 (AG u),λhu h3 fr nx=>?_,λy hu h3 e1 A fr nx=>?_⟩
    .have e:=J6 (r:=G+1) (x:=(aI l)[j]) hu;rw [e]at D;exact⟨(G,j+1,h3),KD,KD,KD,(by rw [D]),KD,KD,(by rw [AA _ JZ];rfl),KD,⟨⟨X,u⟩,(fr 2 JZ).trans k2,(by dsimp only;rw [D];exact We kk (fr 0 JZ)),(by dsimp only;rw [D];exact Yk ku (λm hm=>by cases hm;exact fr 1 JZ)),CG R nx⟩,KE⟩
    .have e:=(J7 (r:=G+1) (x:=(aI l)[j]) hu).1;rw [e]at D;exact⟨(G,j+1,h3),KD,KD,KD,(by rw [D]),KD,KD,(by rw [AA _ JZ];rfl),KD,⟨⟨X,u⟩,(fr 2 JZ KA KA).trans k2,(by dsimp only;rw [D];exact e1),(by dsimp only;rw [D];dsimp only;rw [d1J];exact A),CG R nx⟩,KE⟩
   .have a6:(aI l).take j=aI l:=AJ JZ;rw [a6]at ha;have hr:eT l (aI l) (G+1)=a:=ha;refine⟨(G+1,g3),KD,KD,(by rw [AA _ JZ];rfl),(by rw [hr]),KD,⟨X,k2,(by dsimp only;rw [hr];exact kk),(by dsimp only;rw [hr];exact ku),R⟩,KE⟩
  .refine⟨⟨(n,0,g,.nilslice),KD,KD,KD,KD,KD,KD,KD,⟨⟨hR,c⟩,AR _,⟨g2,gk,gu,gn⟩,.inl ⟨rfl,rfl⟩⟩,trivial⟩,?_⟩;rintro⟨N,j,g3,ov⟩ _ ⟨⟨a0,hN⟩,hj,L,Y⟩;dsimp only at a0 hN hj Y⊢;obtain⟨k2,kk,ku,R⟩:=(show InS l g3 _ from L);refine cV (λcj=>?_) (λcj=>?_)
   .have u:j< (aI l).length:=JZ;have ho:=So ((aI l).take j) (eT l (aI l) N).1;rw [AW]at ho;have O:=On ((aI l).take j) (eT l (aI l) N).1 (aI l)[j];rw [<-List.take_succ_eq_append_getElem u]at O;have b2:some (TV.v (IV.int IntKind.i64 (IntKind.i64.wrap ((j:Int)+1))))=some (TV.v (IV.int IntKind.i64 ((j+1:Nat):Int))):=by rw [AA _ JZ];rfl
    refine aP ⟨JZ,JZ⟩ (aR (by rw [V];exact iO u 0 KA) (aR (by rw [V];exact iO u 1 KA) (aR (by rw [V];exact iO u 2 KA) (aR (by rw [V];exact iO u 3 KA) (?_)))));have b1:(aI l).any (λx=>decide (x.v=(aI l)[j].v))=true:=IQ.2 ⟨_,AG u,decide_eq_true rfl⟩;have a3:zL (aI l) (eT l (aI l) N).1 (aI l)[j].v=((eT l (aI l) N).1 (aI l)[j].v).isNone:=by
     unfold zL
     rw [b1,BD]
    obtain⟨b9,q1,q2⟩:=kk;obtain⟨m',a4,q3,q4,q5⟩: ∃(m:Nat)(es:List (Int×Bool)),IV.map 1= .map m/\g3.get m= .map (cM IV.bool es)/\∀k,zL (aI l) (eT l (aI l) N).1 k=(qY k es).getD false:=by
     rcases ku with⟨z,_⟩|z
     .cases z
     .exact z
    obtain rfl:1=m':=by cases q3;rfl
    refine aC k2 (mT rfl ?_)
    cases e:(eT l (aI l) N).1 (aI l)[j].v with
    |none=>
     rw [e]at a3 O;have A:qY (aI l)[j].v a4=some true:=by
      have:=q5 (aI l)[j].v;rw [a3]at this
      cases z:qY (aI l)[j].v a4 with
      |none=>rw [z]at this;cases this
      |some w=>rw [z]at this;exact congrArg some this.symm
     rw [CZ]at O;exact fL q4 (cX A) (kS rfl (bf rfl ⟨(N,j+1,g3,ov),KD,KD,KD,KD,KD,b2,KD,⟨⟨a0,hN⟩,u,L,by dsimp only;rw [O];exact Y⟩,KE⟩))
    |some r=>
     rw [e]at a3 O;have app: ∀(K:Nat->Nat->Nat->Y14->Heap->Prop),(∀i2 A l2 Z (T:Heap),(∃x_1:Nat×Nat×Heap×IV,x_1=(N,j+1,T,.vslice (some i2) A l2 3 Z)/\InS l T (eT l (aI l) N).1/\OvC cL 3 3 T (.vslice (some i2) A l2 3 Z) (mW ((aI l).take (j+1)) (eT l (aI l) N).1))->K i2 A l2 Z T)->dX g3 3 24 ov 1 [.int .i64 (aI l)[j].v,.int .i64 r.1,.int .i64 r.2] K:=λK hK=>by
      refine Y.app (x:=((aI l)[j].v,r)) rfl JZ R λi2 A l2 Z T b7 fr nx=>hK _ _ _ _ _ ⟨_,rfl,⟨(fr 2 KA).trans k2,We ⟨b9,q1,q2⟩ (fr 0 KA),Yk ku (λm hm=>by cases hm;exact fr 1 KA),CG R nx⟩,by rw [O];exact b7⟩
     have A:(qY (aI l)[j].v a4).getD false=false:=by rw [<-q5,a3];rfl
     have fin: ∀(i2 A l2:Nat)(Z:Y14)(T:Heap),(∃x_1:Nat×Nat×Heap×IV,x_1=(N,j+1,T,.vslice (some i2) A l2 3 Z)/\InS l T (eT l (aI l) N).1/\OvC cL 3 3 T (.vslice (some i2) A l2 3 Z) (mW ((aI l).take (j+1)) (eT l (aI l) N).1))->(∃x_1:Nat×Nat×Heap×IV,some (TV.v (.ptr 2 0))=some (TV.v (.ptr 2 0))/\some (TV.v (.vslice none 0 (aI l).length 4 ((aI l).flatMap E5)))=some (TV.v (.vslice none 0 (aI l).length 4 ((aI l).flatMap E5)))/\some (TV.v (.vslice (some i2) A l2 3 Z))=some (TV.v x_1.2.2.2)/\some (TV.v (.vslice none 0 (aI l).length 4 ((aI l).flatMap E5)))=some (TV.v (.vslice none 0 (aI l).length 4 ((aI l).flatMap E5)))/\some (TV.v (.int .i64 ((aI l).length:Int)))=some (TV.v (.int .i64 ((aI l).length:Int)))/\some (TV.v (.int .i64 (IntKind.i64.wrap ((j:Int)+1))))=some (TV.v (.int .i64 (x_1.2.1:Int)))/\T=x_1.2.2.1/\((RdN l x_1.1/\(eT l (aI l) x_1.1).2=false)/\x_1.2.1<=(aI l).length/\InS l x_1.2.2.1 (eT l (aI l) x_1.1).1/\OvC cL 3 3 x_1.2.2.1 x_1.2.2.2 (mW ((aI l).take x_1.2.1) (eT l (aI l) x_1.1).1))/\(aI l).length-x_1.2.1< (aI l).length-j):=λi2 A l2 Z T ⟨_,rfl,a1,a2⟩=>⟨(N,j+1,T,.vslice (some i2) A l2 3 Z),KD,KD,KD,KD,KD,b2,KD,⟨⟨a0,hN⟩,u,a1,a2⟩,KE⟩
     cases z:qY (aI l)[j].v a4 with
     |none=>exact kX q4 (fB z) (aC k2 (mT rfl (fL q1 (cX ((q2 _).trans e)) (Em rfl rfl (aR rfl (aR rfl (app _ fin)))))))
     |some w=>
      rw [z]at A;obtain rfl:w=false:=A;exact fL q4 (cX z) (kS rfl (bt rfl (aC k2 (mT rfl (fL q1 (cX ((q2 _).trans e)) (Em rfl rfl (aR rfl (aR rfl (app _ fin)))))))))
   .have a6:(aI l).take j=aI l:=AJ JZ;rw [a6]at Y;have a7:=hk N a0 hN;rcases Y with⟨rfl,e⟩| ⟨io,rfl,_⟩
    .rw [show mV Go.Proofs.Tryz.prog 49 .nilslice= .vslice none 0 0 3 [] by kernel_rfl];rw [e]at a7;exact aA rfl a7
    .rw [Wv];refine aA ?_ a7;simp only [aQ,aY,AN];exact eY _
 .exact hk.elim
def b5B:=aV 23 b8G d8Y
theorem c1E:aS env b5B:=aE e9M (d6K)
def b8F(xs:Y14)(h:Heap)(K:KT):Prop:=match xs with
 | [.vslice none e0 n 3 c,.vslice none e1 n1 3 c1]=> ∃(l:Y15)(C:dW),(n=l.length/\c=l.flatMap cN/\n1=C.length/\c1=C.flatMap cL)/\Lv l/\(∀n∈l,aZ n.im)/\((∀p∈C,cF p.2)/\C.length<=1099511627776)/\K (.vslice none 0 l.length 2 ((rG l (kSI C)).flatMap cR)) h
 |_=>False
def d2W(l g:Y15):=[IV.vslice none 0 l.length 3 (List.flatMap cN l),IV.vslice none 0 ((aD g).length) 1 (List.map (IV.int .i64) (aD g)),IV.nilmap,IV.nilmap]
def M4(l:Y15)(C:dW)(a1:Heap->Heap)(a2:Nat->Nat)(a3:Y15->Heap->Nat->Y14->Prop):Prop:= ∃(r:Y15),(l.length=r.length/\List.flatMap cN l=List.flatMap cN r)/\Lv r/\∃(u:List (Int×Iv))(G K Z L:IV),(C.length=u.length/\List.flatMap cL C=List.flatMap cL u)/\(IObj.cells (d2W l r)=IObj.cells [G,K,Z,L]
 /\(0:Nat)<0+1/\u.length<=1152921504606846976)/\∀(g:Heap)(y:Nat)(O:List (Int×Iv)),g.get 0=IObj.cells [G,K,IV.map y,L]->(g.get y=IObj.map (cM eI O)/\∀(R:Int),qY R O=kSI u R)->(0:Nat)+1<=y
 /\y<g.next->(∀(z:Nat),z<0+1->z≠0->Heap.get g z=(Heap.mk (PT.node PT.nil (some (IObj.cells (d2W l r))) PT.nil) ((0:Nat)+1)).get z)-> ∃(i:Y15)(T:Nat)(V:IV)(X:Int->Option Iv)(Y:Int->Bool),(Heap.get
 g 0=IObj.cells [IV.vslice none 0 i.length 3 (List.flatMap cN i),IV.vslice none 0 ((aD i).length) 1 (List.map (IV.int .i64) (aD i)),IV.map T,V]/\0<g.next)/\AzS g i T V X Y/\∀(j:Heap)(m A:Nat),j.get m
 =IObj.cells (List.flatMap cR (rG i X))->Heap.get j A=IObj.cells (List.map IV.bool (uG i Y))->Heap.next g<=m/\m<j.next/\Heap.next g<=A/\A<j.next/\m≠A->(∀(D:Nat),D<g.next->Heap.get j D=g.get
 D)->aT (a1 j) (a2 m) λa0=>a3 i j m a0
theorem f2B(l:Y15)(C:dW)(e0 j:Nat)(h:Heap)(Q:KT):dF (aU b5B) env 31 cC bD bD [.vslice none e0 (l).length 3 ((l).flatMap cN),.vslice none j C.length 3 (C.flatMap cL)] h Q=(
 aF (aQ [IV.vslice none 0 l.length 3 (List.flatMap cN l),IV.vslice none 0 C.length 3 (List.flatMap cL C)]) (M4 l C (λg=>g) (λi=>i) (λl g i r0=>aF (true&&Nat.ble ((0:Nat)+l.length*2) r0.length) (aF (aQ [IV.vslice none 0 l.length 2 (List.take (l.length*2) r0)]) (Q (.vslice none 0 l.length 2 (List.take (l.length*2) r0)) h))))):=by kernel_rfl
theorem e9L: ∀xs h Q,b8F xs h Q->aM env 31 xs h Q:=by
 intro xs h Q hk;unfold b8F at hk;split at hk
 .rename_i e0 n c i O T;obtain⟨l,C,⟨rfl,rfl,rfl,rfl⟩,r,j,G,hk⟩:=hk;refine aL (c1E) (f2B l C e0 i h Q) ?_;delta d2W M4; (try dsimp -iota -proj only);have tn: ∀x:Nat,(x:Int).toNat=x:=AK
  have g:=rS l (kSI C);have K:=bA l;refine aA (by simp only [aQ,aY,bX,eY,AN]) ⟨l,⟨rfl,rfl⟩,r,C,(.vslice none 0 l.length 3 (l.flatMap cN)),(.vslice none 0 (aD l).length 1 ((aD l).map (IV.int .i64))),.nilmap,.nilmap,⟨rfl,rfl⟩,⟨KD,KA,JZ⟩,λh2 m A i ⟨u,y⟩ ⟨O,R⟩ X=>⟨l,m,.nilmap,kSI C,λ_=>false,⟨i,JZ⟩,⟨r,j,⟨⟨A,u,y⟩,R⟩,⟨.inl ⟨rfl,λ_=>rfl⟩,λm hm=>by cases hm⟩,W3 G.1,λv L=>by cases L⟩,λh3 Y Z z V nn D=>aC z (aA ?_ ?_)⟩⟩
  .rw [BD,BB,AY,<-g,Uw];exact AF _
  .have:List.take (l.length*2) ((rG l (kSI C)).flatMap cR)=(rG l (kSI C)).flatMap cR:=AJ (by rw [Uw,g];exact AF _);rw [this];exact aA (by simp only [aQ,aY,pM,AN]) hk
 .exact hk.elim
def b5A:=aV 31 b8F b5B
theorem c1D:aS env b5A:=aE e9L (c1E)
structure IdN where
 m:Nat
 iR:Nat
 m8:Nat
def IdS(l:Y15)(C:dW)(g:Heap)(x:IdN):Prop:=g.get 0= .cells [.vslice none 0 (l).length 3 ((l).flatMap cN),.vslice none 0 (aD l).length 1 ((aD l).map (IV.int .i64)),.map x.m,.nilmap]/\g.get x.iR= .cells ((rG l (kSI C)).flatMap cR)/\(x.iR≠x.m8/\0≠x.m8/\x.m8<g.next/\x.iR<g.next/\0<g.next)
def id1(l:Y15)(C:dW):Inv':=dL (Nat×Heap×IdN) (λx=>[(1,.v (.vslice none 0 C.length 3 (C.flatMap cL))),(5,.v (.ptr 0 0)),(6,.v (.hslice x.2.2.iR 0 l.length 2)),(8,.v (.map x.2.2.m8)),(40,.v (.vslice none 0 (aI l).length 4 ((aI l).flatMap E5))),(41,.v (.int .i64 ((aI l).length:Int))),(42,.v (.int .i64 (x.1:Int)))]) (λ_=>[]) (λx=>x.2.1) (λx=>x.1<=(aI l).length/\IdS l C x.2.1 x.2.2/\∃es:List (Int×LV),x.2.1.get x.2.2.m8= .map (cM eV es)/\∀k,qY k es=Yl ((aI l).take x.1) k) (λx=>(aI l).length-x.1)
def Vm(l:Y15)(C:dW):Inv':=dL (Nat×Heap×IdN×Nat) (λx=>[(1,.v (.vslice none 0 C.length 3 (C.flatMap cL))),(5,.v (.ptr 0 0)),(6,.v (.hslice x.2.2.1.iR 0 l.length 2)),(8,.v (.map x.2.2.1.m8)),(11,.v (.map x.2.2.2)),(52,.v (.vslice none 0 C.length 3 (C.flatMap cL))),(53,.v (.int .i64 (C.length:Int))),(54,.v (.int .i64 (x.1:Int)))]) (λ_=>[]) (λx=>x.2.1)
 (λx=>(x.1<=C.length/\vQ l C x.1=true)/\IdS l C x.2.1 x.2.2.1/\(∃es:List (Int×LV),x.2.1.get x.2.2.1.m8= .map (cM eV es)/\∀k,qY k es=Yl (aI l) k)/\(∃es:List (Int×Bool),x.2.1.get x.2.2.2= .map (cM IV.bool es)/\∀k,qY k es=if fW (C.take x.1) k=true then some true else none)/\(x.2.2.2≠0/\x.2.2.2≠x.2.2.1.iR/\x.2.2.2≠x.2.2.1.m8)) (λx=>C.length-x.1)
def d9W(xs:Y14)(h:Heap)(K:KT):Prop:=match xs with
 | [.agg [g0,g1,.vslice none e0 n 3 c,g3,g4],.vslice none e1 n1 3 c1]=> ∃(l:Y15)(C:dW),(n=l.length/\c=l.flatMap cN/\n1=C.length/\c1=C.flatMap cL)/\(aY g0=true/\aY g1=true/\aY g3=true/\aY g4=true)/\Lv l/\(∀n∈l,aZ n.im)/\((∀p∈C,cF p.2)/\C.length<=1099511627776)/\K (.bool (Ba l C)) h
 |_=>False
def Lj(g:Nat×Heap×IdN×Nat):=g.2.1
def Me(x:Nat×Heap×IdN):=x.2.2
def d2S(l:Y15):=iI (↑((aI l).length):Int)
def c6E:=TypeDesc.int .i64
def a5Q(x:Nat×Heap×IdN):=x.2.1
def b3N:=IV.bool false
def pT(C:dW):IV:=IV.vslice none 0 C.length 3 (List.flatMap cL C)
def xH(C:dW)(l:Y15)(i:Nat)(j:Y15)(g:IdN)(m:Nat)(r:IV)(u:IV)(y:IV)(z:IV)(A:Int)(D:Int)(G:Prop):Prop:=some (TV.v (pT C))=some (TV.v (pT C))/\some (TV.v (.ptr 0 0))=some (TV.v (.ptr 0 0))/\some (TV.v (.hslice i 0 j.length 2))=some (TV.v (.hslice (IdN.iR g) 0 l.length 2))/\some (TV.v (.map m))=some (TV.v (.map (IdN.m8 g)))/\some (TV.v r)=some (TV.v u)/\some
 (TV.v y)=some (TV.v z)/\tI A=tI D/\G
def xJ(g:Y15):IV:=IV.vslice none 0 ((aI g).length) 4 (List.flatMap E5 (aI g))
def Hz(g:IdN)(i:Heap):Prop:=IdN.iR g≠IdN.m8 g/\(0:Nat)≠IdN.m8 g/\IdN.m8 g<i.next/\IdN.iR g<i.next/\0<i.next
def xI(j:Heap)(l:IdN)(m:List Go.M14.LV):Prop:= ∃(g:List (Int×LV)),j.get (IdN.m8 l)=IObj.map (cM eV g)/\∀(i:Int),qY i g=Yl m i
def Hy(l:Y15)(C:dW)(g:Nat×Heap×IdN):Prop:=g.1<=List.length (aI l)/\(g.2.1.get 0=IObj.cells [IV.vslice none 0 l.length 3 (List.flatMap cN l),IV.vslice none 0 ((aD l).length) 1 (List.map (IV.int .i64) (aD l)),IV.map (IdN.m g.2.2),IV.nilmap]/\Heap.get g.2.1 (IdN.iR g.2.2)=IObj.cells (List.flatMap
 cR (rG l (kSI C)))/\Hz g.2.2 g.2.1)/\xI g.2.1 g.2.2 (List.take g.1 (aI l))
def cZ(g:Nat×Heap×IdN×Nat):IdN:=g.2.2.1
def nZ(g:Nat×Heap×IdN×Nat):Nat:=g.2.2.2
def Ia(C:dW)(g:Nat×Heap×IdN×Nat):Prop:= ∃(i:List (Int×Bool)),g.2.1.get (nZ g)=IObj.map (cM IV.bool i)/\∀(j:Int),qY j i=if fW (List.take g.1 C) j=true then some true else none
def Hx(C:dW)(l:Y15)(g:Nat×Heap×IdN×Nat):Prop:=(g.1<=C.length/\vQ l C g.1=true)/\(g.2.1.get 0=IObj.cells [IV.vslice none 0 l.length 3 (List.flatMap cN l),IV.vslice none 0 ((aD l).length) 1 (List.map (IV.int .i64) (aD l)),IV.map (IdN.m (cZ g)),IV.nilmap]/\Heap.get g.2.1 (IdN.iR (cZ
 g))=IObj.cells (List.flatMap cR (rG l (kSI C)))/\Hz (cZ g) g.2.1)/\(xI g.2.1 (cZ g) (aI l))/\(Ia C g)/\g.2.2.2≠0/\g.2.2.2≠IdN.iR (cZ g)/\g.2.2.2≠IdN.m8 (cZ g)
def Hv(i:Nat×Heap×IdN×Nat)(j:Int)(C:dW)(l:Y15):Prop:=wK (Lj i) (nZ i) c6E (iI j) (IV.bool true) λm=> ∃(g:Nat×Heap×IdN×Nat),xH C l (IdN.iR (cZ i)) l (cZ g) (IdN.m8 (cZ i)) (IV.map (nZ i)) (IV.map (nZ g)) (pT C) (pT C) (C.length:Int) (C.length:Int) (tI (wW ((↑i.1
 :Int)+1))=tI (g.1:Int)/\Heap.set (Lj i) (nZ i) (IObj.map m)=g.2.1/\(Hx C l g)/\C.length-g.1<C.length-i.1)
def Hw(D:Int)(G:Int)(Q:KT)(h:Heap)(j:Int)(l:Y15)(A:Nat×Heap×IdN×Nat)(m:Int)(u:Int)(K:Int)(L:Int)(C:dW):Prop:=aK (!decide (D<=G)) (Q b3N h) (aF (decide (0<=j) &&decide (j< (l.length:Int))) (aT (Lj A) (IdN.iR (cZ A)) λV=>aN .i64 V ((0:Nat)+j.toNat*2) λY=>aN .i64 V ((0:Nat)+j.toNat*2+1) λZ=>aK (!(decide (D<=Y) &&decide (Z
 <=G))) (Q b3N h) (aF (decide (0<=m) &&decide (m< (l.length:Int))) (aT (Lj A) (IdN.iR (cZ A)) λX=>aN .i64 X ((0:Nat)+m.toNat*2) λy=>aN .i64 X ((0:Nat)+m.toNat*2+1) λz=> ∃(g:Y15)(O R T:IV),∃ (i:List
 Iv),((Lj A).get 0=IObj.cells [IV.vslice none 0 g.length 3 (List.flatMap cN g),O,R,T]/\Heap.get (Lj A) (IdN.iR (cZ A))=IObj.cells (List.flatMap cR i)/\i.length=g.length/\l.length=g.length)/\(∀(r:Nat),r<g.length->Prod.fst
 (List.getD i r ((0:Int),(0:Int)))<=Prod.snd (List.getD i r ((0:Int),(0:Int)))/\cF (List.getD i r ((0:Int),(0:Int))))/\(0<=u/\u< (g.length:Int)/\List.getD (aD g) u.toNat 0=1/\g.length<=100000)/\aK ((jL g (LV.mk K j
 m u) (y,z) i).2) (aK (!(decide (D<=Prod.fst ((jL g (LV.mk K j m u) (y,z) i).1)) &&decide (((jL g (LV.mk K j m u) (y,z) i).1).2<=G))) (Q b3N h) (Hv A L C l)) (Hv A L C l)))))
theorem f7R(l:Y15)(C:dW)(Y Z g3 g4:IV)(e0 e1:Nat)(h:Heap)(Q:KT):dF (aU b5A) env 24 cC (zE 7 (id1 l C) (mJ 13 (Vm l C))) bD [.agg [Y,Z,.vslice none e0 (l).length 3 ((l).flatMap cN),g3,g4],.vslice none e1 C.length 3 (C.flatMap cL)] h Q=(
 aF (aQ [IV.agg [Y,Z,IV.vslice none 0 l.length 3 (List.flatMap cN l),g3,g4],IV.vslice none 0 C.length 3 (List.flatMap cL C)]) (M4 l C (λm=>(m.push (IObj.map []))) (λiR=>(0:Nat)) (λT m iR r0=>bM 1 r0 1 λi1 e2 l3 c4=> ∃(j:Y15),(l.length=j.length/\List.flatMap cN l=List.flatMap cN j)/\(l3=j.length/\c4=List.map (IV.int .i64) (aD j))/\Lv j/\(∃(x:Nat×Heap×IdN),xH C l iR T (Me x) (m.next) (xJ j) (xJ l) (iI (↑((aI j).length):Int)) (d2S l) 0 (x.1:Int) (m.push (IObj.map [])=x.2.1/\(Hy l C x)/\True))/\∀(x:Nat×Heap×IdN)(ba:FF),(x.1<=List.length (aI l)/\IdS l C (a5Q x) (Me x)/\xI (a5Q x) (Me x) (List.take x.1 (aI l)))->aK (decide ((x.1:Int)< (↑((aI l).length):Int))) (aF (decide (0<=(x.1:Int)) &&decide ((x.1:Int)< (↑((aI l).length):Int))) (aN .i64 (List.flatMap E5 (aI l)) ((x.1:Int).toNat*4) λn5=>aN .i64 (List.flatMap E5 (aI l)) ((x.1:Int).toNat*4+1) λn6=>aN .i64 (List.flatMap E5 (aI l)) ((x.1:Int).toNat*4+1+1) λn7=>aN .i64 (List.flatMap E5 (aI l)) ((x.1:Int).toNat*4+1+1+1) λn8=>wK (a5Q x) (IdN.m8 (Me x)) c6E (iI n5) (IV.agg [.int .i64 n5,iI n6,iI n7,iI n8]) λR=> ∃(r:Nat×Heap×IdN),xH C l (IdN.iR (Me x)) l r.2.2 (IdN.m8 (Me x)) (xJ l) (xJ l) (d2S l) (d2S l) (wW ((x.1:Int)+1)) (r.1:Int) ((a5Q x).set (IdN.m8 (Me x)) (IObj.map R)=r.2.1/\(Hy l C r)/\List.length (aI l)-r.1< (aI l).length-x.1))) ((∃(i:Nat×Heap×IdN×Nat),xH C l (IdN.iR (Me x)) l (cZ i) (IdN.m8 (Me x)) (IV.map ((a5Q x).next)) (IV.map (nZ i)) (pT C) (pT C) (C.length:Int) (C.length:Int) (tI 0=tI (i.1:Int)/\Heap.push (a5Q x) (IObj.map [])=i.2.1/\(Hx C l i)/\True))/\∀(g:Nat×Heap×IdN×Nat)(ba:FF),(g.1<=C.length/\vQ l C g.1=true)/\IdS l C (Lj g) (cZ g)/\(xI (Lj g) (cZ g) (aI l))/\(Ia C g)/\g.2.2.2≠(0:Nat)/\g.2.2.2≠IdN.iR (cZ g)/\g.2.2.2≠IdN.m8 (cZ g)->aK (decide ((g.1:Int)< (C.length:Int))) (aF (decide (0<=(g.1:Int)) &&decide ((g.1:Int)< (C.length:Int))) (aN .i64 (List.flatMap cL C) ((g.1:Int).toNat*3) λu=>aN .i64 (List.flatMap cL C) ((g.1:Int).toNat*3+1) λz=>aN .i64 (List.flatMap cL C) ((g.1:Int).toNat*(3:Nat)+1+1) λA=>kW (Lj g) (IdN.m8 (cZ g)) c6E (iI u) (λV=>Sd 4 V 0 λy=>aN .i64 y 0 λD=>aN .i64 y 1 λG=>aN .i64 y 2 λK=>aN .i64 y 3 λL=>kW (Lj g) (nZ g) c6E (iI u) (λX=>kQ X 0 λO=>aK O (Q b3N h) (Hw z A Q h G l g K L D u C)) (Hw z A Q h G l g K L D u C)) (Q b3N h))) (Q (.bool true) h))))):=by kernel_rfl
theorem f5Y: ∀xs h Q,d9W xs h Q->aM env 24 xs h Q:=by
 intro xs h Q hk;unfold d9W at hk;split at hk
 .rename_i g0 g1 e0 n c g3 g4 Y n1 c1;obtain⟨l,C,⟨rfl,rfl,rfl,rfl⟩,hp,hL,a6,hC,hk⟩:=hk;refine aL (c1D) (f7R l C g0 g1 g3 g4 e0 Y h Q) ?_;delta d2W M4 pT xH Me xJ d2S Hz xI Hy a5Q c6E cZ nZ Ia Hx Lj b3N Hv Hw tI wW iI; (try dsimp -iota -proj only);have G: ∀x:Nat,(x:Int).toNat=x:=AK
  obtain⟨p0,p1,p3,p4⟩:=hp;have b9:=(show Lv l from hL).1;have A:=rS l (kSI C);have c0:=bA l;have c6:=H6 l;have a9:=W3 hC.1;refine aA (by simp only [aQ,aY,bX,eY,p0,p1,p3,p4,AN,EI]) ⟨l,⟨rfl,rfl⟩,hL,C,(.vslice none 0 l.length 3 (l.flatMap cN)),(.vslice none 0 (aD l).length 1 ((aD l).map (IV.int .i64))),.nilmap,.nilmap,⟨rfl,rfl⟩,⟨KD,KA,JZ⟩,λh2 m es Y ⟨e2,e3⟩ ⟨n1,n2⟩ fr=>⟨l,m,.nilmap,kSI C,λ_=>false,⟨Y,JZ⟩,⟨hL,a6,⟨⟨es,e2,e3⟩,n2⟩,⟨.inl ⟨rfl,λ_=>rfl⟩,λm hm=>by cases hm⟩,W3 hC.1,λv hv=>by cases hv⟩,λh3 iR iU eR eU ⟨m1,m2,_,_,_⟩ a4=>aC ((aO (show 0<h3.next by omega)).trans ((a4 0 JZ).trans Y)) (lP rfl ⟨l,⟨rfl,rfl⟩,⟨c0,rfl⟩,hL,⟨(0,h3.push (.map []),⟨m,iR,h3.next⟩),KD,KD,KD,KD,KD,KD,KD,KD,⟨AR _,⟨(aO JZ).trans ((a4 0 JZ).trans Y),(aO m2).trans eR,⟨ET m2,KE,AQ _,BO m2,CO _⟩⟩,[],aW,λ_=>rfl⟩,trivial⟩,?_⟩)⟩⟩;rintro⟨i,g,x⟩ _ ⟨hi,a8,a0,g8,v8⟩;obtain⟨b1,b2,b3,b4,b5,b6,b7⟩:=(show IdS l C g x from a8);dsimp only at hi g8 v8⊢;refine cV (λc=>?_) (λc=>?_)
  .have j:i< (aI l).length:=JZ;refine aP ⟨JZ,JZ⟩ (aR (by rw [G];exact iO j 0 KA) (aR (by rw [G];exact iO j 1 KA) (aR (by rw [G];exact iO j 2 KA) (aR (by rw [G];exact iO j 3 KA) (iT g8 (rU eV (aI l)[i].v (aI l)[i] a0) ⟨(i+1,_,x),KD,KD,KD,KD,KD,KD,(by rw [AA _ JZ];rfl),KD,⟨j,⟨(aG b4).trans b1,(aG b3).trans b2,b3,b4,b5,b6,b7⟩,_,aH,λk=>?_⟩,KE⟩)))));dsimp only;rw [uN,AO j,Gf,v8 k]
  have b8:(aI l).take i=aI l:=AJ JZ;rw [b8]at v8;refine⟨⟨(0,g.push (.map []),x,g.next),KD,KD,KD,KD,KD,KD,KD,KD,KD,⟨⟨AR _,rfl⟩,⟨(aO b7).trans b1,(aO b6).trans b2,b3,b4,BO b5,BO b6,BO b7⟩,⟨a0,(aO b5).trans g8,v8⟩,⟨[],aW,λ_=>rfl⟩,KE,KE,KE⟩,trivial⟩,?_⟩;rintro⟨i,g3,x3,y⟩ _ ⟨⟨b0,u⟩,a5,⟨es,v1,v2⟩,⟨Z,s1,s2⟩,T,V,X⟩;obtain⟨a1,K,a3⟩:=(show IdS l C g3 x3 from a5);dsimp only at b0 u v1 v2 s1 s2 T V X⊢;refine cV (λc=>?_) (λc=>?_)
  case refine_2=>
   have:Ba l C=true:=by
    unfold Ba
    rw [show C.length=i by omega];exact u
   rw [this]at hk;exact hk
  have j:i<C.length:=JZ;have hD:C.getD i (0,(0,0))=C[i]:=bO j;have a7:some (TV.v (IV.int IntKind.i64 (IntKind.i64.wrap ((i:Int)+1))))=some (TV.v (IV.int IntKind.i64 ((i+1:Nat):Int))):=by rw [AA _ JZ];rfl
  have no:Ls l C i=false->Q (.bool false) h:=λq=>by
   have:=Qw q _ j;rw [show Ba l C=false from this]at hk;exact hk
  refine aP ⟨JZ,JZ⟩ (aR (by rw [G];exact gA j 0 KA) (aR (by rw [G];exact gA j 1 KA) (aR (by rw [G];exact gA j 2 KA) ?_)))
  cases ev:Yl (aI l) C[i].1 with
  |none=>exact kX v1 (fB ((v2 _).trans ev)) (no (by unfold Ls;rw [hD,ev]))
  |some x=>
   have r:Ls l C i=(!(fW (C.take i) C[i].1) && (decide (C[i].2.1<=C[i].2.2) && (ctd (gR (rG l (kSI C)) x.f) C[i].2&& (!(jL l x (gR (rG l (kSI C)) x.n) (rG l (kSI C))).2||ctd (jL l x (gR (rG l (kSI C)) x.n) (rG l (kSI C))).1 C[i].2)))):=by
    unfold Ls
    rw [hD,ev]
   obtain⟨lf,ln,ld⟩:=W6 (Te ev).1;refine fL v1 (cX ((v2 _).trans ev)) (Em rfl rfl (aR rfl (aR rfl (aR rfl (aR rfl ?_)))))
   cases hh:fW (C.take i) C[i].1 with
   |true=>exact fL s1 (cX (by rw [s2,if_pos hh])) (kS rfl (bt rfl (no (by rw [r,hh];rfl))))
   |false=>
    rw [hh,FJ,BD]at r;refine kX s1 (fB (by rw [s2,if_neg (by rw [hh];decide)])) (aB (λL=>no ?_) (λL=>?_))
    .rw [BS]at L;rw [r,L];rfl
    rw [CA]at L;rw [L,BD]at r;refine aP lf (aC K (rM (by rw [A];exact lf) (by rw [AY]) (aB (λO=>no ?_) (λO=>?_))))
    .rw [BS]at O;rw [r,show ctd (gR (rG l (kSI C)) x.f) C[i].2=false from O];rfl
    rw [CA]at O;rw [show ctd (gR (rG l (kSI C)) x.f) C[i].2=true from O,BD]at r;refine aP ln (aC K (rM (by rw [A];exact ln) (by rw [AY]) ⟨l,_,_,_,rG l (kSI C),⟨a1,K,A,rfl⟩,Ag a6 a9,⟨ld.1,ld.2.1,ld.2.2,b9⟩,aB (λc4=>?_) (λc4=>?_)⟩))
    .have z:(jL l x (gR (rG l (kSI C)) x.n) (rG l (kSI C))).2=true:=c4;rw [z,GW,EA]at r;refine aB (λR=>no ?_) (λR=>?_)
     .rw [BS]at R;rw [r];exact R
     .rw [CA]at R;have D:Ls l C i=true:=r.trans R;exact iT s1 (rU _ _ _ _) ⟨(i+1,g3.set y (.map (cM IV.bool (Lt C[i].1 true Z))),x3,y),KD,KD,KD,KD,KD,KD,KD,a7,KD,⟨⟨j,by show(vQ l C i&&Ls l C i)=true;rw [u,D];rfl⟩,⟨(aG (Ne.symm T)).trans a1,(aG (Ne.symm V)).trans K,a3⟩,⟨es,(aG (Ne.symm X)).trans v1,v2⟩,⟨_,aH,by dsimp only;rw [AO j];exact zD s2⟩,T,V,X⟩,KE⟩
    .have z:(jL l x (gR (rG l (kSI C)) x.n) (rG l (kSI C))).2=false:=c4;have D:Ls l C i=true:=by rw [r,z];rfl
     exact iT s1 (rU _ _ _ _) ⟨(i+1,g3.set y (.map (cM IV.bool (Lt C[i].1 true Z))),x3,y),KD,KD,KD,KD,KD,KD,KD,a7,KD,⟨⟨j,by show(vQ l C i&&Ls l C i)=true;rw [u,D];rfl⟩,⟨(aG (Ne.symm T)).trans a1,(aG (Ne.symm V)).trans K,a3⟩,⟨es,(aG (Ne.symm X)).trans v1,v2⟩,⟨_,aH,by dsimp only;rw [AO j];exact zD s2⟩,T,V,X⟩,KE⟩
 .exact hk.elim
def e7U:=aV 24 d9W b5A
theorem e8V:aS env e7U:=aE f5Y (c1D)
def a2L(xs:Y14)(h:Heap)(K:KT):Prop:=match xs with
 | [x,y]=>a7A [x,y] h K
 |_=>False
theorem e2U: ∀xs h Q,a2L xs h Q->aM env 12 xs h Q:=by
 intro xs h Q hk;unfold a2L at hk;split at hk
 .exact d6P _ _ _ hk
 .exact hk.elim
def b5K:=aV 12 a2L e7U
theorem c9M:aS env b5K:=aE e2U (e8V)
def a3I(xs:Y14)(h:Heap)(K:KT):Prop:=match xs with
 | [x,y]=>Wd [x,y] h K
 |_=>False
theorem e3Q: ∀xs h Q,a3I xs h Q->aM env 35 xs h Q:=by
 intro xs h Q hk;unfold a3I at hk;split at hk
 .exact c3V _ _ _ hk
 .exact hk.elim
def a1L:=aV 35 a3I b5K
theorem a8R:aS env a1L:=aE e3Q (c9M)
abbrev IvS:=List Iv
def liI(m:Y12)(Z:IvS):Inv':=dL (Nat×Heap×IV×dW) (λx=>[(0,.v (.vslice none 0 m.length 1 (m.map (IV.int .i64)))),(1,.v (.vslice none 0 Z.length 2 (Z.flatMap cR))),(5,.v x.2.2.1),(6,.v (.int .i64 (x.1:Int)))]) (λ_=>[]) (λx=>x.2.1) (λx=>(x.1<=4/\x.1<=m.length)/\OvC cL 3 0 x.2.1 x.2.2.1 x.2.2.2/\x.2.2.2.length=x.1/\∀p∈x.2.2.2,bE p.1/\cF p.2) (λx=>4-x.1)
def b8J(xs:Y14)(h:Heap)(K:KT):Prop:=match xs with
 | [.vslice none e1 n 1 c,.vslice none e2 n1 2 c1]=> ∃(m:Y12)(Z:IvS),(n=m.length/\c=m.map (IV.int .i64)/\n1=Z.length/\c1=Z.flatMap cR)/\((∀x∈m,bE x)/\∀r∈Z,cF r)/\∀C:dW,(∀p∈C,bE p.1/\cF p.2)->C.length<=4->K (.vslice none 0 C.length 3 (C.flatMap cL)) h
 |_=>False
def b3P(m:Y12):=List.map (IV.int .i64) m
def xK(g:Nat×Heap×IV×dW):IV:=g.2.2.1
def c6F(x:Nat×Heap×IV×dW):=[mV Proofs.Tryz.prog 49 (xK x)]
def e5N(Z:IvS):=TV.v (.vslice none 0 Z.length 2 (List.flatMap cR Z))
def d2T(x:Nat×Heap×IV×dW):=(x.1:Int).toNat*1
def e5O(m:Y12):=TV.v (.vslice none 0 m.length 1 (b3P m))
def Ic(m:Y12)(Z:IvS)(i:IV)(g:Nat×Heap×IV×dW)(j:Int)(l:Prop):Prop:=some (e5O m)=some (e5O m)/\some (e5N Z)=some (e5N Z)/\some (TV.v i)=some (TV.v (xK g))/\tI j=tI (g.1:Int)/\l
def M5(m:Y12)(g:Nat×Heap×IV×dW):Prop:=(g.1<=4/\g.1<=m.length)/\OvC cL 3 0 g.2.1 (xK g) g.2.2.2/\g.2.2.2.length=g.1/\∀(i:Int×Iv),i∈g.2.2.2->bE i.1/\cF i.2
def sX(x:Nat×Heap×IV×dW)(g:Int):Bool:=decide (0<=(x.1:Int)) &&decide ((x.1:Int)<g)
def Ib(m:Y12)(x:Nat×Heap×IV×dW)(Z:IvS)(z:Int)(A:Int):Prop:=aN .i64 (b3P m) (d2T x) λi=>((0:Int)<40/\(40:Int)<4611686018427387904)/\dX x.2.1 3 24 (xK x) 1 [iI (wW (i% (40:Int)-1)),iI z,iI A] λj l r u y=> ∃(g:Nat×Heap×IV×dW),Ic m Z (IV.vslice (some j) l r 3 u) g
 (wW ((x.1:Int)+1)) (y=g.2.1/\(M5 m g)/\(4:Nat)-g.1<4-x.1)
theorem f2F(m:Y12)(Z:IvS)(i j:Nat)(h:Heap)(Q:KT):dF (aU a1L) env 26 cC (mJ 4 (liI m Z)) bD [.vslice none i (m).length 1 ((m).map (IV.int .i64)),.vslice none j Z.length 2 (Z.flatMap cR)] h Q=(
 aF (aQ [IV.vslice none 0 m.length 1 (b3P m),IV.vslice none 0 Z.length 2 (List.flatMap cR Z)]) ((∃(x:Nat×Heap×IV×dW),Ic m Z IV.nilslice x 0 (Heap.mk PT.nil 0=x.2.1/\(M5 m x)/\True))/\∀(x:Nat×Heap×IV×dW)(b:FF),(M5 m x)->aK (decide ((x.1:Int)< (m.length:Int))) (aK (decide ((x.1:Int)<4)) (aF (sX x (m.length:Int)) (aN .i64 (b3P m) (d2T x) λu=>bE 3/\∀(w:Int),bE w->aF (sX x (m.length:Int)) (aN .i64 (b3P m) (d2T x) λy=>bE 9/\∀(g:Int),bE g->aK (decide ((x.1:Int)< (Z.length:Int))) (aF (sX x (Z.length:Int)) (aN .i64 (List.flatMap cR Z) ((x.1:Int).toNat*2) λl=>aN .i64 (List.flatMap cR Z) ((x.1:Int).toNat*2+1) λr=>aF (sX x (m.length:Int)) (Ib m x Z l r))) (aF (sX x (m.length:Int)) (Ib m x Z w g))))) (aF (aQ (c6F x)) (Q (eF (c6F x)) h))) (aF (aQ (c6F x)) (Q (eF (c6F x)) h)))):=by kernel_rfl
theorem e9P: ∀xs h Q,b8J xs h Q->aM env 26 xs h Q:=by
 intro xs h Q hk;unfold b8J at hk;split at hk
 .rename_i T n c V n1 c1;obtain⟨m,Z,⟨rfl,rfl,rfl,rfl⟩,hb,hk⟩:=hk;refine aL (a8R) (f2F m Z T V h Q) ?_;delta b3P e5O e5N xK Ic M5 sX d2T Ib c6F tI wW iI;have D: ∀x:Nat,(x:Int).toNat=x:=AK
  obtain⟨hm,Y⟩:=hb;refine aA (by simp only [aQ,aY,bL,pM,AN]) ⟨⟨(0,Heap.empty,.nilslice,[]),KD,KD,KD,KD,KD,⟨⟨AR _,AR _⟩,.inl ⟨rfl,rfl⟩,rfl,λp j=>by cases j⟩,trivial⟩,?_⟩;rintro⟨i,g,L,C⟩ _ ⟨⟨i1,i2⟩,u,y,G⟩;dsimp only at i1 i2 u y G⊢;have fin:aF (aQ [mV Go.Proofs.Tryz.prog 49 L]) (Q (eF [mV Go.Proofs.Tryz.prog 49 L]) h):=by
   have z:=hk C G JZ;rcases u with⟨rfl,e⟩| ⟨io,rfl,_⟩
   .rw [show mV Go.Proofs.Tryz.prog 49 .nilslice= .vslice none 0 0 3 [] by kernel_rfl];rw [e]at z;exact aA rfl z
   .rw [Wv];refine aA ?_ z;simp only [aQ,aY,AN];exact eY _
  refine cV (λc=>cV (λc2=>?_) (λ_=>fin)) (λ_=>fin);have r:i<m.length:=JZ;have l:0<=(i:Int)/\(i:Int)<m.length:=⟨JZ,JZ⟩;refine aP l (fD r (by rw [D,AM]) ⟨by unfold bE;omega,λw hw=>aP l (fD r (by rw [D,AM]) ⟨by unfold bE;omega,λO K=>cV (λR=>?_) (λR=>?_)⟩)⟩)
  .have A:i<Z.length:=JZ;exact aP ⟨JZ,JZ⟩ (ldR A (by rw [D]) (aP l (fD r (by rw [D,AM]) ⟨JZ,u.app (x:=(IntKind.i64.wrap (m[i]%40-1),(Z[i].1,Z[i].2))) rfl JZ (AR _) λid e n c g2 ho X nx=>⟨(i+1,g2,.vslice (some id) e n 3 c,C++ [(IntKind.i64.wrap (m[i]%40-1),(Z[i].1,Z[i].2))]),KD,KD,KD,(by rw [AA _ JZ];rfl),KD,⟨⟨KE,KE⟩,ho,by simp [y],λp j=>by
    rcases BZ.1 j with j|j
    .exact G p j
    .rw [BU.1 j];exact⟨by unfold bE;dsimp only;rw [AA _ JZ];omega,Y _ (AG A)⟩⟩,KE⟩⟩)))
  .exact aP l (fD r (by rw [D,AM]) ⟨JZ,u.app (x:=(IntKind.i64.wrap (m[i]%40-1),(w,O))) rfl JZ (AR _) λid e n c g2 ho X nx=>⟨(i+1,g2,.vslice (some id) e n 3 c,C++ [(IntKind.i64.wrap (m[i]%40-1),(w,O))]),KD,KD,KD,(by rw [AA _ JZ];rfl),KD,⟨⟨KE,KE⟩,ho,by simp [y],λp j=>by
    rcases BZ.1 j with j|j
    .exact G p j
    .rw [BU.1 j];exact⟨by unfold bE;dsimp only;rw [AA _ JZ];omega,hw,K⟩⟩,KE⟩⟩)
 .exact hk.elim
def d4G:=aV 26 b8J a1L
theorem e1J:aS env d4G:=aE e9P (a8R)
end Go.Proofs.YtkonebkblgemkaaGreat
end
end
