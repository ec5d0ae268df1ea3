/-
  Texts of this proof, one after the other.
  Conditions: none.
-/
import Derived.Test.YtkonebkblgemkaaGreatW14
set_option linter.unusedVariables false
set_option linter.unusedSimpArgs false
set_option maxRecDepth 100000
set_option maxHeartbeats 4000000
noncomputable section
variable{i j m b:Nat}{x y z u v:Int}{h g:Go.Pv.Heap}{c d l:List Go.Pv.IV}{A B C:List Go.M15.Nd}{K L:Y12}{s t:Go.Pv.IV}{F:List Go.M10.E}{D:Go.Pv.Meta}{V W:List Go.Value}{T U:Go.TypeId}{o:Bool}{X Y:Go.Value}{r:Y11}{G:Go.M10.BSt}{O:Go.Oper}{N:Y10}{H:Array Go.Value}
section
namespace Go.Proofs.YtkonebkblgemkaaGreat
open Go.Pv Go.M14
def c0D(xs:Y14)(h:Heap)(K:KT):Prop:=match xs with
 | [x]=>x=src/\K (.tuple [prg,.agg [.int .i64 0,.int .i64 0]]) h
 |_=>False
theorem f1F: ∀xs h Q,c0D xs h Q->aM env 61 xs h Q:=by
 intro xs h Q hk;unfold c0D at hk;split at hk
 .rename_i x;obtain⟨rfl,hk⟩:=hk;exact⟨300,_,h,by kernel_rfl,hk⟩
 .exact hk.elim
def d4R:=aV 61 c0D noC
theorem e1U:aS env d4R:=aE f1F (jW env)
def c0C(xs:Y14)(h:Heap)(K:KT):Prop:=match xs with
 | [x]=>x=prg/\K (.tuple [unit,f4Y]) h
 |_=>False
theorem f1E: ∀xs h Q,c0C xs h Q->aM env 33 xs h Q:=by
 intro xs h Q hk;unfold c0C at hk;split at hk
 .rename_i x;obtain⟨rfl,hk⟩:=hk;exact⟨300,_,h,by kernel_rfl,hk⟩
 .exact hk.elim
def d4Q:=aV 33 c0C d4R
theorem e1T:aS env d4Q:=aE f1E (e1U)
def c0B(xs:Y14)(h:Heap)(K:KT):Prop:=match xs with
 | [x]=>x=gph/\K inv h
 |_=>False
theorem f1D: ∀xs h Q,c0B xs h Q->aM env 23 xs h Q:=by
 intro xs h Q hk;unfold c0B at hk;split at hk
 .rename_i x;obtain⟨rfl,hk⟩:=hk;exact⟨300,_,h,by kernel_rfl,hk⟩
 .exact hk.elim
def d4P:=aV 23 c0B d4Q
theorem e1S:aS env d4P:=aE f1D (e1T)
def c0A(xs:Y14)(h:Heap)(K:KT):Prop:=match xs with
 | [x,y]=>(x=gph/\y=inv)/\K (.bool true) h
 |_=>False
theorem f1C: ∀xs h Q,c0A xs h Q->aM env 24 xs h Q:=by
 intro xs h Q hk;unfold c0A at hk;split at hk
 .rename_i x y;obtain⟨⟨rfl,rfl⟩,hk⟩:=hk;exact⟨300,_,h,by kernel_rfl,hk⟩
 .exact hk.elim
def d4O:=aV 24 c0A d4P
theorem e1R:aS env d4O:=aE f1C (e1S)
def b9Z(xs:Y14)(h:Heap)(K:KT):Prop:=match xs with
 | [x,y,z]=>(x= .agg [.int .i64 5,.int .i64 1,.int .i64 1,.int .i64 0]/\y= .vslice none 0 1 2 [.int .i64 0,.int .i64 3]/\z= .vslice none 0 1 1 [.int .i64 4])/\K (.bool true) h
 |_=>False
theorem f1B: ∀xs h Q,b9Z xs h Q->aM env 62 xs h Q:=by
 intro xs h Q hk;unfold b9Z at hk;split at hk
 .rename_i x y z;obtain⟨⟨rfl,rfl,rfl⟩,hk⟩:=hk;exact⟨300,_,h,by kernel_rfl,hk⟩
 .exact hk.elim
def d4N:=aV 62 b9Z d4O
theorem e1Q:aS env d4N:=aE f1B (e1R)
def d9J(xs:Y14)(h:Heap)(K:KT):Prop:=match xs with
 | []=>K (.bool true) h
 |_=>False
def e5L:=[iI 5,iI 1,iI 1,iI 0]
def e5M:=[iI 0,iI 3]
def b3O:Y11:=[105]
def Gi(g:Prop):Prop:=IV.agg [.str [102],iI 0,IV.vslice none 0 14 3 [iI 26,iI 0,IV.vslice none 0 0 1 [],iI 1,iI 0,IV.vslice none 0 0 1 [],iI 1,iI 9,IV.vslice none 0 0 1 [],iI 17,iI 0,IV.vslice none 0 2 1 [iI 1,iI 2],iI 3,iI 0,IV.vslice none 0 0 1 [],iI 3,iI 1,IV.vslice none 0 0 1 [],iI 1,iI 1,IV.vslice
 none 0 0 1 [],iI 4,iI 0,IV.vslice none 0 2 1 [iI 5,iI 6],iI 17,iI 0,IV.vslice none 0 2 1 [iI 7,iI 2],iI 31,iI 0,IV.vslice none 0 5 1 [iI 0,iI 1,iI 8,iI 4,iI 7],iI 25,iI 0,IV.vslice none 0 1 1 [iI 9],iI 22,iI 0,IV.vslice none 0 3 1 [iI 3,iI 10,iI 0],iI 25,iI 1,IV.vslice none
 0 1 1 [iI 9],iI 22,iI 0,IV.vslice none 0 3 1 [iI 3,iI 12,iI 1]],iI 13,iI 11]=gph/\g
theorem f7C(h:Heap)(Q:KT):dF (aU d4N) env 25 cC bD bD [] h Q=(
 IV.str [(102:UInt8),(117:UInt8),(110:UInt8),(99:UInt8),(32:UInt8),(102:UInt8),(40:UInt8),(41:UInt8),(32:UInt8),(118:UInt8),(97:UInt8),(114:UInt8),(32:UInt8),(105:UInt8),(32:UInt8),(123:UInt8),(32:UInt8),(119:UInt8),(104:UInt8),(105:UInt8),(108:UInt8),(101:UInt8),(32:UInt8),(40:UInt8),(105:UInt8),(32:UInt8),(60:UInt8),(32:UInt8),(57:UInt8),(41:UInt8),(32:UInt8),(123:UInt8),(32:UInt8),(105:UInt8),(32:UInt8),(61:UInt8),(32:UInt8),(105:UInt8),(32:UInt8),(43:UInt8),(32:UInt8),(49:UInt8),(59:UInt8),(32:UInt8),(125:UInt8),(32:UInt8),(114:UInt8),(101:UInt8),(116:UInt8),(117:UInt8),(114:UInt8),(110:UInt8),(32:UInt8),(105:UInt8),(59:UInt8),(32:UInt8),(125:UInt8)]=src/\IV.agg [.vslice none 0 0 2 [],IV.vslice none 0 1 9 [IV.str [102],IV.vslice none 0 0 1 [],IV.vslice none 0 1 1 [IV.str b3O],IV.vslice none 0 1 17 [iI 4,IV.str [],IV.str [],iI 0,iI 0,iI 0,IV.str [],iI 0,IV.vslice none 0 0 5 [],iI 4,iI 0,IV.str [],iI 17,IV.vslice none 0 2 5 [iI 2,iI 0,IV.str b3O,iI 0,IV.vslice none 0 0 5 [],iI 1,iI 9,IV.str [],iI 0,IV.vslice none 0 0 5 []],IV.vslice none 0 0 5 [],IV.vslice none 0 1 17 [iI 1,IV.str b3O,IV.str [],iI 0,iI 0,iI 0,IV.str [],iI 0,IV.vslice none 0 0 5 [],iI 4,iI 0,IV.str [],iI 4,IV.vslice none 0 2 5 [iI 2,iI 0,IV.str b3O,iI 0,IV.vslice none 0 0 5 [],iI 1,iI 1,IV.str [],iI 0,IV.vslice none 0 0 5 []],IV.vslice none 0 0 5 [],IV.vslice none 0 0 17 [],IV.vslice none 0 0 17 []],IV.vslice none 0 0 17 []],iI 2,iI 0,IV.str b3O,iI 0,IV.vslice none 0 0 5 []]]=prg/\Gi ((Gi (IV.vslice none 0 1 3 [iI 1,iI 0,iI 8]=inv))/\(IV.agg e5L=IV.agg e5L/\IV.vslice none 0 1 2 e5M=IV.vslice none 0 1 2 e5M/\IV.vslice none 0 1 1 [iI 4]=IV.vslice none 0 1 1 [iI 4])/\Q (.bool true) h)):=by kernel_rfl
theorem f5L: ∀xs h Q,d9J xs h Q->aM env 25 xs h Q:=by
 intro xs h Q hk;unfold d9J at hk;split at hk
 .skip
  refine aL (e1Q) (f7C h Q) ?_;delta b3O Gi e5L e5M iI;exact⟨rfl,rfl,rfl,⟨rfl,rfl⟩,⟨rfl,rfl,rfl⟩,hk⟩
 .exact hk.elim
end Go.Proofs.YtkonebkblgemkaaGreat
end
section
namespace Go.Proofs.YtkonebkblgemkaaGreat
open Go.Pv Go.M15 Go.M10
theorem En{k:IntKind}{l:Y12}{i o:Nat}{K:Int->Prop}(h:i<l.length)(ho:o=i)(hk:K l[i]):aN k (l.map (IV.int k)) o K:=by
 subst ho;exact cO h hk
theorem Oz: ∀(r p:Y15)(g:Y12),(∀x∈r,x.op≠25/\x.op≠30/\x.op≠31)->gB p g r=iY g r
 | [],p,g,_=>rfl
 |n::r,p,g,h=>by
  have i:=h n BG;have e:cH p g n=Pa g n:=by
   unfold cH Pa bW
   rw [if_neg i.2.2,if_neg i.2.1,if_neg i.1]
  rw [gB,iY,e];exact Oz r _ _ λx j=>h x (CC _ j)
theorem b2V(l:Y15)(h: ∀x∈l,x.op≠25/\x.op≠30/\x.op≠31):aD l=bU l:=Oz l [] [] h
def a2O(xs:Y14)(h:Heap)(K:KT):Prop:=match xs with
 | [.int .i64 n,.int .i64 m]=>(0<m/\m<4611686018427387904)/\K (.int .i64 (n%m)) h
 |_=>False
theorem e4O(n m:Int)(h:Heap)(Q:KT):dF (aU noC) env 12 cC bD bD [.int .i64 n,.int .i64 m] h Q=(
 aF (!m==0) (aK (decide (Int.tmod n m<0)) (Q (.int .i64 (wW (Int.tmod n m+m))) h) (Q (.int .i64 (Int.tmod n m)) h))):=by kernel_rfl
theorem e2X: ∀xs h Q,a2O xs h Q->aM env 12 xs h Q:=by
 intro xs h Q hk;unfold a2O at hk;split at hk
 .rename_i n m;refine aL (jW env) (e4O n m h Q) ?_;delta wW;obtain⟨hm,hk⟩:=hk;have h1:=FQ n (IR m);have i:=Go.M13.uZ n m hm.1;refine aA (by simp;omega) (aB (λg=>bN hk ?_) (λg=>bN hk ?_))
  .simp only [decide_eq_true_eq]at g;rw [AA _ JZ];congr 1;omega
  .simp only [decide_eq_false_iff_not]at g;congr 1;omega
 .exact hk.elim
def b5M:=aV 12 a2O noC
theorem c9O:aS env b5M:=aE e2X (jW env)
def a3J(xs:Y14)(h:Heap)(K:KT):Prop:=match xs with
 | [x,y]=>Wd [x,y] h K
 |_=>False
theorem e3R: ∀xs h Q,a3J xs h Q->aM env 35 xs h Q:=by
 intro xs h Q hk;unfold a3J at hk;split at hk
 .exact c3V _ _ _ hk
 .exact hk.elim
def b6Y:=aV 35 a3J b5M
theorem c9W:aS env b6Y:=aE e3R (c9O)
def Re(xs:Y14)(h:Heap)(K:KT):Prop:=match xs with
 | [x]=>Rd [x] h K
 |_=>False
theorem d0F: ∀xs h Q,Re xs h Q->aM env 36 xs h Q:=by
 intro xs h Q hk;unfold Re at hk;split at hk
 .exact c3K _ _ _ hk
 .exact hk.elim
def Pk:=aV 36 Re b6Y
theorem Wx:aS env Pk:=aE d0F (c9W)
def a3B(xs:Y14)(h:Heap)(K:KT):Prop:=match xs with
 | [.int .i64 op]=>K (.int .i64 (Ye op)) h
 |_=>False
theorem e4Z(op:Int)(h:Heap)(Q:KT):dF (aU Pk) env 82 cC bD bD [.int .i64 op] h Q=(
 aK (op==27) (Q (.int .i64 2) h) (aK (op==28) (Q (.int .i64 2) h) (aK (op==29) (Q (.int .i64 2) h) (Q (.int .i64 1) h)))):=by kernel_rfl
theorem e3J: ∀xs h Q,a3B xs h Q->aM env 82 xs h Q:=by
 intro xs h Q hk;unfold a3B at hk;split at hk
 .rename_i op;refine aL (Wx) (e4Z op h Q) ?_
  repeat' (first|refine aA ?_ ?_|refine aB (λ_=>?_) (λ_=>?_)|refine And.intro ?_ ?_)
  all_goals first|assumption|omega| (refine bN hk ?_;simp only [IV.agg.injEq,IV.tuple.injEq,IV.int.injEq,IV.bool.injEq,BE,true_and,and_true];grind [Ye])
 .exact hk.elim
def a1F:=aV 82 a3B Pk
theorem a8L:aS env a1F:=aE e3J (Wx)
def Rl(xs:Y14)(h:Heap)(K:KT):Prop:=match xs with
 | [.int .i64 op,.int .i64 k]=>K (.int .i64 (vJ op k)) h
 |_=>False
theorem d1R(op k:Int)(h:Heap)(Q:KT):dF (aU a1F) env 38 cC bD bD [.int .i64 op,.int .i64 k] h Q=(
 aK (k==0) (aK (Ye op==2) (Q (.int .i64 2) h) (aK (op==23) (Q (.int .i64 2) h) (aK (op==24) (Q (.int .i64 2) h) (Q (.int .i64 1) h)))) (Q (.int .i64 1) h)):=by kernel_rfl
theorem d0M: ∀xs h Q,Rl xs h Q->aM env 38 xs h Q:=by
 intro xs h Q hk;unfold Rl at hk;split at hk
 .rename_i op k;refine aL (a8L) (d1R op k h Q) ?_
  repeat' (first|refine aA ?_ ?_|refine aB (λ_=>?_) (λ_=>?_)|refine And.intro ?_ ?_)
  all_goals first|assumption|omega| (refine bN hk ?_;simp only [IV.agg.injEq,IV.tuple.injEq,IV.int.injEq,IV.bool.injEq,BE,true_and,and_true];grind [vJ])
 .exact hk.elim
def Pu:=aV 38 Rl a1F
theorem Xe:aS env Pu:=aE d0M (a8L)
def a2K(xs:Y14)(h:Heap)(K:KT):Prop:=match xs with
 | [.ptr id 0]=>RD h id/\∀(n:Int)(h2:Heap),bE n->RD h2 id->HF id h h2->K (.int .i64 n) h2
 |_=>False
theorem e4L(id:Nat)(h:Heap)(Q:KT):dF (aU Pu) env 39 cC bD bD [.ptr id 0] h Q=(
 aT h id λr0=>bM 1 r0 0 λO K z G=>aK ((z:Int)==0) (Q (.int .i64 0) h) (aT h id λD=>bM 1 D 0 λR L A y=>aF (true&&decide (0< (A:Int))) (aN .i64 y 0 λr=>aT h id λu=>bM 1 u 0 λm l g j=>aF (true&& (decide (1<=(g:Int)) &&decide ((g:Int)<=(g:Int)))) (aT h id λi=>aF (Nat.ble 1 i.length) (Q (.int .i64 r) (h.set id (IObj.cells (IV.vslice m (l- (g- (g:Int).toNat)*1) ((g:Int).toNat-1) 1 (List.take (((g:Int).toNat-1)*(1:Nat)) (List.drop 1 j))::List.drop 1 i)))))))):=by kernel_rfl
theorem e2T: ∀xs h Q,a2K xs h Q->aM env 39 xs h Q:=by
 intro xs h Q hk;unfold a2K at hk;split at hk
 .rename_i id;refine aL (Xe) (e4L id h Q) ?_;obtain⟨⟨j,u,e,y,l,m,g⟩,hk⟩:=hk;refine aC g (b1M ?_);refine aB (λc=>hk 0 h (by unfold bE;omega) ⟨j,u,e,y,l,m,g⟩ HF.refl) (λc=>aC g (b1M ?_));have r:0<l.length:=by
   simp at c;exact JW (by simpa using c)
  refine aA (by simp;omega) (cO (i:=0) r (aC g (b1M (aA (by simp;omega) (aC g (aA KB ?_))))));refine hk _ _ (m _ (AG r)) ⟨j,u,e- (l.length- ((l.length:Int)).toNat)*1,y,l.drop 1,λx z=>m x (JK z),?_⟩ HF.set;refine(aH (h:=h)).trans ?_;simp;exact AJ KB
 .exact hk.elim
def b5H:=aV 39 a2K Pu
theorem c9L:aS env b5H:=aE e2T (Xe)
def Ry(xs:Y14)(h:Heap)(K:KT):Prop:=match xs with
 | [.vslice none e1 n1 3 c1]=> ∃l:Y15,(n1=l.length/\c1=l.flatMap cN)/\((∀x∈l,x.ks.length<=1000000/\x.op≠25/\x.op≠30/\x.op≠31)/\l.length<=1000000)/\K (.vslice none 0 (bU l).length 1 ((bU l).map (IV.int .i64))) h
 |_=>False
theorem d0X: ∀xs h Q,Ry xs h Q->aM env 63 xs h Q:=by
 intro xs h Q hk;unfold Ry at hk;split at hk
 .rename_i m r j;obtain⟨l,⟨rfl,rfl⟩,g,hk⟩:=hk;rw [<-b2V l λx i=>(g.1 x i).2]at hk;exact a4L _ _ _ ⟨l,⟨rfl,rfl⟩,⟨λx i=>⟨(g.1 x i).1,trivial⟩,g.2⟩,hk⟩
 .exact hk.elim
def Qg:=aV 63 Ry b5H
theorem Xp:aS env Qg:=aE d0X (c9L)
def c9G(l:Y15)(s n:Int):Inv':= .or
 (dL Nat (λx=>[(0,.v (.vslice none 0 (l).length 3 ((l).flatMap cN))),(1,.v (.int .i64 s)),(2,.v (.int .i64 n)),(7,.v (.vslice none 0 (bU l).length 1 ((bU l).map (IV.int .i64)))),(8,.v .nilslice),(9,.v (.int .i64 x))]) (λ_=>[]) (λ_=>Heap.empty) (λx=>x<=l.length/\s∈ (bU l).drop x) (λx=>l.length-x))
 (dL (Nat×Y12×Nat×Heap) (λx=>[(0,.v (.vslice none 0 (l).length 3 ((l).flatMap cN))),(1,.v (.int .i64 s)),(2,.v (.int .i64 n)),(7,.v (.vslice none 0 (bU l).length 1 ((bU l).map (IV.int .i64)))),(8,.v (.vslice (some x.2.2.1) x.2.1.length x.2.1.length 1 (x.2.1.map (IV.int .i64)))),(9,.v (.int .i64 x.1))]) (λ_=>[]) (λx=>x.2.2.2)
  (λx=>(x.1<=l.length/\0<x.2.1.length/\x.2.1.length<=x.1)/\(x.2.2.2.get x.2.2.1= .tip x.2.1.length/\x.2.2.1<x.2.2.2.next)/\∀q∈x.2.1,0<=q/\q<l.length/\(bU l).getD q.toNat 0=s) (λx=>l.length-x.1))
def e0A(xs:Y14)(h:Heap)(K:KT):Prop:=match xs with
 | [.vslice none e1 n1 3 c1,.int .i64 s,.int .i64 n]=> ∃l:Y15,(n1=l.length/\c1=l.flatMap cN)/\((∀x∈l,x.ks.length<=1000000/\x.op≠25/\x.op≠30/\x.op≠31)/\l.length<=1000000/\s∈bU l)/\∀q:Int,(0<=q/\q<l.length/\(bU l).getD q.toNat 0=s)->K (.int .i64 q) h
 |_=>False
def Mi(g:Nat×Y12×Nat×Heap):=g.2.1
def Lk(g:Nat×Y12×Nat×Heap):=g.2.2
def Zs:=IV.int .i64
def b3S(g:Nat×Y12×Nat×Heap):=(Mi g).length+1
def e6F:=PT.node PT.nil (some (IObj.tip 1)) PT.nil
def kI(g:IV)(i:IV)(j:TV)(l:TV)(m:Prop):Prop:=some (TV.v g)=some (TV.v i)/\some j=some l/\m
def tT(l:Y15):IV:=IV.vslice none 0 l.length 3 (List.flatMap cN l)
def Ky(l:Y15)(s:Int)(n:Int)(g:Y15)(r:IV)(u:Int)(i:IV)(j:Nat)(m:Prop):Prop:=kI (tT l) (tT l) (TV.v (.int .i64 s)) (TV.v (.int .i64 s)) (tI n=tI n/\some (TV.v (.vslice none 0 ((bU g).length) 1 (List.map Zs (bU g))))=some (TV.v (.vslice none 0 ((bU l).length) 1 (List.map Zs (bU l))))/\some (TV.v r)=some (TV.v i)
 /\tI u=tI (j:Int)/\m)
def La(g:Nat×Y12×Nat×Heap):IV:=IV.vslice (some g.2.2.1) g.2.1.length g.2.1.length 1 (List.map Zs g.2.1)
def tQ(l:Y15)(s:Int)(n:Int)(j:Y15)(m:IV)(r:Int)(u:Nat->Prop)(y:Nat×Y12×Nat×Heap->Prop):Prop:=(∃(i:Nat),Ky l s n j m r IV.nilslice i (u i)) \/ ∃(g:Nat×Y12×Nat×Heap),Ky l s n j m r (La g) g.1 (y g)
def tS(l:Y15)(s:Int)(g:Nat):Prop:=g<=l.length/\List.Mem s (List.drop g (bU l))
def qL(l:Y15)(s:Int)(g:Nat×Y12×Nat×Heap):Prop:=(g.1<=l.length/\0<g.2.1.length/\g.2.1.length<=g.1)/\(g.2.2.2.get g.2.2.1=IObj.tip g.2.1.length/\g.2.2.1<g.2.2.2.next)/\∀(i:Int),i∈g.2.1->0<=i/\i< (l.length:Int)/\List.getD (bU l) i.toNat 0=s
def tR(g:Nat)(i:Y12)(l:Int->Prop):Prop:=aF (decide (0<=(g:Int)) &&decide ((g:Int)< (i.length:Int))) (aN .i64 (List.map Zs i) ((g:Int).toNat*1) λj=>l j)
def hH(i:Nat)(j:Y12)(l:Int->Prop):Prop:=tR i j (λg=>l g)
def kH(g:Int):Prop:=0<g/\g<4611686018427387904
def S3(g:Nat×Y12×Nat×Heap)(n:Int):Int:=wW ((↑((Mi g).length):Int)-1)-n% (↑((Mi g).length):Int)
theorem f7V(l:Y15)(s n:Int)(u:Nat)(h:Heap)(Q:KT):dF (aU Qg) env 37 cC (mJ 5 (c9G l s n)) bD [.vslice none u (l).length 3 ((l).flatMap cN),.int .i64 s,.int .i64 n] h Q=(
 aF (aQ [IV.vslice none 0 l.length 3 (List.flatMap cN l),iI s,iI n]) (∃(r:Y15),(l.length=r.length/\List.flatMap cN l=List.flatMap cN r)/\((∀(x:Nd),x∈r->List.length (Nd.ks x)<=1000000/\Nd.op x≠25/\Nd.op x≠30/\Nd.op x≠31)/\r.length<=1000000)/\(tQ l s n r IV.nilslice 0 (λm=>Heap.mk PT.nil 0=Heap.mk PT.nil 0/\(tS l s m)/\True) (λi=>Heap.mk PT.nil 0=(Lk i).2/\(qL l s i)/\True))/\(∀(m:Nat)(b:FF),m<=l.length/\s∈List.drop m (bU l)->aK (decide ((m:Int)< (l.length:Int))) (hH m (bU l) (λz=>aK (z==s) (tQ l s n l (IV.vslice (some (0:Nat)) 1 1 1 [iI (m:Int)]) (wW ((m:Int)+1)) (λj=>Heap.mk e6F ((0:Nat)+1)=Heap.mk PT.nil 0/\(tS l s j)/\l.length-j<l.length-m) (λg=>Heap.mk e6F ((0:Nat)+1)=g.2.2.2/\(qL l s g)/\l.length-g.1<l.length-m)) (tQ l s n l IV.nilslice (wW ((m:Int)+1)) (λj=>Heap.mk PT.nil 0=Heap.mk PT.nil 0/\(tS l s j)/\l.length-j<l.length-m) (λg=>Heap.mk PT.nil 0=g.2.2.2/\(qL l s g)/\l.length-g.1<l.length-m)))) ((kH 0)/\False))/\∀(i:Nat×Y12×Nat×Heap)(b:FF),(qL l s i)->aK (decide ((i.1:Int)< (l.length:Int))) (hH i.1 (bU l) (λA=>aK (A==s) (lL ((Lk i).2) ((Lk i).1) λy=>aF (Nat.beq y ((Mi i).length) &&Nat.ble ((b3S i)*8) 140737488355328) (tQ l s n l (IV.vslice (some ((Lk i).1)) (b3S i) (b3S i) 1 (List.map Zs (Mi i)++ [iI (i.1:Int)])) (wW ((i.1:Int)+1)) (λj=>((Lk i).2).set ((Lk i).1) (IObj.tip (b3S i))=Heap.mk PT.nil 0/\(tS l s j)/\l.length-j<l.length-i.1) (λg=>((Lk i).2).set ((Lk i).1) (IObj.tip (b3S i))=(g.2.2).2/\(qL l s g)/\l.length-g.1<l.length-i.1))) (tQ l s n l (La i) (wW ((i.1:Int)+1)) (λj=>(Lk i).2=Heap.mk PT.nil 0/\(tS l s j)/\List.length l-j<l.length-i.1) (λg=>(Lk i).2=g.2.2.2/\(qL l s g)/\l.length-g.1<l.length-i.1)))) ((0< (↑((Mi i).length):Int)/\(↑((Mi i).length):Int)<4611686018427387904)/\aF (decide (0<=wW (S3 i n)) &&decide (wW (S3 i n)< (↑((Mi i).length):Int))) (aN .i64 (List.map Zs (Mi i)) ((wW (S3 i n)).toNat*(1:Nat)) λD=>Q (.int .i64 D) h)))):=by kernel_rfl
theorem f6C: ∀xs h Q,e0A xs h Q->aM env 37 xs h Q:=by
 intro xs h Q hk;unfold e0A at hk;split at hk
 .rename_i V n1 r s n;obtain⟨l,⟨rfl,rfl⟩,X,hk⟩:=hk;refine aL (Xp) (f7V l s n V h Q) ?_;delta kI tT Zs Ky La tQ tS Lk qL tR hH e6F kH Mi b3S S3 tI wW iI; (try dsimp -iota -proj only);have A: ∀x:Nat,(x:Int).toNat=x:=AK
  obtain⟨G,K,hs⟩:=X;have a0:(bU l).length=l.length:=Fp l;have z: ∀{i:Nat}(h:i< (bU l).length),(bU l).getD i 0=(bU l)[i]:=λh=>by rw [AH,AB h];rfl
  refine aA (by simp only [aQ,aY,bX,AN]) ⟨l,⟨rfl,rfl⟩,⟨G,K⟩,.inl ⟨0,KD,KD,KD,KD,KD,KD,KD,⟨AR _,hs⟩,trivial⟩,?_,?_⟩
  .rintro i _ ⟨O,hd⟩
   try dsimp only at O hd⊢
   refine aB (λc=>?_) (λc=>?_)
   .rw [decide_eq_true_eq]at c;have j:i< (bU l).length:=JZ;refine aA (by simp;omega) (En j (by rw [AM,A]) (aB (λr=> .inr ⟨(i+1,[(i:Int)],0,_),KD,KD,KD,KD,KD,(by rw [AA _ JZ];rfl),KD,⟨⟨KE,Nat.one_pos,by dsimp only [List.length_cons,List.length_nil];omega⟩,⟨rfl,Nat.one_pos⟩,λq y=>?_⟩,KE⟩) (λr=> .inl ⟨i+1,KD,KD,KD,KD,KD,(by rw [AA _ JZ];rfl),KD,⟨JZ,?_⟩,JZ⟩)))
    .rw [BU.1 y,A,z j,beq_iff_eq.1 r];omega
    .rw [List.drop_eq_getElem_cons j]at hd;rcases CD.1 hd with q|q
     .rw [beq_eq_false_iff_ne]at r;exact absurd q.symm r
     .exact q
   .rw [decide_eq_false_iff_not]at c;rw [List.drop_eq_nil_of_le JZ]at hd
    cases hd
  .rintro⟨i,a,R,g⟩ _ ⟨⟨O,T,D⟩,⟨L,u⟩,y⟩;dsimp only at O T D L u y⊢;refine aB (λc=>?_) (λc=>?_)
   .rw [decide_eq_true_eq]at c;have j:i< (bU l).length:=JZ;refine aA (by simp;omega) (En j (by rw [AM,A]) (aB (λr=>bB L (aA (by simp only [AM,AE,bT,BB,true_and];omega) (.inr ⟨(i+1,a++ [(i:Int)],R,g.set R (.tip (a.length+1))),KD,KD,KD,KD,KB,(by rw [AA _ JZ];rfl),KD,⟨⟨KE,KB,by simp;omega⟩,⟨by rw [aH];simp,u⟩,λq m=>?_⟩,KE⟩))) (λr=> .inr ⟨(i+1,a,R,g),KD,KD,KD,KD,KD,(by rw [AA _ JZ];rfl),KD,⟨⟨KE,T,KE⟩,⟨L,u⟩,y⟩,KE⟩)));rcases BZ.1 m with m|m
    .exact y q m
    .rw [BU.1 m,A,z j,beq_iff_eq.1 r];omega
   .have Y:=CT n (show(a.length:Int)≠0 by omega);have Z:=CR n (show(0:Int)<a.length by omega);have w1:IntKind.i64.wrap ((a.length:Int)-1)=(a.length:Int)-1:=AA _ JZ;rw [w1];have w2:IntKind.i64.wrap ((a.length:Int)-1-n% (a.length:Int))=(a.length:Int)-1-n% (a.length:Int):=AA _ JZ;rw [w2];have j:((a.length:Int)-1-n% (a.length:Int)).toNat<a.length:=JZ;exact⟨⟨JZ,JZ⟩,aA (by simp;omega) (En j (AM _) (hk _ (y _ (AG j))))⟩
 .exact hk.elim
def e7V:=aV 37 e0A Qg
theorem e8W:aS env e7V:=aE f6C (Xp)
def El(xs:Y14)(h:Heap)(K:KT):Prop:=match xs with
 | [x,y]=>Bq [x,y] h K
 |_=>False
theorem c3U: ∀xs h Q,El xs h Q->aM env 50 xs h Q:=by
 intro xs h Q hk;unfold El at hk;split at hk
 .exact a8Z _ _ _ hk
 .exact hk.elim
def De:=aV 50 El e7V
theorem Ok:aS env De:=aE c3U (e8W)
def c7Q(l:Y15)(op g:Int)(ks:Y12):Inv':=dL Nat (λx=>[(0,.v (.vslice none 0 (l).length 3 ((l).flatMap cN))),(3,.l 3 0),(5,.v (.int .i64 x))]) (λ_=>[(3,[.int .i64 op,.int .i64 g,.vslice none 0 ks.length 1 (ks.map (IV.int .i64))])]) (λ_=>Heap.empty) (λx=>x<=l.length/\∀j,j<x-> ∀q,l[j]?=some q->(⟨op,g,ks⟩:Nd)≠q) (λx=>l.length-x)
def a2B(xs:Y14)(h:Heap)(K:KT):Prop:=match xs with
 | [.vslice none e0 n0 3 c0,.agg [.int .i64 op,.int .i64 im,.vslice none e1 n1 1 c1]]=> ∃(l:Y15)(ks:Y12),(n0=l.length/\c0=l.flatMap cN)/\(n1=ks.length/\c1=ks.map (IV.int .i64))/\(l.length<=1000000/\∀x∈l,x.ks.length<=1000000)/\K (.bool (decide ((⟨op,im,ks⟩:Nd) ∈l))) h
 |_=>False
def d3C(op g:Int)(ks:Y12):=[iI op,iI g,IV.vslice none 0 ks.length 1 (List.map (IV.int .i64) ks)]
def Kx(l:Y15)(op:Int)(u:Int)(ks:Y12)(m:Int)(g:Nat)(r:Prop):Prop:=kI (tT l) (tT l) (TV.l 3 0) (TV.l 3 0) (tI m=tI (g:Int)/\some (d3C op u ks)=some (d3C op u ks)/\Heap.mk PT.nil 0=Heap.mk PT.nil 0/\(g<=l.length/\∀(i:Nat),i<g-> ∀(j:Nd),l[i]?=some j->Nd.mk op u ks≠j)/\r)
theorem e4C(l:Y15)(op m:Int)(ks:Y12)(e0 z:Nat)(h:Heap)(Q:KT):dF (aU De) env 40 cC (mJ 3 (c7Q l op m ks)) bD [.vslice none e0 (l).length 3 ((l).flatMap cN),.agg [.int .i64 op,.int .i64 m,.vslice none z ks.length 1 (ks.map (IV.int .i64))]] h Q=(
 aF (aQ [IV.vslice none 0 l.length 3 (List.flatMap cN l),IV.agg (d3C op m ks)]) ((∃(i:Nat),Kx l op m ks 0 i True)/\∀(i:Nat)(b:FF),(i<=l.length/\∀(j:Nat),j<i-> ∀(u:Nd),l[j]?=some u->Nd.mk op m ks≠u)->aK (decide ((i:Int)< (l.length:Int))) (aF (decide (0<=(i:Int)) &&decide ((i:Int)< (l.length:Int))) (aN .i64 (List.flatMap cN l) ((i:Int).toNat*3) λD=>aN .i64 (List.flatMap cN l) ((i:Int).toNat*3+(1:Nat)) λG=>bM 1 (List.flatMap cN l) ((i:Int).toNat*3+1+1) λL K A y=> ∃(g mK:Y12),(A=g.length/\y=List.map (IV.int .i64) g)/\(ks.length=mK.length/\List.map (IV.int .i64) ks=List.map (IV.int .i64) mK)/\g.length<=1000000000/\aK (decide (Nd.mk D G g=Nd.mk op m mK)) (Q (.bool true) h) (∃(r:Nat),Kx l op m ks (wW ((i:Int)+1)) r (l.length-r<l.length-i)))) (Q (.bool false) h))):=by kernel_rfl
theorem e2L: ∀xs h Q,a2B xs h Q->aM env 40 xs h Q:=by
 intro xs h Q hk;unfold a2B at hk;split at hk
 .rename_i e0 R O op K A T r;obtain⟨l,ks,⟨rfl,rfl⟩,⟨rfl,rfl⟩,D,hk⟩:=hk;refine aL (Ok) (e4C l op K ks e0 A h Q) ?_;delta d3C kI tT Kx tI wW iI;have L: ∀x:Nat,(x:Int).toNat=x:=AK
  refine aA (by simp only [aQ,aY,bL,bX,AN]) ⟨⟨0,KD,KD,KD,KD,KD,⟨AR _,λj u=>JZ⟩,trivial⟩,?_⟩;rintro i _ ⟨G,m⟩
  try dsimp only at G m⊢
  have z: ∀x:Nd,(⟨x.op,x.im,x.ks⟩:Nd)=x:=λx=>by cases x;rfl
  refine aB (λc=>?_) (λc=>?_)
  .rw [decide_eq_true_eq]at c;have g:i<l.length:=JZ;refine aA (by simp;omega) (uM g (by rw [L]) ⟨l[i].ks,ks,⟨rfl,rfl⟩,⟨rfl,rfl⟩,by have:=D.2 _ (AG g);omega,aB (λr=>?_) (λr=>⟨i+1,KD,KD,?_,KD,KD,⟨g,λj u q y=>?_⟩,by(try dsimp only);omega⟩)⟩)
   .rw [decide_eq_true_eq,z]at r;rw [decide_eq_true (r▸AG g)]at hk;exact hk
   .rw [AA _ JZ];rfl
   .rcases BK j i with p|p
    .exact m j p q y
    .obtain rfl:j=i:=JZ;rw [decide_eq_false_iff_not,z]at r;rw [AB g,AC]at y;rw [<-y];exact λe=>r e.symm
  .rw [decide_eq_false_iff_not]at c;rw [decide_eq_false (λhm=>?_)]at hk
   .exact hk
   .obtain⟨j,u,e⟩:=DK.1 hm;exact m j JZ _ (AB u) e.symm
 .exact hk.elim
def b4W:=aV 40 a2B De
theorem c9J:aS env b4W:=aE e2L (Ok)
def c9B(b:Bool)(l:Y12):Inv':=(dL ND (λx=>[(0,.v (.vslice none 0 (l).length 1 ((l).map (IV.int .i64)))),(1,.v (.bool b)),(6,.v (.int .i64 x.i)),(5,.v (.vslice x.io x.e x.x.length 3 (x.x.flatMap cN)))]) (λx=>[]) (λx=>x.g) (λx=>x.i<=14/\OV x) (λx=>(14-x.i)*10))
def a7O(b:Bool)(l:Y12):Inv':=(dL ND (λx=>[(0,.v (.vslice none 0 (l).length 1 ((l).map (IV.int .i64)))),(1,.v (.bool b)),(6,.v (.int .i64 x.i)),(5,.v (.vslice x.io x.e x.x.length 3 (x.x.flatMap cN))),(7,.v (.ptr x.rd 0)),(8,.l 8 0)]) (λx=>[(8,[.int .i64 x.op,.int .i64 x.im,.nilslice])]) (λx=>x.g) (λx=>(x.i<14/\x.i<l.length)/\OR x/\OI x.op x.im) (λx=>(14-x.i)*10))
def c8Z(b:Bool)(l:Y12):Inv':=(dL ND (λx=>[(0,.v (.vslice none 0 (l).length 1 ((l).map (IV.int .i64)))),(1,.v (.bool b)),(6,.v (.int .i64 x.i)),(5,.v (.vslice x.io x.e x.x.length 3 (x.x.flatMap cN))),(7,.v (.ptr x.rd 0)),(8,.l 8 0),(9,.v (.int .i64 (ar x.op))),(11,.v (.int .i64 x.ks.length))]) (λx=>[(8,[.int .i64 x.op,.int .i64 x.im,x.kv])]) (λx=>x.g) (λx=>(x.i<14/\x.i<l.length)/\OR x/\OI x.op x.im/\KV x) (λx=>(14-x.i)*10+(3-x.ks.length)))
def c8V(b:Bool)(l:Y12):Inv':=(dL ND (λx=>[(0,.v (.vslice none 0 (l).length 1 ((l).map (IV.int .i64)))),(1,.v (.bool b)),(6,.v (.int .i64 x.i)),(5,.v (.vslice x.io x.e x.x.length 3 (x.x.flatMap cN))),(8,.l 8 0)]) (λx=>[(8,[.int .i64 x.op,.int .i64 x.im,x.kv])]) (λx=>x.g) (λx=>(x.i<14/\x.i<l.length)/\OV x/\KV x/\OI x.op 0/\(x.ks.length:Int)=ar x.op/\((x.op≠27/\bE x.im/\(x.op=1\/x.im=0)) \/ (x.op=27/\1<=x.im/\x.im<=2))) (λx=>(14-x.i)*10))
def c8U(b:Bool)(l:Y12):Inv':= .or (dL ND (λx=>[(0,.v (.vslice none 0 (l).length 1 ((l).map (IV.int .i64)))),(1,.v (.bool b)),(6,.v (.int .i64 x.i)),(5,.v (.vslice x.io x.e x.x.length 3 (x.x.flatMap cN))),(8,.l 8 0)]) (λx=>[(8,[.int .i64 x.op,.int .i64 x.im,.nilslice])]) (λx=>x.g) (λx=>(x.i<14/\x.i<l.length)/\OV x/\FN x.x x.op x.im []/\x.ks=[]) (λx=>(14-x.i)*10)) (dL ND (λx=>[(0,.v (.vslice none 0 (l).length 1 ((l).map (IV.int .i64)))),(1,.v (.bool b)),(6,.v (.int .i64 x.i)),(5,.v (.vslice x.io x.e x.x.length 3 (x.x.flatMap cN))),(8,.l 8 0)]) (λx=>[(8,[.int .i64 x.op,.int .i64 x.im,.vslice (some x.rd) x.ks.length x.ks.length 1 (x.ks.map (IV.int .i64))])]) (λx=>x.g) (λx=>(x.i<14/\x.i<l.length)/\OV x/\FN x.x x.op x.im x.ks) (λx=>(14-x.i)*10))
def Rk(xs:Y14)(h:Heap)(K:KT):Prop:=match xs with
 | [.vslice none e1 n1 1 c1,.bool b]=> ∃l:Y12,(n1=l.length/\c1=l.map (IV.int .i64))/\((∀x∈l,bE x)/\l.length<=9223372036854775807)/\∀x:Y15,NW 14 x->K (.vslice none 0 (x).length 3 ((x).flatMap cN)) h
 |_=>False
def c5C(g:ND):=[iI (ND.op g),iI (ND.im g),ND.kv g]
def Tu:=IV.int .i64
def a5P:=TV.l 8 0
def Kz(g:ND):Prop:=ND.op g≠27/\bE (ND.im g)/\(ND.op g=1\/ND.im g=0) \/ND.op g=27/\1<=ND.im g/\ND.im g<=2
abbrev e5I(g:ND):=KV g/\OI (ND.op g) 0/\(↑((ND.ks g).length):Int)=ar (ND.op g)/\(Kz g)
def e5J(g:Y12):=IV.vslice none 0 g.length 1 (List.map Tu g)
def e5K(g:ND):=TV.v (.int .i64 (↑((ND.ks g).length):Int))
def hJ(g:ND):IV:=IV.vslice (ND.io g) (ND.e g) ((ND.x g).length) 3 (List.flatMap cN (ND.x g))
def gZ(j:Y12)(g:Bool)(m:Int)(r:IV)(u:ND->Prop):Prop:= ∃(l:ND),kI (e5J j) (e5J j) (TV.v (.bool g)) (TV.v (.bool g)) (tI m=tI ((ND.i l):Int)/\some (TV.v r)=some (TV.v (hJ l))/\u l)
def hU(j:Y12)(g:ND):Prop:=ND.i g<14/\ND.i g<j.length
def S1(r:ND)(j:ND)(u:Int)(y:Int)(z:Int)(l:Y12)(M:Nat)(m:Int):Prop:=kI (IV.ptr ((ND.g r).next) 0) (IV.ptr (ND.rd j) 0) a5P a5P (some [iI m,iI 0,IV.nilslice]=some [iI (ND.op j),iI (ND.im j),IV.nilslice]/\Heap.push (ND.g r) (IObj.cells [IV.vslice none 1 3 1 [iI (wW (Int.tdiv u 7)),iI (wW (Int.tdiv y 101)),iI (wW (Int.tdiv
 z 1009))],iI 0])=ND.g j/\((hU l j)/\OR j/\OI (ND.op j) (ND.im j))/\((14:Nat)-ND.i j)*10<=M)
def S2(m:Y12)(l:Bool)(g:ND)(r:ND->Prop):Prop:=gZ m l ((ND.i g):Int) (hJ g) (λj=>kI (IV.ptr (ND.rd g) 0) (IV.ptr (ND.rd j) 0) a5P a5P (r j))
def Lb(l:Y12)(r:Bool)(m:ND)(M:Nat)(u:Int)(y:Int):Prop:=S2 l r m (λj=>some [iI u,iI y,IV.nilslice]=some [iI (ND.op j),iI (ND.im j),IV.nilslice]/\ND.g m=ND.g j/\((hU l j)/\OR j/\OI (ND.op j) (ND.im j))/\((14:Nat)-ND.i j)*10<=M)
def yH(m:Y12)(M:Nat)(l:ND)(r:Int)(j:ND)(u:Y14)(y:Prop):Prop:=some a5P=some a5P/\some [iI (ND.op l),iI r,ND.kv l]=some u/\ND.g l=ND.g j/\((hU m j)/\OV j/\y)/\((14:Nat)-ND.i j)*10<=M
def S0(l:Y12)(r:Bool)(m:ND)(M:Nat)(u:Int):Prop:=(gZ l r ((ND.i m):Int) (hJ m) (λj=>yH l M m u j [iI (ND.op j),iI (ND.im j),IV.nilslice] (FN (ND.x j) (ND.op j) (ND.im j) []/\ND.ks j=[]))) \/gZ l r ((ND.i m):Int) (hJ m) (λg=>yH l M m
 u g [iI (ND.op g),iI (ND.im g),IV.vslice (some (ND.rd g)) ((ND.ks g).length) ((ND.ks g).length) 1 (List.map Tu (ND.ks g))] (FN (ND.x g) (ND.op g) (ND.im g) (ND.ks g)))
def Kw(j:ND)(M:Nat)(y:Y12)(u:Bool)(V:ND)(R:Y12->Prop)(X:Nat)(T:Y14):Prop:=((14:Nat)-ND.i j)*10<=M-> ∃(l:Y15)(z:Y12),((ND.x j).length=l.length/\List.flatMap cN (ND.x j)=List.flatMap cN l)/\(R z)/\(l.length<=1000000/\∀(A:Nd),A∈l->List.length (Nd.ks A)<=1000000)/\aK (!decide (Nd.mk (ND.op
 j) (ND.im j) z∈l)) (dX (ND.g j) 3 40 (hJ j) 1 T λD G K L O=>gZ y u (wW (((ND.i j):Int)+1)) (IV.vslice (some D) G K 3 L) (λm=>O=ND.g m/\(ND.i m<=14/\OV m)/\((14:Nat)-ND.i
 m)*10< ((14:Nat)-ND.i V)*10)) (gZ y u (wW (((ND.i j):Int)+1)) (hJ j) (λr=>ND.g j=ND.g r/\(ND.i r<=14/\OV r)/\((14:Nat)-ND.i r)*10< ((14:Nat)-ND.i V)*10))
def yI(g:ND):IV:=IV.vslice none 0 ((ND.x g).length) 3 (List.flatMap cN (ND.x g))
theorem d1Q(l:Y12)(b:Bool)(e1:Nat)(h:Heap)(Q:KT):dF (aU b4W) env 11 cC (zE 4 (c9B b l) (mJ 1000014 (c8Z b l))) (zE 1000010 (a7O b l) (zE 1000012 (a7O b l) (zE 1000019 (c8V b l) (mJ 1000021 (c8U b l))))) [.vslice none e1 (l).length 1 ((l).map (IV.int .i64)),.bool b] h Q=(
 aF (aQ [IV.vslice none 0 l.length 1 (List.map Tu l),IV.bool b]) ((gZ l b 0 (IV.vslice none 1 3 3 [iI 2,iI 0,IV.vslice none 0 0 1 [],iI 2,iI 1,IV.vslice none 0 0 1 [],iI 26,iI 0,IV.vslice none 0 0 1 []]) (λr=>Heap.mk PT.nil 0=ND.g r/\(ND.i r<=14/\OV r)/\True))/\∀(r:ND)(a0:FF),ND.i r<=14/\OV r->aK (decide (((ND.i r):Int)< (l.length:Int))) (aK (decide (((ND.i r):Int)<14)) (hH (ND.i r) l (λT=>tR (ND.i r) l (λV=>hH (ND.i r) l (λn2=>tR (ND.i r) l (λn3=>(kH 19)/\∃(M:Nat),aK (!b) (hH (ND.i r) l (λn4=>(kH 9)/\aK (decide (n4% (9:Int)>5)) (hH (ND.i r) l (λn5=>(kH 5)/\aF (decide (0<=wW (Int.tdiv n5 9)% (5:Int)) &&decide (wW (Int.tdiv n5 9)% (5:Int)<5)) (aN .i64 [iI 23,iI 27,iI 28,iI 29,iI 24] ((wW (Int.tdiv n5 9)% (5:Int)).toNat*1) λn6=>gZ l b ((ND.i r):Int) (hJ r) (λm=>S1 r m T V n2 l M n6)))) (gZ l b ((ND.i r):Int) (hJ r) (λm=>S1 r m T V n2 l M (wW ((4:Int)+n3% (19:Int))))))) (gZ l b ((ND.i r):Int) (hJ r) (λm=>S1 r m T V n2 l M (wW ((4:Int)+n3% (19:Int)))))/\∀(m:ND)(a1:FF),(hU l m)/\OR m/\OI (ND.op m) (ND.im m)->((14:Nat)-ND.i m)*(10:Nat)<=M-> ∃(M:Nat),aF (decide (0<=((ND.i m):Int)) &&decide (((ND.i m):Int)< (l.length:Int))) (aN .i64 (List.map Tu l) (((ND.i m):Int).toNat*1) λn7=>(kH 11)/\aK (n7% (11:Int)==0) (hH (ND.i m) l (λn8=>tR (ND.i m) l (λn9=>bE n9/\∀(w:Int),bE w->Lb l b m M 1 w))) (Lb l b m M (ND.op m) (ND.im m)))/\∀(z:ND)(a2:FF),(hU l z)/\OR z/\OI (ND.op z) (ND.im z)->((14:Nat)-ND.i z)*10<=M-> ∃(M:Nat),(S2 l b z (λr=>kI (iI (ar (ND.op z))) (iI (ar (ND.op r))) (TV.v (.int .i64 0)) (e5K r) (some [iI (ND.op z),iI (ND.im z),IV.nilslice]=some (c5C r)/\ND.g z=ND.g r/\((hU l r)/\OR r/\OI (ND.op r) (ND.im r)/\KV r)/\((14:Nat)-ND.i r)*10+((3:Nat)- (ND.ks r).length)<=M)))/\∀(j:ND)(a3:FF),(hU l j)/\OR j/\OI (ND.op j) (ND.im j)/\KV j->((14:Nat)-ND.i j)*10+((3:Nat)- (ND.ks j).length)<=M->aK (decide ((↑((ND.ks j).length):Int)<ar (ND.op j))) (RD (ND.g j) (ND.rd j)/\∀(n:Int)(h2:Heap),bE n->RD h2 (ND.rd j)->HF (ND.rd j) (ND.g j) h2-> ∃(A:Y15),((ND.x j).length=A.length/\List.flatMap cN (ND.x j)=List.flatMap cN A)/\((∀(x:Nd),x∈A->List.length (Nd.ks x)<=1000000/\Nd.op x≠25/\Nd.op x≠30/\Nd.op x≠31)/\A.length<=1000000/\List.Mem (vJ (ND.op j) (↑((ND.ks j).length):Int)) (bU A))/\∀(q:Int),(0:Int)<=q/\q< (A.length:Int)/\List.getD (bU A) q.toNat 0=vJ (ND.op j) (↑((ND.ks j).length):Int)->dX h2 1 8 j.8 1 [iI q] λO K R G L=>S2 l b j (λr=>kI (iI (ar (ND.op j))) (iI (ar (ND.op r))) (TV.v (.int .i64 (wW ((↑((ND.ks j).length):Int)+1)))) (e5K r) (some [iI (ND.op j),iI (ND.im j),IV.vslice (some O) K R 1 G]=some (c5C r)/\L=ND.g r/\((hU l r)/\OR r/\OI (ND.op r) (ND.im r)/\KV r)/\((14:Nat)-ND.i r)*10+((3:Nat)- (ND.ks r).length)< ((14:Nat)-ND.i j)*10+((3:Nat)- (ND.ks j).length)))) (∃(M:Nat),aK (ND.op j==(27:Int)) (hH (ND.i j) l (λX=>(kH 2)/\gZ l b ((ND.i j):Int) (hJ j) (λr=>yH l M j (wW ((1:Int)+wW (Int.tdiv X 5)% (2:Int))) r (c5C r) (e5I r)))) (gZ l b ((ND.i j):Int) (hJ j) (λr=>yH l M j (ND.im j) r (c5C r) (e5I r)))/\∀(y:ND)(a4:FF),(hU l y)/\OV y/\KV y/\OI (ND.op y) 0/\(↑((ND.ks y).length):Int)=ar (ND.op y)/\(Kz y)->((14:Nat)-ND.i y)*10<=M-> ∃(M:Nat),aK (ND.op y==23) (hH (ND.i y) l (λY=>(kH 2)/\(S0 l b y M (wW (Int.tdiv Y 5)% (2:Int))))) (aK (ND.op y==28) (hH (ND.i y) l (λZ=>(kH 2)/\(S0 l b y M (wW (Int.tdiv Z 5)% (2:Int))))) (S0 l b y M (ND.im y)))/\(∀(u:ND)(D:FF),(hU l u)/\OV u/\FN (ND.x u) (ND.op u) (ND.im u) []/\ND.ks u=[]->Kw u M l b r (λks=>((0:Nat)=ks.length/\[]=List.map Tu ks)) 0 [iI (ND.op u),iI (ND.im u),IV.vslice none 0 0 1 []])/\∀(u:ND)(D:FF),(hU l u)/\OV u/\FN (ND.x u) (ND.op u) (ND.im u) (ND.ks u)->Kw u M l b r (λks=>((ND.ks u).length=ks.length/\List.map Tu (ND.ks u)=List.map Tu ks)) ((ND.ks u).length) [iI (ND.op u),iI (ND.im u),IV.vslice none 0 ((ND.ks u).length) 1 (List.map Tu (ND.ks u))])))))) (aF (aQ [yI r]) (Q (yI r) h))) (aF (aQ [yI r]) (Q (yI r) h)))):=by kernel_rfl
theorem d0L: ∀xs h Q,Rk xs h Q->aM env 11 xs h Q:=by
 intro xs h Q hk;unfold Rk at hk;split at hk
 .rename_i e1 n1 c1 b;obtain⟨l,⟨rfl,rfl⟩,hb,hk⟩:=hk;refine aL (c9J) (d1Q l b e1 h Q) ?_;delta Tu kI e5J hJ gZ Zs tR hH kH a5P hU S1 S2 Lb e5K c5C yH Kz e5I S0 Kw yI tI wW iI; (try dsimp -iota -proj only);have tn: ∀x:Nat,(x:Int).toNat=x:=AK
  obtain⟨c9,e3⟩:=hb;have V: ∀{i:Nat}{K:Int->Prop},i<l.length->(∀n,bE n->K n)->aF (decide ((0:Int)<=(i:Int)) &&decide ((i:Int)< (l.length:Int))) (aN .i64 (l.map (IV.int .i64)) ((i:Int).toNat*1) K):=
   λh hk=>aA (by simp;omega) (En h (by rw [AM,tn]) (hk _ (c9 _ (AG h))))
  refine aA (by simp only [aQ,aY,bL,AN]) ⟨⟨⟨0,Nk,none,1,0,0,[],.nilslice,0,Heap.empty⟩,?_⟩,?_⟩
  .repeat (refine And.intro (by first|rfl|exact True.intro| (rw [AA _ JZ];rfl)) ?_)
   exact⟨⟨AR _,NW.init,.inl ⟨rfl,rfl⟩⟩,trivial⟩
  rintro x _ ⟨hi,a1⟩;have fin:aF (aQ [.vslice none 0 x.x.length 3 (x.x.flatMap cN)]) (Q (.vslice none 0 x.x.length 3 (x.x.flatMap cN)) h):=aA (by simp only [aQ,aY,bX,AN]) (hk _ (a1.1.mono hi));refine aB (λc=>aB (λc2=>?_) (λ_=>fin)) (λ_=>fin);rw [decide_eq_true_eq]at c c2;have hr:x.i<14/\x.i<l.length:=JZ;refine V hr.2 (λn0 _=>V hr.2 (λn1 _=>V hr.2 (λn2 _=>V hr.2 (λn3 _=>⟨JZ,(14-x.i)*10,?_,?_⟩))))
  .have w3:IntKind.i64.wrap (4+n3%19)=4+n3%19:=AA _ JZ;rw [w3];have o3:wM (4+n3%19)=true:=by unfold wM;rw [decide_eq_true_eq];omega
   have oi: ∀op,wM op=true->OI op 0:=λop h=>⟨h,by unfold bE;omega,.inr rfl⟩
   refine aB (λ_=>V hr.2 (λn4 _=>⟨JZ,aB (λ_=>V hr.2 (λn5 _=>⟨JZ,aA (by simp;omega) ?_⟩)) (λ_=>?_)⟩)) (λ_=>?_)
   .show aN .i64 (([23,27,28,29,24]:Y12).map (IV.int .i64)) _ _;have hl:(IntKind.i64.wrap (n5.tdiv 9)%5).toNat< ([23,27,28,29,24]:Y12).length:=by simp;omega
    have ha: ∀x∈ ([23,27,28,29,24]:Y12),wM x=true:=KA
    exact En hl (AM _) ⟨⟨x.i,x.x,x.io,x.e,_,0,[],.nilslice,x.g.next,_⟩,rfl,rfl,rfl,rfl,rfl,rfl,rfl,rfl,⟨hr,OR.mk1 a1 _ _ _ _ _,oi _ (ha _ (AG hl))⟩,AF _⟩
   .exact⟨⟨x.i,x.x,x.io,x.e,4+n3%19,0,[],.nilslice,x.g.next,_⟩,rfl,rfl,rfl,rfl,rfl,rfl,rfl,rfl,⟨hr,OR.mk1 a1 _ _ _ _ _,oi _ o3⟩,AF _⟩
   .exact⟨⟨x.i,x.x,x.io,x.e,4+n3%19,0,[],.nilslice,x.g.next,_⟩,rfl,rfl,rfl,rfl,rfl,rfl,rfl,rfl,⟨hr,OR.mk1 a1 _ _ _ _ _,oi _ o3⟩,AF _⟩
  .rintro x1 _ ⟨Z,b8,d0⟩ d4;refine⟨(14-x1.i)*10,V Z.2 (λn7 _=>⟨JZ,aB (λ_=>V Z.2 (λn8 _=>V Z.2 (λn9 h9=>⟨h9,λw hw=>⟨⟨x1.i,x1.x,x1.io,x1.e,1,w,[],.nilslice,x1.rd,x1.g⟩,?_⟩⟩))) (λ_=>⟨x1,?_⟩)⟩),?_⟩
   .repeat (refine And.intro (by first|rfl|exact True.intro| (rw [AA _ JZ];rfl)) ?_)
    exact⟨⟨Z,b8,⟨rfl,hw,.inl rfl⟩⟩,AF _⟩
   .repeat (refine And.intro (by first|rfl|exact True.intro| (rw [AA _ JZ];rfl)) ?_)
    exact⟨⟨Z,b8,d0⟩,AF _⟩
   rintro x2 _ ⟨d1,b9,a4⟩ d5;refine⟨(14-x2.i)*10+3,⟨⟨x2.i,x2.x,x2.io,x2.e,x2.op,x2.im,[],.nilslice,x2.rd,x2.g⟩,?_⟩,?_⟩
   .repeat (refine And.intro (by first|rfl|exact True.intro| (rw [AA _ JZ];rfl)) ?_)
    exact⟨⟨d1,b9,a4,KS.nil a4.1,.inl ⟨rfl,rfl⟩⟩,AF _⟩
   rintro z _ ⟨a2,u,G,a0,Y⟩ d6;have e4:=u.1.1.1;have d8:=e7I z.op;have e2:=a0.1;refine aB (λc3=>?_) (λc3=>?_)
   .rw [decide_eq_true_eq]at c3;refine⟨u.2.1,λn h2 hn c0 hf=>⟨z.x,⟨rfl,rfl⟩,⟨u.1.1.sorts,JZ,u.1.1.has _ _⟩,λq hq=>?_⟩⟩;have b4:(z.kv= .nilslice/\z.ks=[]) \/ ∃id,z.kv= .vslice (some id) z.ks.length z.ks.length 1 (z.ks.map (IV.int .i64))/\KH z.ks id h2:=by
     rcases Y with q| ⟨id,q1,D,T,_⟩
     .exact .inl q
     .exact .inr ⟨id,q1,D.hf hf T⟩
    refine b4M b4 JZ (λid h3 c8 b0 b1=>⟨⟨z.i,z.x,z.io,z.e,z.op,z.im,z.ks++ [q],.vslice (some id) (z.ks++ [q]).length (z.ks++ [q]).length 1 ((z.ks++ [q]).map (IV.int .i64)),z.rd,h3⟩,?_⟩);have b6: ∀j,z.io=some j->j≠id:=λj hj e=>by
     subst e;rcases b1 with q|q
     .rcases u.1.2 with D| ⟨Vm,D,_,T⟩
      .rw [D.1]at hj
       cases hj
      .rw [D]at hj
       cases hj
       have:=T.2;have:=hf.1;omega
     .rcases Y with⟨D,_⟩| ⟨Vm,D,_,_,T⟩
      .rw [D]at q
       cases q
      .rw [D]at q
       cases q
       exact T _ hj rfl
    have b7:id≠z.rd:=λe=>by
     subst e;rcases b1 with q|q
     .have:=c0.1;omega
     .rcases Y with⟨D,_⟩| ⟨Vm,D,_,T,_⟩
      .rw [D]at q
       cases q
      .rw [D]at q
       cases q
       exact T rfl
    refine⟨rfl,rfl,rfl,rfl,rfl,rfl,rfl,?_⟩;refine⟨by rw [AA _ JZ];simp,?_⟩
    repeat (refine And.intro (by first|rfl|exact True.intro| (rw [AA _ JZ];rfl)) ?_)
    refine⟨⟨a2,⟨⟨u.1.1,?_⟩,c0.hf b0 b7.symm,u.2.2⟩,G,a0.snoc c3 hq,.inr ⟨id,rfl,c8,b7,b6⟩⟩,by simp only [AI,AS,BL];omega⟩;rcases u.1.2 with D| ⟨Vm,D,q4,T⟩
    .exact .inl D
    .exact .inr ⟨Vm,D,q4,(T.hf hf (u.2.2 _ D)).hf b0 (b6 _ D)⟩
   .rw [decide_eq_false_iff_not]at c3;have b3:(z.ks.length:Int)=ar z.op:=JZ;refine⟨(14-z.i)*10,aB (λc4=>V a2.2 (λa8 _=>⟨JZ,⟨⟨z.i,z.x,z.io,z.e,z.op,1+IntKind.i64.wrap (a8.tdiv 5)%2,z.ks,z.kv,z.rd,z.g⟩,?_⟩⟩)) (λc4=>⟨z,?_⟩),?_⟩
    .have w4:IntKind.i64.wrap (1+IntKind.i64.wrap (a8.tdiv 5)%2)=1+IntKind.i64.wrap (a8.tdiv 5)%2:=AA _ JZ;rw [w4]
     repeat (refine And.intro (by first|rfl|exact True.intro| (rw [AA _ JZ];rfl)) ?_)
     refine⟨⟨a2,u.1,⟨a0,Y⟩,⟨G.1,by unfold bE;omega,.inr rfl⟩,b3,.inr ⟨beq_iff_eq.1 c4,KE,KE⟩⟩,KE⟩
    .repeat (refine And.intro (by first|rfl|exact True.intro| (rw [AA _ JZ];rfl)) ?_)
     refine⟨⟨a2,u.1,⟨a0,Y⟩,⟨G.1,by unfold bE;omega,.inr rfl⟩,b3,.inl ⟨by simpa using c4,G.2.1,G.2.2⟩⟩,JZ⟩
    rintro r _ ⟨a3,a5,⟨O,b5⟩,R,L,b2⟩ d7;have a9: ∀im,FN r.x r.op im r.ks->((∃y:ND,some (TV.v (.vslice none 0 l.length 1 (l.map (IV.int .i64))))=some (TV.v (.vslice none 0 l.length 1 (l.map (IV.int .i64))))/\some (TV.v (.bool b))=some (TV.v (.bool b))/\some (TV.v (.int .i64 (r.i:Int)))=some (TV.v (.int .i64 (y.i:Int)))/\
      some (TV.v (.vslice r.io r.e r.x.length 3 (r.x.flatMap cN)))=some (TV.v (.vslice y.io y.e y.x.length 3 (y.x.flatMap cN)))/\some (TV.l 8 0)=some (TV.l 8 0)/\some [.int .i64 r.op,.int .i64 im,r.kv]=some [.int .i64 y.op,.int .i64 y.im,IV.nilslice]/\r.g=y.g/\
      ((y.i<14/\y.i<l.length)/\OV y/\FN y.x y.op y.im []/\y.ks=[])/\(14-y.i)*10<=(14-r.i)*10) \/
     ∃y:ND,some (TV.v (.vslice none 0 l.length 1 (l.map (IV.int .i64))))=some (TV.v (.vslice none 0 l.length 1 (l.map (IV.int .i64))))/\some (TV.v (.bool b))=some (TV.v (.bool b))/\some (TV.v (.int .i64 (r.i:Int)))=some (TV.v (.int .i64 (y.i:Int)))/\
      some (TV.v (.vslice r.io r.e r.x.length 3 (r.x.flatMap cN)))=some (TV.v (.vslice y.io y.e y.x.length 3 (y.x.flatMap cN)))/\some (TV.l 8 0)=some (TV.l 8 0)/\some [.int .i64 r.op,.int .i64 im,r.kv]=some [.int .i64 y.op,.int .i64 y.im,IV.vslice (some y.rd) y.ks.length y.ks.length 1 (y.ks.map (IV.int .i64))]/\r.g=y.g/\
      ((y.i<14/\y.i<l.length)/\OV y/\FN y.x y.op y.im y.ks)/\(14-y.i)*10<=(14-r.i)*10):=λim a6=>by
      rcases b5 with⟨q1,D⟩| ⟨id,q1,D,T,q4⟩
      .refine .inl ⟨⟨r.i,r.x,r.io,r.e,r.op,im,[],.nilslice,r.rd,r.g⟩,?_⟩;rw [q1]
       repeat (refine And.intro (by first|rfl|exact True.intro| (rw [AA _ JZ];rfl)) ?_)
       exact⟨⟨a3,a5,by rw [D]at a6;exact a6,rfl⟩,AF _⟩
      .refine .inr ⟨⟨r.i,r.x,r.io,r.e,r.op,im,r.ks,.nilslice,id,r.g⟩,?_⟩;rw [q1]
       repeat (refine And.intro (by first|rfl|exact True.intro| (rw [AA _ JZ];rfl)) ?_)
       exact⟨⟨a3,a5,a6⟩,AF _⟩
    refine⟨(14-r.i)*10,aB (λc5=>V a3.2 (λe5 _=>⟨JZ,a9 _ ?_⟩)) (λc5=>aB (λc6=>V a3.2 (λe6 _=>⟨JZ,a9 _ ?_⟩)) (λc6=>a9 _ ?_)),?_,?_⟩
    .exact R.fn O L (.inr (.inl ⟨.inl (beq_iff_eq.1 c5),JZ,JZ⟩))
    .exact R.fn O L (.inr (.inl ⟨.inr (beq_iff_eq.1 c6),JZ,JZ⟩))
    .rw [beq_eq_false_iff_ne]at c5 c6;rcases b2 with⟨q1,D,T⟩| ⟨q1,D,T⟩
     .have:OI r.op r.im:=⟨R.1,D,T⟩;exact this.fn O L (.inl ⟨c5,q1,c6,rfl⟩)
     .exact R.fn O L (.inr (.inr ⟨q1,D,T⟩))
    .rintro A _ ⟨d2,m,X,d9⟩ c7;have d3:=m.1.1;refine⟨A.x,([]:Y12),⟨rfl,rfl⟩,⟨rfl,rfl⟩,⟨JZ,λn hn=>(m.1.sorts n hn).1⟩,aB (λcm=>a6D (n:=⟨A.op,A.im,([]:Y12)⟩) m.2 JZ (λid h3 a7=>⟨⟨A.i+1,A.x++ [⟨A.op,A.im,([]:Y12)⟩],some id,(A.x++ [(⟨A.op,A.im,([]:Y12)⟩:Nd)]).length*3,0,0,[],.nilslice,0,h3⟩,?_⟩)) (λ_=>⟨⟨A.i+1,A.x,A.io,A.e,0,0,[],.nilslice,0,A.g⟩,?_⟩)⟩
     .repeat (refine And.intro (by first|rfl|exact True.intro| (rw [AA _ JZ];rfl)) ?_)
      exact⟨⟨KE,m.1.app JZ (by simpa using cm) X,.inr ⟨id,rfl,rfl,a7⟩⟩,KE⟩
     .repeat (refine And.intro (by first|rfl|exact True.intro| (rw [AA _ JZ];rfl)) ?_)
      exact⟨⟨KE,m.1.mono (DM _),m.2⟩,KE⟩
    .rintro A _ ⟨d2,m,X⟩ c7;have d3:=m.1.1;refine⟨A.x,A.ks,⟨rfl,rfl⟩,⟨rfl,rfl⟩,⟨JZ,λn hn=>(m.1.sorts n hn).1⟩,aB (λcm=>a6D (n:=⟨A.op,A.im,A.ks⟩) m.2 JZ (λid h3 a7=>⟨⟨A.i+1,A.x++ [⟨A.op,A.im,A.ks⟩],some id,(A.x++ [(⟨A.op,A.im,A.ks⟩:Nd)]).length*3,0,0,[],.nilslice,0,h3⟩,?_⟩)) (λ_=>⟨⟨A.i+1,A.x,A.io,A.e,0,0,[],.nilslice,0,A.g⟩,?_⟩)⟩
     .repeat (refine And.intro (by first|rfl|exact True.intro| (rw [AA _ JZ];rfl)) ?_)
      exact⟨⟨KE,m.1.app JZ (by simpa using cm) X,.inr ⟨id,rfl,rfl,a7⟩⟩,KE⟩
     .repeat (refine And.intro (by first|rfl|exact True.intro| (rw [AA _ JZ];rfl)) ?_)
      exact⟨⟨KE,m.1.mono (DM _),m.2⟩,KE⟩
 .exact hk.elim
theorem Tc(h:Heap): ∀l:Y15,(l.flatMap cN).map (sP h)=l.flatMap cN
 | []=>rfl
 |n::r=>by
  rw [BF,BY,Tc h r];rfl
theorem Td{h:Heap}{id g len:Nat}{cs:Y14}{ks:Y12}(j:h.get id= .cells cs)(e:(cs.drop g).take (len*1)=ks.map (IV.int .i64))(l:ks.length=len)(i:g+len*1<=cs.length):sP h (.hslice id g len 1)= .vslice none 0 ks.length 1 (ks.map (IV.int .i64)):=by
 unfold sP
 simp only [j];rw [if_pos ⟨KA,i⟩,e,l]
theorem f1G{q:Nat}{v:Int}(h:q<K.length):(K.map (IV.int .i64)).take q++ [IV.int .i64 v]++(K.map (IV.int .i64)).drop (q+1)=(K.set q v).map (IV.int .i64):=by
 rw [DH,if_pos h];simp
theorem E9: ∀l:Y15,(l.flatMap cN).length=l.length*3
 | []=>rfl
 |n::r=>by
  rw [BF,AI,E9 r,AS];show 3+r.length*3=_;omega
theorem Uu: ∀(l:Y15)(k:Nat),(l.flatMap cN).take (k*3)=(l.take k).flatMap cN
 | [],k=>KB
 |n::r,0=>KB
 |n::r,k+1=>by
  rw [HL,BF,BF,<-Uu r k,show(k+1)*3=(cN n).length+k*3 from by show _=3+_;omega,List.take_length_add_append]
theorem Ut: ∀(l:Y15)(k:Nat),(l.flatMap cN).drop (k*3)=(l.drop k).flatMap cN
 | [],k=>KB
 |n::r,0=>KB
 |n::r,k+1=>by
  rw [EF,BF,<-Ut r k,show(k+1)*3=(cN n).length+k*3 from by show _=3+_;omega,List.drop_length_add_append]
theorem c7O{y:Y15}{k:Nat}(hk:k<y.length)(n:Nd):(y.flatMap cN).take (k*3)++cN n++(y.flatMap cN).drop (k*3+3)=(y.set k n).flatMap cN:=by
 rw [DH,if_pos hk,CI,BF,Uu,show k*3+3=(k+1)*3 by omega,Ut,BV]
def a2N(xs:Y14)(h:Heap)(K:KT):Prop:=match xs with
 | [.int .i64 n,.int .i64 m]=>(0<m/\m<4611686018427387904)/\K (.int .i64 (n%m)) h
 |_=>False
theorem e4N(n m:Int)(h:Heap)(Q:KT):dF (aU noC) env 12 cC bD bD [.int .i64 n,.int .i64 m] h Q=(
 aF (!m==0) (aK (decide (Int.tmod n m<0)) (Q (.int .i64 (wW (Int.tmod n m+m))) h) (Q (.int .i64 (Int.tmod n m)) h))):=by kernel_rfl
theorem e2W: ∀xs h Q,a2N xs h Q->aM env 12 xs h Q:=by
 intro xs h Q hk;unfold a2N at hk;split at hk
 .rename_i n m;refine aL (jW env) (e4N n m h Q) ?_;delta wW;obtain⟨hm,hk⟩:=hk;have h1:=FQ n (IR m);have i:=Go.M13.uZ n m hm.1;refine aA (by simp;omega) (aB (λg=>bN hk ?_) (λg=>bN hk ?_))
  .simp only [decide_eq_true_eq]at g;rw [AA _ JZ];congr 1;omega
  .simp only [decide_eq_false_iff_not]at g;congr 1;omega
 .exact hk.elim
def b5L:=aV 12 a2N noC
theorem c9N:aS env b5L:=aE e2W (jW env)
def PGm(l:Y15):Prop:=(∀n∈l,bE n.op/\bE n.im/\n.ks.length<=41)/\l.length<=2001
def b8M(xs:Y14)(h:Heap)(K:KT):Prop:=match xs with
 | [.vslice none e1 n1 3 c1,.int .i64 how,.int .i64 at_]=> ∃l:Y15,(n1=l.length/\c1=l.flatMap cN)/\((∀x∈l,bE x.op/\bE x.im/\x.ks.length<=40)/\1<=l.length/\l.length<=2000)/\(bE how/\bE at_)/\∀x:Y15,PGm x->1<=x.length->K (.vslice none 0 (x).length 3 ((x).flatMap cN)) h
 |_=>False
def vG(g:Nat):=(0:Nat)+g
def a5O:=(0:Nat)+1
def b3L(j i:Int)(g:Nat):=[iI i,iI j,IV.hslice a5O 0 (vG g) 1]
def tU(l:Y15):=(0:Nat)+l.length
def Md(g:Int):=Int.tdiv g 10
def Z1(l:Y15):=[]++List.flatMap cN l
def qM(g:IObj):=PT.node PT.nil (some g) PT.nil
def c5B:=Heap.mk (qM IObj.dead) a5O
def d2K(g:Int):=wW (wW (Md g)% (300:Int)-3)
def d2L(g:Int):=wW (wW (Md g)% (36:Int)-1)
def d2M(i g:Int):=[iI g,iI i,IV.vslice none 1 0 1 []]
def yK(l:Y15):Int:=((tU l):Int)+2
abbrev e5E(l:Y15):=0<wW (yK l)/\wW (yK l)<4611686018427387904
def e5F(l:Y15)(g:Int):=[iI (wW (wW (Md g)%wW (yK l)-1))]
def yL(g:Int)(l:Y15):Int:=g% ((tU l):Int)
def d2N(l:Y15)(g:Int):=(0:Nat)+(yL g l).toNat*3+3
def e5G(g:Int)(i:Nat):=(0:Nat)+(wW (Md g)% ((vG i):Int)).toNat*1+1
def d2O(l:Y15)(g:Int):=(0:Nat)+(yL g l).toNat*3
def e5H:=(0:Nat)+1+1+1
def d2P(l:Y15):=(0:Nat)+l.length+1
def qN(g:Int):Prop:=0<g/\g<4611686018427387904
def yJ(g:Int)(l:Y15)(i:Int):Bool:=decide (0<=g% ((tU l):Int)) &&decide (g% ((tU l):Int)<i)
def Le(y:Int)(l:Y15)(Q:KT)(h:Heap)(r:Nat)(g:Nat)(j:Y14)(u:Heap):Prop:=aF (Nat.ble (d2N l y) r) (aF (true&&Nat.ble ((0:Nat)+g*3) j.length) (∀(i:Y14)(m:Heap),FrzR u (List.take (g*3) (List.drop 0 j)) i m->aF (aQ [IV.vslice none 0 g 3 i]) (Q (.vslice none 0 g 3 i) h)))
def Lc(g:Int)(l:Y15)(Q:KT)(h:Heap)(m:Int)(r:Int)(i:Y14)(j:Heap):Prop:=Le g l Q h ((Z1 l).length) (tU l) (List.take (d2O l g) (Z1 l)++i++List.drop (d2N l g) (Z1 l)) j
def iA(g:Int)(l:Y15)(Q:KT)(h:Heap)(i:Int)(j:Int)(m:Y14)(r:Heap):Prop:=aF (yJ g l ((tU l):Int)) (Lc g l Q h i j m r)
def Ld(g:Int)(i:Int)(l:Y15)(Q:KT)(h:Heap)(O:Int)(L:Int)(D:Y14)(m:Heap)(G:Y14)(K:Bool)(u:Prop)(y:Prop)(z:Prop)(j:Y14)(r:Y14)(R:IObj)(A:Heap):Prop:=(qN 10)/\aK (g% (10:Int)==0) ((qN 36)/\iA i l Q h (d2L g) O D m) (aK (g% (10:Int)==1) ((qN 300)/\iA i l Q h L (d2K g) G m) (aK (g% (10:Int)==2) ((e5E l)/\aF K u) (aK (g% (10:Int)==3)
 y (aK (g% (10:Int)==4) z (aK (g% (10:Int)==5) (aF (true&& (Nat.ble ((tU l)*3) ((Z1 l).length) &&Nat.ble ((d2P l)*40) 140737488355328)) (aF (yJ i l ((d2P l):Int)) (Le i l Q h ((List.take ((tU l)*3) (Z1 l)++j).length)
 (d2P l) (List.take (d2O l i) (List.take ((tU l)*3) (Z1 l)++j)++r++List.drop (d2N l i) (List.take ((tU l)*3) (Z1 l)++j)) A))) (aK (g% (10:Int)==6) ((qN 40)/\iA i l Q h 3 (wW (Md g)% (40:Int)) [iI 3,iI (wW (Md g)
 % (40:Int)),IV.nilslice] m) (iA i l Q h L O r m)))))))
def oE(g:IObj):Heap:=Heap.mk (PT.node (qM g) (some IObj.dead) PT.nil) ((0:Nat)+1+1)
theorem f2I(l:Y15)(i g:Int)(z:Nat)(h:Heap)(Q:KT):dF (aU b5L) env 10 cC bD bD [.vslice none z (l).length 3 ((l).flatMap cN),.int .i64 i,.int .i64 g] h Q=(
 aF (aQ [IV.vslice none 0 l.length 3 (List.flatMap cN l),iI i,iI g]) (aK (Nat.beq l.length 0) (∀(cs':Y14)(y:Heap),FrzR (Heap.mk PT.nil 0) [] cs' y->aF (aQ [IV.vslice none 0 0 3 cs']) (Q (.vslice none 0 0 3 cs') h)) (aF (Nat.ble ((tU l)*40) 140737488355328) (aK (((tU l):Int)==0) (aF (true&&Nat.ble ((0:Nat)+(tU l)*3) ((Z1 l).length)) (∀(cs':Y14)(y:Heap),FrzR c5B (List.take ((tU l)*3) (List.drop 0 (Z1 l))) cs' y->aF (aQ [IV.vslice none 0 (tU l) 3 cs']) (Q (.vslice none 0 (tU l) 3 cs') h))) ((qN ((tU l):Int))/\aF (yJ g l ((tU l):Int)) (aN .i64 (Z1 l) (d2O l g) λm=>aN .i64 (Z1 l) ((0:Nat)+(yL g l).toNat*3+1) λr=>bM 1 (Z1 l) ((0:Nat)+(yL g l).toNat*3+1+1) λD A j u=>aK (Nat.beq j 0) (Ld i g l Q h r m [iI (d2L i),iI r,IV.vslice none 1 0 1 []] c5B [iI m,iI (d2K i),IV.vslice none 1 0 1 []] (yJ g l ((tU l):Int)) (Lc g l Q h m r [iI m,iI r,IV.hslice a5O 0 1 1] (oE (IObj.cells (e5F l i)))) (iA g l Q h m r (d2M r m) c5B) (iA g l Q h m r (d2M r m) c5B) [iI m,iI r,IV.vslice none 0 0 1 []] (d2M r m) IObj.dead (oE IObj.dead)) (aF (Nat.ble ((vG j)*8) 140737488355328) (Ld i g l Q h r m [iI (d2L i),iI r,IV.hslice a5O 0 (vG j) 1] (oE (IObj.cells u)) [iI m,iI (d2K i),IV.hslice a5O 0 (vG j) 1] (true&& (Nat.ble ((vG j)*1) u.length&&Nat.ble (((0:Nat)+j+1)*8) 140737488355328)) (iA g l Q h m r [iI m,iI r,IV.hslice ((0:Nat)+1+1) 0 ((0:Nat)+j+1) 1] (Heap.mk (PT.node (qM IObj.dead) (some IObj.dead) (qM (IObj.cells (List.take ((vG j)*1) u++(e5F l i))))) e5H)) (aK (decide (((vG j):Int)>0)) ((qN ((vG j):Int))/\(e5E l)/\aF (decide (0<=wW (Md i)% ((vG j):Int)) &&decide (wW (Md i)% ((vG j):Int)< ((vG j):Int))) (aF (Nat.ble (e5G i j) u.length) (iA g l Q h m r (b3L r m j) (oE (IObj.cells (List.take ((0:Nat)+(wW (Md i)% ((vG j):Int)).toNat*1) u++ [iI (wW (wW (Int.tdiv g 3)%wW (yK l)-1))]++List.drop (e5G i j) u)))))) (iA g l Q h m r (b3L r m j) (oE (IObj.cells u)))) (aK (decide (((vG j):Int)>0)) (aF (true&& (decide (1<=((vG j):Int)) &&decide (((vG j):Int)<=((vG j):Int)))) (iA g l Q h m r [iI m,iI r,IV.hslice a5O 1 (((vG j):Int).toNat-1) 1] (oE (IObj.cells u)))) (iA g l Q h m r (b3L r m j) (oE (IObj.cells u)))) (b3L r m j) (b3L r m j) (IObj.cells u) (Heap.mk (PT.node (qM (IObj.cells u)) (some IObj.dead) (qM IObj.dead)) e5H))))))))):=by kernel_rfl
theorem e9S: ∀xs h Q,b8M xs h Q->aM env 10 xs h Q:=by
 intro xs h Q hk;unfold b8M at hk;split at hk
 .rename_i e1 n1 c1 Z z;obtain⟨l,⟨rfl,rfl⟩,hb,hi,hk⟩:=hk;refine aL (c9N) (f2I l Z z e1 h Q) ?_;delta tU Z1 qM a5O c5B qN yJ yL d2O d2N Le Lc iA Md d2L d2K yK e5E d2P Ld oE e5F d2M vG e5H e5G b3L wW iI; (try dsimp -iota -proj only);have tn: ∀x:Nat,(x:Int).toNat=x:=AK
  obtain⟨hn,b1,b2⟩:=hb;obtain⟨hh,ha⟩:=hi;have hL:(0:Int)< (l.length:Int):=JZ;have b5:=CT z (b:=(l.length:Int)) JZ;have b6:=CR z hL;simp only [AY,DG,DB,AM,BD];obtain⟨k,K⟩: ∃k:Nat,z% (l.length:Int)=(k:Int):=⟨(z% (l.length:Int)).toNat,JZ⟩
  simp only [K,tn];have T:k<l.length:=JZ;have fin: ∀(r:Heap)(D:Y14)(len:Nat)(y:Y15)(a b:Int)(v:IV)(ks:Y12),D.map (sP r)=y.flatMap cN->y.length=len->l.length<=len->len<=2001->(∀n∈y,bE n.op/\bE n.im/\n.ks.length<=41)->sP r v= .vslice none 0 ks.length 1 (ks.map (IV.int .i64))->bE a->bE b->ks.length<=41->
   aF (decide ((0:Int)<=(k:Int)) &&decide ((k:Int)< (len:Int))) (aF (Nat.ble (k*3+3) D.length) (aF (Nat.ble (len*3) (D.take (k*3)++ [IV.int .i64 a,IV.int .i64 b,v]++D.drop (k*3+3)).length) (∀(cs':Y14)(R:Heap),FrzR r ((D.take (k*3)++ [IV.int .i64 a,IV.int .i64 b,v]++D.drop (k*3+3)).take (len*3)) cs' R->aF (aQ [.vslice none 0 len 3 cs']) (Q (.vslice none 0 len 3 cs') h)))):=by
   intro r D len y a b v ks hD hy b3 b4 a6 hv ia ib ik;have a8:D.length=len*3:=by
    have:=congrArg List.length hD;rw [AX,E9,hy]at this;exact this
   refine aA (by simp;omega) (aA (by rw [BB];omega) (aA (by rw [BB];simp;omega) ?_));intro cs' R hf;have e:cs'=(y.set k ⟨a,b,ks⟩).flatMap cN:=by
    cases hf
    rw [AJ (by simp;omega),BY,BY,FA,FB,hD,<-c7O JZ]
    congr 2
    show [IV.int .i64 a,IV.int .i64 b,sP r v]=_;rw [hv];rfl
   rw [e];have a4:(y.set k ⟨a,b,ks⟩).length=len:=by rw [CM,hy]
   have:=hk (y.set k ⟨a,b,ks⟩) ⟨λn a3=>by
    rcases List.mem_or_eq_of_mem_set a3 with q|q
    .exact a6 n q
    .rw [q];exact⟨ia,ib,ik⟩,JZ⟩ JZ
   rw [a4]at this;exact aA (by simp only [aQ,aY,bX,AN]) this
  have V: ∀n∈l,bE n.op/\bE n.im/\n.ks.length<=41:=λn hm=>by
   have:=hn n hm;exact⟨this.1,this.2.1,JZ⟩
  have g:=λ(r:Heap)(a b:Int)(v:IV)(ks:Y12)=>fin r (l.flatMap cN) l.length l a b v ks (Tc r l) rfl (AF _) JZ V
  obtain⟨ho,i,b0⟩:=hn _ (AG T);have a9:cN l[k]=[IV.int .i64 l[k].op,IV.int .i64 l[k].im,.vslice none 0 l[k].ks.length 1 (l[k].ks.map (IV.int .i64))]:=rfl;have A:=λ(r:Heap)(v u:IV)(hv:sP r v= .vslice none 0 l[k].ks.length 1 (l[k].ks.map (IV.int .i64)))(hu:sP r u= .vslice none 0 l[k].ks.length 1 (l[k].ks.map (IV.int .i64)))=>fin r ((l.flatMap cN).take (l.length*3)++ [IV.int .i64 l[k].op,IV.int .i64 l[k].im,v]) (l.length+1) (l++ [l[k]]) l[k].op l[k].im u l[k].ks (by
   rw [AJ (by rw [E9];omega),BY,Tc,CI]
   congr 1
   show [IV.int .i64 _,IV.int .i64 _,sP r v]=cN l[k]++ [];rw [hv,CZ];rfl) KB JZ JZ (λn hm=>by
   rcases BZ.1 hm with q|q
   .exact V n q
   .rw [BU.1 q];exact⟨ho,i,JZ⟩) hu ho i JZ
  have L: ∀(x m:Int),0<m->0<=x%m/\x%m<m:=λx m hm=>⟨CT x JZ,CR x hm⟩
  generalize hX:IntKind.i64.wrap (Int.tdiv Z 10)=X;generalize hY:IntKind.i64.wrap (Int.tdiv z 3)=Y;have b7:=L X 36 KA;have a7:=L X 300 KA;have b8:=L X 40 KA;have a5:IntKind.i64.wrap ((l.length:Int)+2)=((l.length+2:Nat):Int):=by rw [AA _ JZ];rfl
  simp only [a5];have xl:=L X ((l.length+2:Nat):Int) JZ;have yl:=L Y ((l.length+2:Nat):Int) JZ;have a0:bE (IntKind.i64.wrap (X%36-1)):=by rw [AA _ JZ];unfold bE;omega
  have G:bE (IntKind.i64.wrap (X%300-3)):=by rw [AA _ JZ];unfold bE;omega
  have a1:bE (X%40):=by unfold bE;omega
  have qx:bE 3:=by unfold bE;decide
  refine aA (by simp only [aQ,aY,bX,AN]) (aB (λc=>absurd (bT.1 c) JZ) (λ_=>aA (by rw [BB];omega) (aB (λc=>absurd (beq_iff_eq.1 c) JZ) (λ_=>⟨⟨hL,JZ⟩,aA (by simp;omega) (uM T rfl (aB (λc0=>?_) (λc0=>?_)))⟩))))
  .have K:l[k].ks=[]:=CU (bT.1 c0);have v1: ∀r:Heap,sP r (.vslice none 1 0 1 [])= .vslice none 0 ([]:Y12).length 1 (([]:Y12).map (IV.int .i64)):=λr=>rfl
   refine⟨KA,aB (λ_=>⟨KA,g _ _ _ _ [] (v1 _) a0 i KA⟩) (λ_=>aB (λ_=>⟨KA,g _ _ _ _ [] (v1 _) ho G KA⟩) (λ_=>aB (λ_=>⟨⟨JZ,JZ⟩,g _ _ _ _ [IntKind.i64.wrap (X% ((l.length+2:Nat):Int)-1)] rfl ho i (by show 1<=41;omega)⟩) (λ_=>aB (λ_=>g _ _ _ _ [] (v1 _) ho i KA) (λ_=>aB (λ_=>g _ _ _ _ [] (v1 _) ho i KA) (λ_=>aB (λ_=>aA (by simp only [AE,BB,E9];omega) ?_) (λ_=>aB (λ_=>⟨KA,g _ _ _ _ [] rfl qx a1 KA⟩) (λ_=>g _ _ _ _ [] (v1 _) ho i KA)))))))⟩;have v2: ∀(r:Heap)(e:Nat),sP r (.vslice none e 0 1 [])= .vslice none 0 l[k].ks.length 1 (l[k].ks.map (IV.int .i64)):=λr e=>by rw [K];rfl
   exact A _ _ _ (v2 _ 0) (v2 _ 1)
  .have h0:l[k].ks.length≠0:=λq=>by rw [q]at c0;cases c0
   have O: ∀r:Heap,r.get 1= .cells (l[k].ks.map (IV.int .i64))->sP r (.hslice 1 0 l[k].ks.length 1)= .vslice none 0 l[k].ks.length 1 (l[k].ks.map (IV.int .i64)):=λr hg=>Td hg (by rw [DB,AJ KB]) rfl KB
   have kl:l[k].ks.length<=41:=JZ;obtain⟨j,hj⟩: ∃j:Nat,X% (l[k].ks.length:Int)=(j:Int):=⟨(X% (l[k].ks.length:Int)).toNat,by have:=L X (l[k].ks.length:Int) JZ;omega⟩
   have a2:j<l[k].ks.length:=by have:=L X (l[k].ks.length:Int) JZ;omega
   simp only [hj,tn];refine aA (by rw [BB];omega) ⟨KA,aB (λ_=>⟨KA,g _ _ _ _ l[k].ks (O _ rfl) a0 i kl⟩) (λ_=>aB (λ_=>⟨KA,g _ _ _ _ l[k].ks (O _ rfl) ho G kl⟩) (λ_=>aB (λ_=>⟨⟨JZ,JZ⟩,aA (by simp;omega) (g _ _ _ _ (l[k].ks++ [IntKind.i64.wrap (X% ((l.length+2:Nat):Int)-1)]) (Td rfl ?_ KB KB) ho i (by simp;omega))⟩) (λ_=>aB (λ_=>aB (λ_=>⟨⟨JZ,JZ⟩,⟨JZ,JZ⟩,aA (by simp;omega) (aA (by rw [BB];simp;omega) (g _ _ _ _ (l[k].ks.set j (IntKind.i64.wrap (Y% ((l.length+2:Nat):Int)-1))) (Td rfl ?_ KB (by simp;omega)) ho i (by simp;omega)))⟩) (λ_=>g _ _ _ _ l[k].ks (O _ rfl) ho i kl)) (λ_=>aB (λ_=>aB (λ_=>aA (by simp;omega) (g _ _ _ _ (l[k].ks.drop 1) (Td rfl ?_ KB (by simp;omega)) ho i (by simp;omega))) (λ_=>g _ _ _ _ l[k].ks (O _ rfl) ho i kl)) (λ_=>aB (λ_=>aA (by simp only [AE,BB,E9];omega) (A _ _ _ (O _ rfl) (O _ rfl))) (λ_=>aB (λ_=>⟨KA,g _ _ _ _ [] rfl qx a1 KA⟩) (λ_=>g _ _ _ _ l[k].ks (O _ rfl) ho i kl)))))))⟩
   .rw [DB,AJ KB,AJ KB,BY];rfl
   .rw [DB,AJ (by simp;omega),f1G a2]
   .rw [AJ KB,FB]
 .exact hk.elim
end Go.Proofs.YtkonebkblgemkaaGreat
end
section
namespace Go.Proofs.YtkonebkblgemkaaGreat
open Go.Pv Go.M13
def a2Q(xs:Y14)(h:Heap)(K:KT):Prop:=match xs with
 | [x,y,z]=>Rm [x,y,z] h K
 |_=>False
theorem e2Z: ∀xs h Q,a2Q xs h Q->aM env 131 xs h Q:=by
 intro xs h Q hk;unfold a2Q at hk;split at hk
 .exact c3P _ _ _ hk
 .exact hk.elim
def b5S:=aV 131 a2Q noC
theorem c9P:aS env b5S:=aE e2Z (jW env)
def b9K(xs:Y14)(h:Heap)(K:KT):Prop:=match xs with
 | [x,y]=>a7C [x,y] h K
 |_=>False
theorem f0O: ∀xs h Q,b9K xs h Q->aM env 130 xs h Q:=by
 intro xs h Q hk;unfold b9K at hk;split at hk
 .exact d6R _ _ _ hk
 .exact hk.elim
def b6K:=aV 130 b9K b5S
theorem c2E:aS env b6K:=aE f0O (c9P)
def Ej(xs:Y14)(h:Heap)(K:KT):Prop:=match xs with
 | [.agg [.int .i64 a,.int .i64 b]]=>K (.bool (a==b)) h
 |_=>False
theorem c4V(a b:Int)(h:Heap)(Q:KT):dF (aU b6K) env 129 cC bD bD [.agg [.int .i64 a,.int .i64 b]] h Q=(
 Q (.bool (a==b)) h):=by kernel_rfl
theorem c3T: ∀xs h Q,Ej xs h Q->aM env 129 xs h Q:=by
 intro xs h Q hk;unfold Ej at hk;split at hk
 .rename_i a b;refine aL (c2E) (c4V a b h Q) ?_;exact hk
 .exact hk.elim
def Dd:=aV 129 Ej b6K
theorem Oj:aS env Dd:=aE c3T (c2E)
def W0(xs:Y14)(h:Heap)(K:KT):Prop:=match xs with
 | [.int .i64 a]=>K (.agg [.int .i64 a,.int .i64 a]) h
 |_=>False
theorem b3H(a:Int)(h:Heap)(Q:KT):dF (aU Dd) env 71 cC bD bD [.int .i64 a] h Q=(
 Q (.agg [.int .i64 a,iI a]) h):=by kernel_rfl
theorem b2S: ∀xs h Q,W0 xs h Q->aM env 71 xs h Q:=by
 intro xs h Q hk;unfold W0 at hk;split at hk
 .rename_i a;refine aL (Oj) (b3H a h Q) ?_;delta iI;exact hk
 .exact hk.elim
def U7:=aV 71 W0 Dd
theorem Fg:aS env U7:=aE b2S (Oj)
def b8R(xs:Y14)(h:Heap)(K:KT):Prop:=match xs with
 | [.int .i64 a,.int .i64 b]=>(aZ a/\aZ b)/\K (.tuple [.int .i64 (IntKind.i64.wrap (a+b)),.bool (dM (a+b))]) h
 |_=>False
theorem f2M(a b:Int)(h:Heap)(Q:KT):dF (aU U7) env 132 cC bD bD [.int .i64 a,.int .i64 b] h Q=(
 aK (!decide (a<0)==decide (b<0)) (Q (.tuple [.int .i64 (wW (a+b)),IV.bool true]) h) (Q (.tuple [.int .i64 (wW (a+b)),IV.bool (decide (wW (a+b)<0)==decide (a<0))]) h)):=by kernel_rfl
theorem e9Y: ∀xs h Q,b8R xs h Q->aM env 132 xs h Q:=by
 intro xs h Q hk;unfold b8R at hk;split at hk
 .rename_i a b;refine aL (Fg) (f2M a b h Q) ?_;delta wW;obtain⟨⟨g,i⟩,hk⟩:=hk;rw [<-d0B g i]at hk;refine aB (λh1=>bN hk ?_) (λh1=>bN hk ?_)<;>simp [h1]
 .exact hk.elim
def b5O:=aV 132 b8R U7
theorem c1M:aS env b5O:=aE e9Y (Fg)
def b9I(xs:Y14)(h:Heap)(K:KT):Prop:=match xs with
 | [.int .i64 a,.int .i64 b]=>(aZ a/\aZ b)/\K (.tuple [.int .i64 (IntKind.i64.wrap (a-b)),.bool (dM (a-b))]) h
 |_=>False
theorem f3G(a b:Int)(h:Heap)(Q:KT):dF (aU b5O) env 134 cC bD bD [.int .i64 a,.int .i64 b] h Q=(
 aK (decide (a<0)==decide (b<0)) (Q (.tuple [.int .i64 (wW (a-b)),IV.bool true]) h) (Q (.tuple [.int .i64 (wW (a-b)),IV.bool (decide (wW (a-b)<0)==decide (a<0))]) h)):=by kernel_rfl
theorem f0N: ∀xs h Q,b9I xs h Q->aM env 134 xs h Q:=by
 intro xs h Q hk;unfold b9I at hk;split at hk
 .rename_i a b;refine aL (c1M) (f3G a b h Q) ?_;delta wW;obtain⟨⟨g,i⟩,hk⟩:=hk;rw [<-d0D g i]at hk;refine aB (λh1=>bN hk ?_) (λh1=>bN hk ?_)<;>simp [h1]
 .exact hk.elim
def b6J:=aV 134 b9I b5O
theorem c2D:aS env b6J:=aE f0N (c1M)
def a2S(xs:Y14)(h:Heap)(K:KT):Prop:=match xs with
 | []=>K (.agg [.int .i64 (-9223372036854775808),.int .i64 9223372036854775807]) h
 |_=>False
theorem e4S(h:Heap)(Q:KT):dF (aU b6J) env 70 cC bD bD [] h Q=(
 Q (.agg [.int .i64 (-9223372036854775808),iI 9223372036854775807]) h):=by kernel_rfl
theorem e3B: ∀xs h Q,a2S xs h Q->aM env 70 xs h Q:=by
 intro xs h Q hk;unfold a2S at hk;split at hk
 .skip
  refine aL (c2D) (e4S h Q) ?_;delta iI;exact hk
 .exact hk.elim
def a0Y:=aV 70 a2S b6J
theorem a8F:aS env a0Y:=aE e3B (c2D)
def Eh(xs:Y14)(h:Heap)(K:KT):Prop:=match xs with
 | [.int .i64 a,.bool b,.int .i64 c,.bool d]=>K (.agg [.int .i64 (if b&&d then(a,c)else(dH,dN)).1,.int .i64 (if b&&d then(a,c)else(dH,dN)).2]) h
 |_=>False
theorem c4T(a:Int)(b:Bool)(c:Int)(d:Bool)(h:Heap)(Q:KT):dF (aU a0Y) env 133 cC bD bD [.int .i64 a,.bool b,.int .i64 c,.bool d] h Q=(
 aK (!b) (Q (.agg [.int .i64 (-9223372036854775808),iI 9223372036854775807]) h) (aK (!d) (Q (.agg [.int .i64 (-9223372036854775808),iI 9223372036854775807]) h) (Q (.agg [.int .i64 a,iI c]) h))):=by kernel_rfl
theorem c3Q: ∀xs h Q,Eh xs h Q->aM env 133 xs h Q:=by
 intro xs h Q hk;unfold Eh at hk;split at hk
 .rename_i a b c d;refine aL (a8F) (c4T a b c d h Q) ?_;delta iI
  repeat' (first|refine aA ?_ ?_|refine aB (λ_=>?_) (λ_=>?_)|refine And.intro ?_ ?_)
  all_goals (refine bN hk ?_;simp_all)
 .exact hk.elim
def Db:=aV 133 Eh a0Y
theorem Oh:aS env Db:=aE c3Q (a8F)
def Rr(xs:Y14)(h:Heap)(K:KT):Prop:=match xs with
 | [.agg [.int .i64 a,.int .i64 b]]=>K (.bool (decide (a<=b))) h
 |_=>False
theorem d1V(a b:Int)(h:Heap)(Q:KT):dF (aU Db) env 67 cC bD bD [.agg [.int .i64 a,.int .i64 b]] h Q=(
 Q (.bool (decide (a<=b))) h):=by kernel_rfl
theorem d0Q: ∀xs h Q,Rr xs h Q->aM env 67 xs h Q:=by
 intro xs h Q hk;unfold Rr at hk;split at hk
 .rename_i a b;refine aL (Oh) (d1V a b h Q) ?_;exact hk
 .exact hk.elim
def Pz:=aV 67 Rr Db
theorem Xi:aS env Pz:=aE d0Q (Oh)
def C6(xs:Y14)(h:Heap)(K:KT):Prop:=match xs with
 | [.agg [.int .i64 a,.int .i64 b],.int .i64 n]=>K (.bool (contains a b n)) h
 |_=>False
theorem a4S(a b n:Int)(h:Heap)(Q:KT):dF (aU Pz) env 141 cC bD bD [.agg [.int .i64 a,.int .i64 b],.int .i64 n] h Q=(
 aK (decide (a<=n)) (Q (.bool (decide (n<=b))) h) (Q (.bool false) h)):=by kernel_rfl
theorem a4K: ∀xs h Q,C6 xs h Q->aM env 141 xs h Q:=by
 intro xs h Q hk;unfold C6 at hk;split at hk
 .rename_i a b n;refine aL (Xi) (a4S a b n h Q) ?_
  repeat' (first|refine aA ?_ ?_|refine aB (λ_=>?_) (λ_=>?_)|refine And.intro ?_ ?_)
  all_goals first|exact hk| (refine bN hk ?_;simp only [IV.agg.injEq,IV.tuple.injEq,IV.int.injEq,IV.bool.injEq,BE,true_and,and_true];grind [contains])
 .exact hk.elim
def C3:=aV 141 C6 Pz
theorem Ae:aS env C3:=aE a4K (Xi)
def a2W(xs:Y14)(h:Heap)(K:KT):Prop:=match xs with
 | [.agg [.int .i64 a,.int .i64 b],.agg [.int .i64 c,.int .i64 d]]=>K (.agg [.int .i64 (min a c),.int .i64 (max b d)]) h
 |_=>False
theorem e4U(a b c d:Int)(h:Heap)(Q:KT):dF (aU C3) env 72 cC bD bD [.agg [.int .i64 a,.int .i64 b],.agg [.int .i64 c,.int .i64 d]] h Q=(
 Q (.agg [.int .i64 (if c<a then c else a),iI (if d>b then d else b)]) h):=by kernel_rfl
theorem e3F: ∀xs h Q,a2W xs h Q->aM env 72 xs h Q:=by
 intro xs h Q hk;unfold a2W at hk;split at hk
 .rename_i a b c d;refine aL (Ae) (e4U a b c d h Q) ?_;delta iI
  repeat' (first|refine aA ?_ ?_|refine aB (λ_=>?_) (λ_=>?_)|refine And.intro ?_ ?_)
  all_goals first|exact hk| (refine bN hk ?_;simp only [IV.agg.injEq,IV.tuple.injEq,IV.int.injEq,IV.bool.injEq,BE,true_and,and_true];grind [])
 .exact hk.elim
def a1A:=aV 72 a2W C3
theorem a8H:aS env a1A:=aE e3F (Ae)
def Rs(xs:Y14)(h:Heap)(K:KT):Prop:=match xs with
 | [.agg [.int .i64 a,.int .i64 b],.agg [.int .i64 c,.int .i64 d]]=>K (.agg [.int .i64 (wlo a c),.int .i64 (whi b d)]) h
 |_=>False
theorem d1W(a b c d:Int)(h:Heap)(Q:KT):dF (aU a1A) env 124 cC bD bD [.agg [.int .i64 a,.int .i64 b],.agg [.int .i64 c,.int .i64 d]] h Q=(
 aK (decide (c<a)) (aK (decide (d>b)) (Q (.agg [.int .i64 (-9223372036854775808),iI 9223372036854775807]) h) (Q (.agg [.int .i64 (-9223372036854775808),iI b]) h)) (aK (decide (d>b)) (Q (.agg [.int .i64 a,iI 9223372036854775807]) h) (Q (.agg [.int .i64 a,iI b]) h))):=by kernel_rfl
theorem d0R: ∀xs h Q,Rs xs h Q->aM env 124 xs h Q:=by
 intro xs h Q hk;unfold Rs at hk;split at hk
 .rename_i a b c d;refine aL (a8H) (d1W a b c d h Q) ?_;delta iI
  repeat' (first|refine aA ?_ ?_|refine aB (λ_=>?_) (λ_=>?_)|refine And.intro ?_ ?_)
  all_goals first|exact hk| (refine bN hk ?_;simp only [IV.agg.injEq,IV.tuple.injEq,IV.int.injEq,IV.bool.injEq,BE,true_and,and_true];grind [wlo,whi])
 .exact hk.elim
def Qa:=aV 124 Rs a1A
theorem Xj:aS env Qa:=aE d0R (a8H)
def V8(xs:Y14)(h:Heap)(K:KT):Prop:=match xs with
 | [.bool b,.bool c]=>K (.agg [.int .i64 (Y1 b c).1,.int .i64 (Y1 b c).2]) h
 |_=>False
theorem b3F(b c:Bool)(h:Heap)(Q:KT):dF (aU Qa) env 194 cC bD bD [.bool b,.bool c] h Q=(
 aK b (Q (.agg [.int .i64 1,iI 1]) h) (aK c (Q (.agg [.int .i64 0,iI 0]) h) (Q (.agg [.int .i64 0,iI 1]) h))):=by kernel_rfl
theorem b2Q: ∀xs h Q,V8 xs h Q->aM env 194 xs h Q:=by
 intro xs h Q hk;unfold V8 at hk;split at hk
 .rename_i b c;refine aL (Xj) (b3F b c h Q) ?_;delta iI
  repeat' (first|refine aA ?_ ?_|refine aB (λ_=>?_) (λ_=>?_)|refine And.intro ?_ ?_)
  all_goals first|exact hk| (refine bN hk ?_;simp only [IV.agg.injEq,IV.tuple.injEq,IV.int.injEq,IV.bool.injEq,BE,true_and,and_true];grind [Y1])
 .exact hk.elim
def U5:=aV 194 V8 Qa
theorem Fe:aS env U5:=aE b2Q (Xj)
def b9F(xs:Y14)(h:Heap)(K:KT):Prop:=match xs with
 | [.agg [.int .i64 a,.int .i64 b],.agg [.int .i64 c,.int .i64 d]]=>(((aZ a/\aZ b)/\(aZ c/\aZ d))/\(1<=c/\c<=d/\a<=b))/\K (.agg [.int .i64 (zZ a b c d).1,.int .i64 (zZ a b c d).2]) h
 |_=>False
def c5H(b d:Int):=if wW (d-1)<b then wW (d-1)else b
def c5I(a d:Int):=if wW ((1:Int)-d)>a then wW ((1:Int)-d)else a
def mC(Q:KT)(h:Heap)(r:Int)(g:Bool)(i:Int)(j:Int)(l:Int)(m:Int):Prop:=aK g (Q (.agg [.int .i64 i,iI j]) h) (Q (.agg [.int .i64 l,iI m]) h)
theorem f3C(a b c d:Int)(h:Heap)(Q:KT):dF (aU U5) env 137 cC bD bD [.agg [.int .i64 a,.int .i64 b],.agg [.int .i64 c,.int .i64 d]] h Q=(
 aK (decide (a>=0)) (mC Q h b (decide (b<=0)) 0 0 0 (c5H b d)) (mC Q h b (decide (b<=0)) (c5I a d) 0 (c5I a d) (c5H b d))):=by kernel_rfl
theorem f0K: ∀xs h Q,b9F xs h Q->aM env 137 xs h Q:=by
 intro xs h Q hk;unfold b9F at hk;split at hk
 .rename_i a b c d;refine aL (Fe) (f3C a b c d h Q) ?_;delta mC c5H c5I wW iI; (try dsimp -iota -proj only);obtain⟨⟨⟨⟨g,i⟩,j,hd⟩,l⟩,hk⟩:=hk;unfold aZ at g i j hd;rw [AA (1-d) JZ,AA (d-1) JZ]
  repeat' (first|refine aA ?_ ?_|refine aB (λ_=>?_) (λ_=>?_)|refine And.intro ?_ ?_)
  all_goals first|exact hk| (refine bN hk ?_;simp only [IV.agg.injEq,IV.tuple.injEq,IV.int.injEq,IV.bool.injEq,BE,true_and,and_true];grind [zZ])
 .exact hk.elim
def b6G:=aV 137 b9F U5
theorem c2A:aS env b6G:=aE f0K (Fe)
def Ro(xs:Y14)(h:Heap)(K:KT):Prop:=match xs with
 | [.agg [.int .i64 a,.int .i64 b],.agg [.int .i64 c,.int .i64 d]]=>K (.tuple [.agg [.int .i64 (mM a b c d).1,.int .i64 (mM a b c d).2],.bool (iS a b c d)]) h
 |_=>False
theorem d1S(a b c d:Int)(h:Heap)(Q:KT):dF (aU b6G) env 126 cC bD bD [.agg [.int .i64 a,.int .i64 b],.agg [.int .i64 c,.int .i64 d]] h Q=(
 aK (!decide ((if c>a then c else a)<=if d<b then d else b)) (Q (.tuple [.agg [.int .i64 0,iI 0],IV.bool false]) h) (Q (.tuple [.agg [.int .i64 (if c>a then c else a),iI (if d<b then d else b)],IV.bool true]) h)):=by kernel_rfl
theorem d0N: ∀xs h Q,Ro xs h Q->aM env 126 xs h Q:=by
 intro xs h Q hk;unfold Ro at hk;split at hk
 .rename_i a b c d;refine aL (c2A) (d1S a b c d h Q) ?_;delta iI
  repeat' (first|refine aA ?_ ?_|refine aB (λ_=>?_) (λ_=>?_)|refine And.intro ?_ ?_)
  all_goals first|exact hk| (refine bN hk ?_;simp only [IV.agg.injEq,IV.tuple.injEq,IV.int.injEq,IV.bool.injEq,BE,true_and,and_true];grind [mM,iS])
 .exact hk.elim
def Pw:=aV 126 Ro b6G
theorem Xf:aS env Pw:=aE d0N (c2A)
def b8X(xs:Y14)(h:Heap)(K:KT):Prop:=match xs with
 | [.int .i64 o,.agg [.int .i64 a,.int .i64 b],.agg [.int .i64 c,.int .i64 d]]=>(a<=b/\c<=d)/\K (.agg [.int .i64 (G3 o a b c d).1,.int .i64 (G3 o a b c d).2]) h
 |_=>False
def xW(b:Int)(c:Int)(a:Int)(d:Int):Int×Int:=Y1 (decide (b<c)) (decide (a>=d))
def c5P(a b c d:Int)(h:Heap)(Q:KT):=aK (decide (b>=0)) (Q (.agg [.int .i64 0,iI 1]) h) (mC Q h d (decide (d>=0)) 0 1 ((xW b c a d).1) ((xW b c a d).2))
def c5Q(a b c d:Int):=IV.agg [.int .i64 ((xW b c a d).1),iI ((xW b c a d).2)]
theorem f2R(o a b c d:Int)(h:Heap)(Q:KT):dF (aU Pw) env 140 cC bD bD [.int .i64 o,.agg [.int .i64 a,.int .i64 b],.agg [.int .i64 c,.int .i64 d]] h Q=(
 aK (o==15) (Q (.agg [.int .i64 ((Y1 false !iS a b c d).1),iI ((Y1 false !iS a b c d).2)]) h) (aK (o==16) (Q (.agg [.int .i64 ((Y1 (!iS a b c d) false).1),iI ((Y1 (!iS a b c d) false).2)]) h) (aK (o==18) (Q (.agg [.int .i64 ((Y1 (decide (b<=c)) (decide (a>d))).1),iI ((Y1 (decide (b<=c)) (decide (a>d))).2)]) h) (aK (o==19) (aK (decide (a<0)) (c5P a b c d h Q) (aK (decide (c<0)) (c5P a b c d h Q) (Q (c5Q a b c d) h))) (Q (c5Q a b c d) h))))):=by kernel_rfl
theorem f0D: ∀xs h Q,b8X xs h Q->aM env 140 xs h Q:=by
 intro xs h Q hk;unfold b8X at hk;split at hk
 .rename_i o a b c d;refine aL (Xf) (f2R o a b c d h Q) ?_;delta mC xW c5P c5Q iI; (try dsimp -iota -proj only);obtain⟨⟨h1,h2⟩,hk⟩:=hk
  repeat' (first|refine aA ?_ ?_|refine aB (λ_=>?_) (λ_=>?_)|refine And.intro ?_ ?_)
  all_goals first|exact hk| (refine bN hk ?_;simp only [IV.agg.injEq,IV.tuple.injEq,IV.int.injEq,IV.bool.injEq,BE,true_and,and_true];grind [G3])
 .exact hk.elim
def b5V:=aV 140 b8X Pw
theorem c1R:aS env b5V:=aE f0D (Xf)
def Ei(xs:Y14)(h:Heap)(K:KT):Prop:=match xs with
 | [.agg [.int .i64 a,.int .i64 b],.agg [.int .i64 c,.int .i64 d],.agg [.int .i64 e,.int .i64 f]]=>K (.agg [.int .i64 (jO a b c d e f).1,.int .i64 (jO a b c d e f).2]) h
 |_=>False
def jE:Int:=9223372036854775807
def b3Z:=IV.agg [.int .i64 (-9223372036854775808:Int),iI (jE)]
def tG(Q:KT)(h:Heap)(g:Int)(i:Int)(j:Bool)(l:Prop)(m:Bool)(r:Prop)(u:Prop):Prop:=aK (!decide (g<=i)) (Q b3Z h) (aK j l (aK m r u))
theorem c4U(a b c d e f:Int)(h:Heap)(Q:KT):dF (aU b5V) env 75 cC bD bD [.agg [.int .i64 a,.int .i64 b],.agg [.int .i64 c,.int .i64 d],.agg [.int .i64 e,.int .i64 f]] h Q=(
 tG Q h a b (!decide (c<=d)) (Q b3Z h) (!decide (e<=f)) (Q b3Z h) (aK (a==0) (aK (b==0) (Q (.agg [.int .i64 e,iI f]) h) (aK (!contains a b 0) (Q (.agg [.int .i64 c,iI d]) h) (Q (.agg [.int .i64 (min c e),iI (max d f)]) h))) (aK (!contains a b 0) (Q (.agg [.int .i64 c,iI d]) h) (Q (.agg [.int .i64 (min c e),iI (max d f)]) h)))):=by kernel_rfl
theorem c3S: ∀xs h Q,Ei xs h Q->aM env 75 xs h Q:=by
 intro xs h Q hk;unfold Ei at hk;split at hk
 .rename_i a b c d e f;refine aL (c1R) (c4U a b c d e f h Q) ?_;delta jE b3Z tG iI; (try dsimp -iota -proj only)
  repeat' (first|refine aA ?_ ?_|refine aB (λ_=>?_) (λ_=>?_)|refine And.intro ?_ ?_)
  all_goals first|exact hk| (refine bN hk ?_;simp only [IV.agg.injEq,IV.tuple.injEq,IV.int.injEq,IV.bool.injEq,BE,true_and,and_true];grind [jO])
 .exact hk.elim
def Dc:=aV 75 Ei b5V
theorem Oi:aS env Dc:=aE c3S (c1R)
def b9G(xs:Y14)(h:Heap)(K:KT):Prop:=match xs with
 | [.int .i64 a,.int .i64 k]=>(0<=k/\k<64)/\K (.tuple [.int .i64 (D8 a (2^k.toNat)),.bool (Fo a (2^k.toNat))]) h
 |_=>False
theorem f3D(a k:Int)(h:Heap)(Q:KT):dF (aU Dc) env 193 cC bD bD [.int .i64 a,.int .i64 k] h Q=(
 aF (decide (0<=IntKind.wrap .u64 k)) (aF (decide (0<=IntKind.wrap .u64 k)) (Q (IV.tuple [iI (wW (a*(2:Int) ^min ((IntKind.wrap .u64 k).toNat) 64)),IV.bool (Int.fdiv (wW (a*(2:Int) ^min ((IntKind.wrap .u64 k).toNat) 64)) ((2:Int) ^min ((IntKind.wrap .u64 k).toNat) 64)==a)]) h))):=by kernel_rfl
theorem f0L: ∀xs h Q,b9G xs h Q->aM env 193 xs h Q:=by
 intro xs h Q hk;unfold b9G at hk;split at hk
 .rename_i a k;refine aL (Oi) (f3D a k h Q) ?_;delta wW iI;obtain⟨i,hk⟩:=hk;have g:IntKind.u64.wrap k=k:=EP _ JZ;have hm:min k.toNat 64=k.toNat:=JZ;simp only [g,hm]
  repeat' (first|refine aA ?_ ?_|refine aB (λ_=>?_) (λ_=>?_)|refine And.intro ?_ ?_)
  all_goals first|exact hk| (simp only [decide_eq_true_eq];omega)
 .exact hk.elim
def b6H:=aV 193 b9G Dc
theorem c2B:aS env b6H:=aE f0L (Oi)
def Rp(xs:Y14)(h:Heap)(K:KT):Prop:=match xs with
 | [.int .i64 o,.agg [.int .i64 a,.int .i64 b],.agg [.int .i64 c,.int .i64 d]]=>K (.agg [.int .i64 (uK o a b c d).1,.int .i64 (uK o a b c d).2]) h
 |_=>False
def c5N(c:Int):=decide (0<=IntKind.wrap .u64 (fM .i64 c 63))
def c5K(c:Int):=(2:Int) ^min ((IntKind.wrap .u64 (fM .i64 c 63)).toNat) 64
def Ju(c:Int)(Q:KT)(a:Int)(b:Int)(h:Heap):Prop:=aF (c5N c) (aF (c5N c) (Q (.agg [.int .i64 (Int.fdiv a (c5K c)),iI (Int.fdiv b (c5K c))]) h))
def c5O(c:Int):=wW ((64:Int)-fM .i64 c 63)
def Jw(c:Int)(d:Int)(Q:KT)(h:Heap)(a:Int)(b:Int):Prop:=aK (c==d) (aF (decide (0<=IntKind.wrap .u64 (c5O c))) (Q (.agg [.int .i64 0,iI (wW (wW ((1:Int)*(2:Int) ^min ((IntKind.wrap .u64 (c5O c)).toNat) 64)-1))]) h)) (mC Q h a (decide (a>=0)) 0 b (-9223372036854775808:Int) (jE))
def Jt(c:Int)(d:Int)(a:Int)(Q:KT)(b:Int)(h:Heap):Prop:=aK (c==d) (aK (decide (a>=0)) (Ju c Q a b h) (Jw c d Q h a b)) (Jw c d Q h a b)
def Jr(o:Int)(a:Int)(b:Int)(Q:KT)(h:Heap)(c:Int)(d:Int):Prop:=aK (o==14) (aK (decide (a>=0)) (mC Q h b (decide (b<0)) 0 (-1:Int) 0 b) (mC Q h b (decide (b<0)) a (-1:Int) a b)) (aK (c==d) (aK (fM .i64 c 63==0) (Q (.agg [.int .i64 a,iI b]) h) (Jt c d a Q b h)) (Jt c d a Q b h))
def c5J(o a b c d:Int)(Q:KT)(h:Heap):=aK (o==12) (Q (.agg [.int .i64 (-9223372036854775808:Int),iI (jE)]) h) (aK (o==14) (aK (c==d) (Ju c Q a b h) (Jr o a b Q h c d)) (Jr o a b Q h c d))
abbrev c5L(c:Int):=0<=fM .i64 c 63/\fM .i64 c 63<64
def xX(c:Int):Int:=(2:Int) ^Int.toNat (fM .i64 c 63)
def c5M(a b c:Int):=if(Fo a (xX c) &&Fo b (xX c))=true then(D8 a (xX c),D8 b (xX c))else(dH,dN)
theorem d1T(o a b c d:Int)(h:Heap)(Q:KT):dF (aU b6H) env 139 cC bD bD [.int .i64 o,.agg [.int .i64 a,.int .i64 b],.agg [.int .i64 c,.int .i64 d]] h Q=(
 aK (o==12) (aK (c==d) ((c5L c)/\(c5L c)/\Q (.agg [.int .i64 ((c5M a b c).1),iI ((c5M a b c).2)]) h) (c5J o a b c d Q h)) (c5J o a b c d Q h)):=by kernel_rfl
theorem d0O: ∀xs h Q,Rp xs h Q->aM env 139 xs h Q:=by
 intro xs h Q hk;unfold Rp at hk;split at hk
 .rename_i o a b c d;refine aL (c2B) (d1T o a b c d h Q) ?_;delta c5L xX c5M jE c5N c5K Ju mC c5O Jw Jt Jr c5J wW iI; (try dsimp -iota -proj only);have g:(0:Int)<=c%64/\c%64<64:=JZ;have i:IntKind.u64.wrap (64-c%64)=64-c%64:=EP _ JZ;have hm:min (64-c%64).toNat 64=(64-c%64).toNat:=JZ;have l:IntKind.u64.wrap (c%64)=c%64:=EP _ JZ;have j:IntKind.i64.wrap (64-c%64)=64-c%64:=AA _ JZ;simp only [a6E,l,j,i,e8L,hm]
  repeat' (first|refine aA ?_ ?_|refine aB (λ_=>?_) (λ_=>?_)|refine And.intro ?_ ?_)
  all_goals first|exact hk|omega| (simp only [decide_eq_true_eq];omega)| (refine bN hk ?_;simp only [IV.agg.injEq,IV.tuple.injEq,IV.int.injEq,IV.bool.injEq,BE,true_and,and_true];simp only [beq_iff_eq,beq_eq_false_iff_ne,bne_iff_ne,ne_eq,decide_eq_true_eq,decide_eq_false_iff_not,bne_eq_false_iff_eq]at*;grind [uK,Fo,D8])
 .exact hk.elim
def Px:=aV 139 Rp b6H
theorem Xg:aS env Px:=aE d0O (c2B)
def Rq(xs:Y14)(h:Heap)(K:KT):Prop:=match xs with
 | [.int .i64 o,.agg [.int .i64 a,.int .i64 b]]=>K (.agg [.int .i64 (Bc o a b).1,.int .i64 (Bc o a b).2]) h
 |_=>False
def e6P:=IV.agg [.int .i64 (-9223372036854775808:Int),iI (jE)]
def Jv(o:Int)(Q:KT)(b:Int)(a:Int)(h:Heap):Prop:=aK (o==21) (Q (.agg [.int .i64 (A4 .i64 (-1:Int) b),iI (A4 .i64 (-1:Int) a)]) h) (aK (a==(-9223372036854775808:Int)) (Q e6P h) (Q (.agg [.int .i64 (wW ((0:Int)-b)),iI (wW ((0:Int)-a))]) h))
theorem d1U(o a b:Int)(h:Heap)(Q:KT):dF (aU Px) env 73 cC bD bD [.int .i64 o,.agg [.int .i64 a,.int .i64 b]] h Q=(
 tG Q h a b (o !=20) (aK (o !=21) (Q e6P h) (aK (a==b) (Q (.agg [.int .i64 (Yq o a),iI (Yq o a)]) h) (Jv o Q b a h))) (a==b) (Q (.agg [.int .i64 (Yq o a),iI (Yq o a)]) h) (Jv o Q b a h)):=by kernel_rfl
theorem d0P: ∀xs h Q,Rq xs h Q->aM env 73 xs h Q:=by
 intro xs h Q hk;unfold Rq at hk;split at hk
 .rename_i o a b;refine aL (Xg) (d1U o a b h Q) ?_;delta jE b3Z tG e6P Jv wW iI; (try dsimp -iota -proj only);have g: ∀x,A4 .i64 (-1:Int) x=Vo x:=λ_=>rfl
  simp only [g]
  repeat' (first|refine aA ?_ ?_|refine aB (λ_=>?_) (λ_=>?_)|refine And.intro ?_ ?_)
  all_goals first|exact hk| (refine bN hk ?_;try simp only [IV.agg.injEq,IV.tuple.injEq,IV.int.injEq,IV.bool.injEq,BE,true_and,and_true]; (try simp only [beq_iff_eq,beq_eq_false_iff_ne,bne_iff_ne,ne_eq,decide_eq_true_eq,decide_eq_false_iff_not,bne_eq_false_iff_eq]at*);grind [Bc])
 .exact hk.elim
def Py:=aV 73 Rq Px
theorem Xh:aS env Py:=aE d0P (Xg)
def c9X(n:Int)(h:Heap):Inv':= .one ⟨Int,λx=>[(0,.v (.int .i64 n)),(3,.v (.int .i64 x))],λ_=>[],λ_=>h,λx=>V3 x n,λx=>(n-x).toNat,λF _=>match F.tmg 3 with|some (.v (.int .i64 x))=>some x|_=>none⟩
def Dz(xs:Y14)(h:Heap)(K:KT):Prop:=match xs with
 | [.int .i64 n]=>aZ n/\K (.int .i64 (I3 n)) h
 |_=>False
def b0G(x:Int):=wW ((2:Int)*x)+1
def Zk(n:Int):=TV.v (.int .i64 n)
def c6C(x:Int):=TV.v (.int .i64 (wW (b0G x)))
theorem c4K(n:Int)(h:Heap)(Q:KT):dF (aU Py) env 192 cC (mJ 3 (c9X n Heap.empty)) bD [.int .i64 n] h Q=(
 (some (Zk n)=some (Zk n)/\tI 0=tI 0/\Heap.mk PT.nil 0=Heap.mk PT.nil 0/\(∃(k:Nat),(0:Int)=(↑((2:Nat) ^k):Int)-1/\k<=63/\(k=0\/ (↑((2:Nat) ^ (k- (1:Nat))):Int)-1<n))/\True)/\∀(x:Int)(g:FF),V3 x n->aK (decide (x<n)) (some (Zk n)=some (Zk n)/\some (c6C x)=some (c6C x)/\Heap.mk PT.nil 0=Heap.mk PT.nil 0/\(∃(k:Nat),wW (b0G x)=(↑((2:Nat) ^k):Int)- (1:Int)/\k<=63/\(k=0\/ (↑((2:Nat) ^ (k-1)):Int)-1<n))/\Int.toNat (n-wW (b0G x))< (n-x).toNat) (Q (.int .i64 x) h)):=by kernel_rfl
theorem c3J: ∀xs h Q,Dz xs h Q->aM env 192 xs h Q:=by
 intro xs h Q hk;unfold Dz at hk;split at hk
 .rename_i n;refine aL (Xh) (c4K n h Q) ?_;delta Zk b0G c6C tI wW;obtain⟨j,hk⟩:=hk;refine⟨⟨rfl,rfl,rfl,Vr n,trivial⟩,λx _ i=>aB (λg=>?_) (λg=>?_)⟩
  .simp only [decide_eq_true_eq]at g;obtain⟨h1,h2,h3⟩:=Vq i g j.2;have e:IntKind.i64.wrap (IntKind.i64.wrap (2*x)+1)=2*x+1:=by rw [AA (2*x) JZ,AA _ JZ]
   exact⟨rfl,rfl,rfl,e.symm▸h3,by rw [e];omega⟩
  .simp only [decide_eq_false_iff_not]at g;exact bN hk (by rw [a1X i g])
 .exact hk.elim
def Cu:=aV 192 Dz Py
theorem Oa:aS env Cu:=aE c3J (Xh)
def b9D(xs:Y14)(h:Heap)(K:KT):Prop:=match xs with
 | [.int .i64 a,.int .i64 b]=>(aZ a/\aZ b)/\K (.tuple [.int .i64 (IntKind.i64.wrap (a*b)),.bool (dM (a*b))]) h
 |_=>False
def c5G:=IV.tuple [.int .i64 0,IV.bool true]
def Zg(a b:Int):=wW (a*b)
def Jx(a:Int)(Q:KT)(b:Int)(h:Heap):Prop:=aK (a !=(-9223372036854775808:Int)) (Q (.tuple [.int .i64 (Zg a b),IV.bool (b !=(-9223372036854775808:Int))]) h) (Q (.tuple [.int .i64 (Zg a b),IV.bool false]) h)
theorem f3A(a b:Int)(h:Heap)(Q:KT):dF (aU Cu) env 135 cC bD bD [.int .i64 a,.int .i64 b] h Q=(
 aK (a==0) (Q c5G h) (aK (b==0) (Q c5G h) (aK (a==(-1:Int)) (Jx a Q b h) (aK (b==(-1:Int)) (Jx a Q b h) (aF (!b==0) (Q (.tuple [.int .i64 (Zg a b),IV.bool (wW (Int.tdiv (Zg a b) b)==a)]) h)))))):=by kernel_rfl
theorem f0I: ∀xs h Q,b9D xs h Q->aM env 135 xs h Q:=by
 intro xs h Q hk;unfold b9D at hk;split at hk
 .rename_i a b;refine aL (Oa) (f3A a b h Q) ?_;delta c5G Zg Jx wW; (try dsimp -iota -proj only);obtain⟨⟨l,j⟩,hk⟩:=hk;have i:=j;unfold aZ at l j;refine aB (λh1=>bN hk ?_) (λh1=>aB (λh2=>bN hk ?_) (λh2=>aB (λh3=>?_) (λh3=>aB (λh4=>?_) (λh4=>aA (by simp [h2]) (bN hk ?_)))))
  all_goals simp only [beq_iff_eq,beq_eq_false_iff_ne,ne_eq]at*
  .subst h1;rw [Int.zero_mul];rfl
  .subst h2;rw [Int.mul_zero];rfl
  .subst h3;refine aB (λg=>bN hk ?_) (λg=>bN hk ?_)<;>simp only [IV.agg.injEq,IV.tuple.injEq,IV.int.injEq,IV.bool.injEq,BE,true_and,and_true]<;>grind [dM]
  .subst h4;refine aB (λg=>bN hk ?_) (λg=>bN hk ?_)<;>simp only [IV.agg.injEq,IV.tuple.injEq,IV.int.injEq,IV.bool.injEq,BE,true_and,and_true]<;>grind [dM]
  .rw [rD (bZ _) h2 h4,c0R h2 i]
 .exact hk.elim
def b6E:=aV 135 b9D Cu
theorem c1Y:aS env b6E:=aE f0I (Oa)
def V9(xs:Y14)(h:Heap)(K:KT):Prop:=match xs with
 | [.agg [.int .i64 a,.int .i64 b,.int .i64 c,.int .i64 d],.bool ok]=>K (.agg [.int .i64 (if ok then(Bf a b c d,Be a b c d)else(dH,dN)).1,.int .i64 (if ok then(Bf a b c d,Be a b c d)else(dH,dN)).2]) h
 |_=>False
theorem b3G(a b c d:Int)(g:Bool)(h:Heap)(Q:KT):dF (aU b6E) env 136 cC bD bD [.agg [.int .i64 a,.int .i64 b,.int .i64 c,.int .i64 d],.bool g] h Q=(
 aK (!g) (Q (.agg [.int .i64 (-9223372036854775808),iI 9223372036854775807]) h) (Q (IV.agg [iI (if(if d<c then d else c)<if b<a then b else a then if d<c then d else c else if b<a then b else a),iI (if(if d>c then d else c)>if b>a then b else a then if d>c then d else c else if b>a then b else a)]) h)):=by kernel_rfl
theorem b2R: ∀xs h Q,V9 xs h Q->aM env 136 xs h Q:=by
 intro xs h Q hk;unfold V9 at hk;split at hk
 .rename_i a b c d g;refine aL (c1Y) (b3G a b c d g h Q) ?_;delta iI;have i: ∀x y:Int,(if y<x then y else x)=min x y:=λx y=>JZ
  have j: ∀x y:Int,(if y>x then y else x)=max x y:=λx y=>JZ
  simp only [i,j]
  cases g
  .exact hk
  .exact hk
 .exact hk.elim
def U6:=aV 136 V9 b6E
theorem Ff:aS env U6:=aE b2R (c1Y)
def V7(xs:Y14)(h:Heap)(K:KT):Prop:=match xs with
 | [.int .i64 o,.agg [.int .i64 a,.int .i64 b],.agg [.int .i64 c,.int .i64 d]]=>((o=9\/o=10\/o=11)/\((aZ a/\aZ b)/\(aZ c/\aZ d))/\a<=b/\c<=d)/\K (.agg [.int .i64 (nP o a b c d).1,.int .i64 (nP o a b c d).2]) h
 |_=>False
def a9V:=IV.agg [.int .i64 (-9223372036854775808:Int),iI (jE)]
def xV(o:Int)(i:Int)(a:Int)(c:Int)(d:Int)(b:Int)(Q:KT)(j:Int)(h:Heap)(g:Prop):Prop:=aK (o==i) (aK (decide (a>=0)) (aK (decide (c>=0)) (aZ (if d>b then d else b)/\Q (.agg [.int .i64 j,iI (I3 (if d>b then d else b))]) h) g) g) g
def Yy(o:Int)(Q:KT)(h:Heap)(a:Int)(c:Int)(d:Int)(b:Int)(u:Int)(y:Int)(l:Int)(m:Int)(r:Prop)(g:Int)(i:Int)(j:Prop):Prop:=aK (o==9) (aK (decide (u>=0)) (Q (.agg [.int .i64 0,iI y]) h) (aK (o==l) (aK (decide (m>=0)) r (xV o g a c d b Q i h j)) (xV o g a c d b Q i h j))) (aK (o==l) (aK (decide (m>=0)) r (xV o g a c d b Q i h j)) (xV o g a c d b Q
 i h j))
def O9(o:Int)(Q:KT)(h:Heap)(a:Int)(c:Int)(d:Int)(b:Int):Prop:=Yy o Q h a c d b a b 9 c (Q (.agg [.int .i64 0,iI d]) h) 10 (if c>a then c else a) (aK (o==11) (aK (decide (a>=0)) (aK (decide (c>=0)) (aZ (if d>b then d else b)/\Q (.agg [.int .i64 0,iI (I3 (if d>b then d else b))]) h) (Q a9V h)) (Q a9V h)) (Q a9V h))
theorem b3E(o a b c d:Int)(h:Heap)(Q:KT):dF (aU U6) env 138 cC bD bD [.int .i64 o,.agg [.int .i64 a,.int .i64 b],.agg [.int .i64 c,.int .i64 d]] h Q=(
 aK (o==9) (aK (decide (a>=0)) (aK (decide (c>=0)) (Q (.agg [.int .i64 0,iI (if d<b then d else b)]) h) (O9 o Q h a c d b)) (O9 o Q h a c d b)) (O9 o Q h a c d b)):=by kernel_rfl
theorem b2P: ∀xs h Q,V7 xs h Q->aM env 138 xs h Q:=by
 intro xs h Q hk;unfold V7 at hk;split at hk
 .rename_i o a b c d;refine aL (Ff) (b3E o a b c d h Q) ?_;delta xV Yy jE a9V O9 iI; (try dsimp -iota -proj only);obtain⟨⟨ho,⟨⟨m,r⟩,u,hd⟩,g,i⟩,hk⟩:=hk;have j: ∀x y:Int,(if y<x then y else x)=min x y:=λx y=>JZ
  have l: ∀x y:Int,(if y>x then y else x)=max x y:=λx y=>JZ
  simp only [j,l];have hm:aZ (max b d):=by unfold aZ at*;omega
  unfold nP at hk;rcases ho with rfl|rfl|rfl<;>by_cases hs1:0<=a<;>by_cases hs2:0<=c
  all_goals repeat' (first|refine aA ?_ ?_|refine aB (λ_=>?_) (λ_=>?_)|refine And.intro ?_ ?_)
  all_goals try simp only [decide_eq_true_eq,decide_eq_false_iff_not]at*
  all_goals first|exact hm|exact hm.1|exact hm.2|omega| (exfalso;contradiction)|skip
  all_goals refine bN hk ?_
  all_goals first| (rw [if_pos KA,if_pos JZ];done)| (rw [if_pos KA,if_neg JZ,if_pos JZ];done)| (rw [if_pos KA,if_neg JZ,if_neg JZ,if_pos JZ];done)| (rw [if_pos KA,if_neg JZ,if_neg JZ,if_neg JZ];done)| (rw [if_neg KA,if_pos JZ];done)| (rw [if_neg KA,if_neg JZ];rfl)
 .exact hk.elim
def U4:=aV 138 V7 U6
theorem Fd:aS env U4:=aE b2P (Ff)
def a2R(xs:Y14)(h:Heap)(K:KT):Prop:=match xs with
 | [.int .i64 o,.agg [.int .i64 a,.int .i64 b],.agg [.int .i64 c,.int .i64 d]]=>((aZ a/\aZ b)/\(aZ c/\aZ d))/\K (.agg [.int .i64 (mI o a b c d).1,.int .i64 (mI o a b c d).2]) h
 |_=>False
def b3Y:=IV.agg [.int .i64 (-9223372036854775808:Int),iI (jE)]
def e6Q(a b c d:Int):=if dM (b*d)=true then(Bf (wW (a*c)) (wW (a*d)) (wW (b*c)) (wW (b*d)),Be (wW (a*c)) (wW (a*d)) (wW (b*c)) (wW (b*d)))else(dH,dN)
def d3R(o a b c d:Int):=IV.agg [.int .i64 ((uK o a b c d).1),iI ((uK o a b c d).2)]
def d3S:=IV.agg [.int .i64 dH,iI dN]
def e6R(a b c d:Int):=if(dM (a-d) &&dM (b-c))=true then(wW (a-d),wW (b-c))else(dH,dN)
def e6S(g i:Int):=if(dM g&&dM i)=true then(wW g,wW i)else(dH,dN)
def Za(o:Int)(a:Int)(b:Int)(Q:KT)(h:Heap)(c:Int)(m:Int)(g:Int)(i:Int)(j:Int)(l:Int)(r:Int)(u:Int)(y:Prop)(z:Int)(A:Prop)(D:Int)(G:Prop)(K:Prop):Prop:=aK (o==m) ((aZ a/\aZ g)/\(aZ b/\aZ i)/\Q (.agg [.int .i64 ((e6S j l).1),iI ((e6S j l).2)]) h) (aK (o==r) ((aZ a/\aZ i)/\(aZ u/\aZ g)/\y) (aK (o==z) A (aK (o==D) (aK (decide (c<1)) (Q b3Y h) G) K)))
def P0(o:Int)(a:Int)(b:Int)(c:Int)(d:Int)(Q:KT)(h:Heap):Prop:=((o=9\/o=10\/o=11)/\((aZ a/\aZ b)/\aZ c/\aZ d)/\a<=b/\c<=d)/\Q (.agg [.int .i64 ((nP o a b c d).1),iI ((nP o a b c d).2)]) h
def Yz(o:Int)(a:Int)(b:Int)(c:Int)(d:Int)(Q:KT)(h:Heap)(r:Int)(u:Int)(g:Prop)(i:Int)(j:Prop)(l:Int)(m:Prop):Prop:=aK (o==r) (P0 o a b c d Q h) (aK (o==u) g (aK (o==i) j (aK (o==l) (Q (d3R o a b c d) h) m)))
def Js(o:Int)(a:Int)(c:Int)(b:Int)(d:Int)(Q:KT)(h:Heap):Prop:=Za o a b Q h c 4 c d (a+c) (b+d) 5 b (Q (.agg [.int .i64 ((e6R a b c d).1),iI ((e6R a b c d).2)]) h) 6 ((aZ a/\aZ c)/\(aZ a/\aZ d)/\(aZ b/\aZ c)/\(aZ b/\aZ d)/\aK (dM (a*c)) (aK (dM (a*d)) (aK (dM (b*c)) (Q (.agg [.int
 .i64 ((e6Q a b c d).1),iI ((e6Q a b c d).2)]) h) (Q d3S h)) (Q d3S h)) (Q d3S h)) 7 (aF (!c==0) (aF (!d==0) (aF (!c==0) (aF (!d==0) (Q (.agg [.int .i64 (Bf (wW (Int.tdiv a c)) (wW (Int.tdiv a d)) (wW (Int.tdiv b c)) (wW (Int.tdiv b d))),iI (Be (wW
 (Int.tdiv a c)) (wW (Int.tdiv a d)) (wW (Int.tdiv b c)) (wW (Int.tdiv b d)))]) h))))) (aK (o==8) (aK (decide (c<1)) (Q b3Y h) ((((aZ a/\aZ b)/\aZ c/\aZ d)/\1<=c/\c<=d/\a<=b)/\Q (.agg [.int .i64 ((zZ a b c d).1),iI ((zZ a b c d).2)]) h)) (Yz o a b c d Q h
 (9:Int) 10 (P0 o a b c d Q h) 11 (P0 o a b c d Q h) 12 (aK (o==13) (Q (d3R o a b c d) h) (aK (o==14) (Q (d3R o a b c d) h) ((a<=b/\c<=d)/\Q (.agg [.int .i64 ((G3 o a b c d).1),iI ((G3 o a b c d).2)]) h)))))
theorem e4R(o a b c d:Int)(h:Heap)(Q:KT):dF (aU U4) env 74 cC bD bD [.int .i64 o,.agg [.int .i64 a,.int .i64 b],.agg [.int .i64 c,.int .i64 d]] h Q=(
 tG Q h a b (!decide (c<=d)) (Q b3Y h) (decide (o<4)) (Q b3Y h) (aK (decide (o>19)) (Q b3Y h) (aK (a==b) (aK (c==d) (Q (.agg [.int .i64 (A1 o a c),iI (A1 o a c)]) h) (Js o a c b d Q h)) (Js o a c b d Q h)))):=by kernel_rfl
theorem e3A: ∀xs h Q,a2R xs h Q->aM env 74 xs h Q:=by
 intro xs h Q hk;unfold a2R at hk;split at hk
 .rename_i o a b c d;refine aL (Fd) (e4R o a b c d h Q) ?_;delta jE b3Z tG b3Y e6S Za e6R e6Q d3S P0 d3R Yz Js wW iI; (try dsimp -iota -proj only);obtain⟨⟨⟨g,i⟩,u,hd⟩,hk⟩:=hk;have j:1<=c->IntKind.i64.wrap (a.tdiv c)=a.tdiv c:=λh=>rD g JZ JZ
  have l:1<=c->IntKind.i64.wrap (b.tdiv c)=b.tdiv c:=λh=>rD i JZ JZ
  have m:1<=d->IntKind.i64.wrap (a.tdiv d)=a.tdiv d:=λh=>rD g JZ JZ
  have r:1<=d->IntKind.i64.wrap (b.tdiv d)=b.tdiv d:=λh=>rD i JZ JZ
  simp only [b4R]
  repeat' (first|refine aA ?_ ?_|refine aB (λ_=>?_) (λ_=>?_)|refine And.intro ?_ ?_)
  all_goals simp only [decide_eq_true_eq,decide_eq_false_iff_not,beq_iff_eq,beq_eq_false_iff_ne,ne_eq,BS,CA]at*
  all_goals first|assumption| (unfold aZ at*;omega)| (refine⟨?_,?_⟩<;>assumption)| (refine bN hk ?_;simp only [IV.agg.injEq,IV.tuple.injEq,IV.int.injEq,IV.bool.injEq,BE,true_and,and_true];grind [mI,Dv,Dw,eL,Nl])
 .exact hk.elim
def b5T:=aV 74 a2R U4
theorem c9Q:aS env b5T:=aE e3A (Fd)
end Go.Proofs.YtkonebkblgemkaaGreat
end
end
