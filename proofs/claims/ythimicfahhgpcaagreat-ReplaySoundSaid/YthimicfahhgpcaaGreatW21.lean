/-
  Texts of this proof, one after the other.
  Conditions: none.
-/
import Derived.Test.YthimicfahhgpcaaGreatW20
set_option linter.unusedVariables false
set_option linter.unusedSimpArgs false
set_option maxRecDepth 100000
set_option maxHeartbeats 4000000
noncomputable section
variable{i j k m n b q:Nat}{x y z u w:Int}{h g:Go.Pv.Heap}{d l:List Go.Pv.IV}{A B C:List Go.M15.Nd}{K L:Y12}{p s t:Go.Pv.IV}{F:List Go.M10.E}{D:Go.Pv.Meta}{V W:List Go.Value}{U:Go.TypeId}{o:Bool}{X Y:Go.Value}{r e:Y11}{O:Go.Oper}{N:Y10}{H:Array Go.Value}
section
namespace Go.Proofs.YthimicfahhgpcaaGreat
open Go.Pv Go.M13 Go.M15 Go.M10 Go.M14 Go.M23
def Qg(xs:Y14)(h:Heap)(K:KT):Prop:=match xs with
 | [x]=> ∃(k:Nat)(f:RF)(g:Heap),(k<16/\x= .ptr 0 0/\HBC k h g/\RuC k f)/\K (.agg f.c) g
 |_=>False
theorem d0X: ∀xs h Q,Qg xs h Q->aL env 90 xs h Q:=by
 intro xs h Q j;unfold Qg at j;split at j
 ·rename_i x;obtain⟨k,f,g,⟨l,rfl,⟨rfl,rfl⟩,hf⟩,j⟩:=j;rw [hf.e]at j;clear hf
  match k,l,j with
  |0,_,j=>exact⟨400,_,_,rr0,j⟩
  |1,_,j=>exact⟨400,_,_,rr1,j⟩
  |2,_,j=>exact⟨400,_,_,rr2,j⟩
  |3,_,j=>exact⟨400,_,_,rr3,j⟩
  |4,_,j=>exact⟨400,_,_,rr4,j⟩
  |5,_,j=>exact⟨400,_,_,rr5,j⟩
  |6,_,j=>exact⟨400,_,_,rr6,j⟩
  |7,_,j=>exact⟨400,_,_,rr7,j⟩
  |8,_,j=>exact⟨400,_,_,rr8,j⟩
  |9,_,j=>exact⟨400,_,_,rr9,j⟩
  |10,_,j=>exact⟨400,_,_,e2S,j⟩
  |11,_,j=>exact⟨400,_,_,e2T,j⟩
  |12,_,j=>exact⟨400,_,_,e2U,j⟩
  |13,_,j=>exact⟨400,_,_,e2V,j⟩
  |14,_,j=>exact⟨400,_,_,e2W,j⟩
  |15,_,j=>exact⟨400,_,_,e2X,j⟩
  |_+16,h,_=>exact absurd h JF
 ·exact j.elim
def a4R:=aV 90 Qg c4P
theorem c0A:aO env a4R:=aF d0X (c9W)
def c8I(xs:Y14)(h:Heap)(K:KT):Prop:=match xs with
 | [x]=> ∃(k:Nat)(f:RF),(16<=k/\k<28/\RuC k f/\x= .str f.nm)/\K (.tuple [.agg f.c,.bool true]) h
 |_=>False
theorem e2Z: ∀xs h Q,c8I xs h Q->aL env 89 xs h Q:=by
 intro xs h Q g;unfold c8I at g;split at g
 ·rename_i x;obtain⟨k,f,⟨j,l,hf,rfl⟩,g⟩:=g;rw [hf.e]at g;rw [hf.nm];clear hf
  match k,j,l,g with
  |0,h,_,_=>exact absurd h JF
  |1,h,_,_=>exact absurd h JF
  |2,h,_,_=>exact absurd h JF
  |3,h,_,_=>exact absurd h JF
  |4,h,_,_=>exact absurd h JF
  |5,h,_,_=>exact absurd h JF
  |6,h,_,_=>exact absurd h JF
  |7,h,_,_=>exact absurd h JF
  |8,h,_,_=>exact absurd h JF
  |9,h,_,_=>exact absurd h JF
  |10,h,_,_=>exact absurd h JF
  |11,h,_,_=>exact absurd h JF
  |12,h,_,_=>exact absurd h JF
  |13,h,_,_=>exact absurd h JF
  |14,h,_,_=>exact absurd h JF
  |15,h,_,_=>exact absurd h JF
  |16,_,_,g=>exact e1G g
  |17,_,_,g=>exact e1H g
  |18,_,_,g=>exact e1I g
  |19,_,_,g=>exact e1J g
  |20,_,_,g=>exact e1K g
  |21,_,_,g=>exact e1L g
  |22,_,_,g=>exact e1M g
  |23,_,_,g=>exact e1N g
  |24,_,_,g=>exact e1O g
  |25,_,_,g=>exact e1P g
  |26,_,_,g=>exact e1Q g
  |27,_,_,g=>exact e1R g
  |_+28,_,h,_=>exact absurd h JF
 ·exact g.elim
def d5R:=aV 89 c8I a4R
theorem d6O:aO env d5R:=aF e2Z (c0A)
def a7U(xs:Y14)(h:Heap)(K:KT):Prop:=match xs with
 | [x]=> ∃(k:Nat)(f:RF),(k<16/\RuC k f/\x= .agg f.c)/\K (.bool true) h
 |_=>False
theorem d8B: ∀xs h Q,a7U xs h Q->aL env 91 xs h Q:=by
 intro xs h Q g;unfold a7U at g;split at g
 ·rename_i x;obtain⟨k,f,⟨j,hf,rfl⟩,g⟩:=g;rw [hf.e];clear hf
  match k,j,g with
  |0,_,g=>exact vr0 g
  |1,_,g=>exact vr1 g
  |2,_,g=>exact vr2 g
  |3,_,g=>exact vr3 g
  |4,_,g=>exact vr4 g
  |5,_,g=>exact vr5 g
  |6,_,g=>exact vr6 g
  |7,_,g=>exact vr7 g
  |8,_,g=>exact vr8 g
  |9,_,g=>exact vr9 g
  |10,_,g=>exact e4Z g
  |11,_,g=>exact e5A g
  |12,_,g=>exact e5B g
  |13,_,g=>exact e5C g
  |14,_,g=>exact e5D g
  |15,_,g=>exact e5E g
  |_+16,h,_=>exact absurd h JF
 ·exact g.elim
def a5E:=aV 91 a7U d5R
theorem a9W:aO env a5E:=aF d8B (d6O)
def paA(s:Y11):Inv':=eA PaX (fun x=>[(3,.l 3 0),(4,.v (.vslice none 0 (lJ s (s.length+1) 0).1.length 2 ((lJ s (s.length+1) 0).1.flatMap vA))),(5,.v (.int .i64 (-1))),(6,.v (.ptr 0 0)),(7,.v x.v)]) (fun _=>[(3,[.int .i64 0,.int .i64 0])]) (fun x=>x.g) (fun x=>PaI x.k x.v x.g) (fun x=>28-x.k)
def paB(s:Y11):Inv':= .or (eA PaX (fun x=>[(3,.l 3 0),(4,.v (.vslice none 0 (lJ s (s.length+1) 0).1.length 2 ((lJ s (s.length+1) 0).1.flatMap vA))),(5,.v (.int .i64 (-1))),(6,.v (.ptr 0 0)),(7,.v .nilslice),(9,.v (.int .i64 ((dI (lJ s (s.length+1) 0).1 (st x.k+1)).2:Int))),(10,.l 10 0),(14,.v (.int .i64 (x.j:Int)))]) (fun x=>[(3,[.int .i64 0,.int .i64 0]),(10,x.f.c)]) (fun x=>x.g) (fun x=>PaJ x.k .nilslice x.g/\x.k=0/\x.j<=x.k/\RuC x.k x.f) (fun x=>100*(28-x.k)+(x.k-x.j))) (eA PaX (fun x=>[(3,.l 3 0),(4,.v (.vslice none 0 (lJ s (s.length+1) 0).1.length 2 ((lJ s (s.length+1) 0).1.flatMap vA))),(5,.v (.int .i64 (-1))),(6,.v (.ptr 0 0)),(7,.v (.vslice (some 3) (14*x.k) x.k 14 (x.L.flatMap bS))),(9,.v (.int .i64 ((dI (lJ s (s.length+1) 0).1 (st x.k+1)).2:Int))),(10,.l 10 0),(14,.v (.int .i64 (x.j:Int)))]) (fun x=>[(3,[.int .i64 0,.int .i64 0]),(10,x.f.c)]) (fun x=>x.g) (fun x=>PaJ x.k (.vslice (some 3) (14*x.k) x.k 14 (x.L.flatMap bS)) x.g/\1<=x.k/\PaL x.L x.k/\x.j<=x.k/\RuC x.k x.f) (fun x=>100*(28-x.k)+(x.k-x.j)))
def paC(s:Y11):Inv':=eA PaX (fun x=>[(3,.l 3 0),(4,.v (.vslice none 0 (lJ s (s.length+1) 0).1.length 2 ((lJ s (s.length+1) 0).1.flatMap vA))),(5,.v (.int .i64 (-1))),(6,.v (.ptr 0 0)),(7,.v x.v),(8,.v (.bool x.b))]) (fun _=>[(3,[.int .i64 0,.int .i64 0])]) (fun x=>x.g) (fun x=>PaI x.k x.v x.g/\x.k<28/\x.b=decide (16<=x.k)) (fun x=>28-x.k)
def paF(s:Y11):Inv':= .or (eA PaX (fun x=>[(3,.l 3 0),(4,.v (.vslice none 0 (lJ s (s.length+1) 0).1.length 2 ((lJ s (s.length+1) 0).1.flatMap vA))),(5,.v (.int .i64 (-1))),(6,.v (.ptr 0 0)),(7,.v .nilslice),(9,.v (.int .i64 ((dI (lJ s (s.length+1) 0).1 (st x.k+1)).2:Int))),(10,.l 10 0)]) (fun x=>[(3,[.int .i64 0,.int .i64 0]),(10,x.f.c)]) (fun x=>x.g) (fun x=>PaJ x.k .nilslice x.g/\x.k=0/\RuC x.k x.f) (fun x=>28-x.k)) (eA PaX (fun x=>[(3,.l 3 0),(4,.v (.vslice none 0 (lJ s (s.length+1) 0).1.length 2 ((lJ s (s.length+1) 0).1.flatMap vA))),(5,.v (.int .i64 (-1))),(6,.v (.ptr 0 0)),(7,.v (.vslice (some 3) (14*x.k) x.k 14 (x.L.flatMap bS))),(9,.v (.int .i64 ((dI (lJ s (s.length+1) 0).1 (st x.k+1)).2:Int))),(10,.l 10 0)]) (fun x=>[(3,[.int .i64 0,.int .i64 0]),(10,x.f.c)]) (fun x=>x.g) (fun x=>PaJ x.k (.vslice (some 3) (14*x.k) x.k 14 (x.L.flatMap bS)) x.g/\1<=x.k/\PaL x.L x.k/\RuC x.k x.f) (fun x=>28-x.k))
def paG(s:Y11):Inv':=eA Heap (fun _=>[(3,.l 3 0),(4,.v (.vslice none 0 (lJ s (s.length+1) 0).1.length 2 ((lJ s (s.length+1) 0).1.flatMap vA))),(5,.v (.int .i64 (-1))),(6,.v (.ptr 0 0))]) (fun _=>[(3,[.int .i64 0,.int .i64 0])]) (fun g=>g) (fun g=>PaI 0 .nilslice g) (fun _=>0)
def paD(s:Y11):Inv':=eA PaX (fun x=>[(3,.l 3 0),(6,.v (.ptr 0 0)),(7,.v (.vslice (some 3) (14*x.L.length) x.L.length 14 (x.L.flatMap bS)))]) (fun _=>[(3,[.int .i64 0,.int .i64 0])]) (fun x=>x.g) (fun x=>PaE x.L x.g) (fun _=>0)
def a7J(xs:Y14)(h:Heap)(K:KT):Prop:=match xs with
 | [.str s]=>s=kTx/\∀L:List Ru,L=cC->K (.tuple [.vslice none 0 L.length 14 (L.flatMap bS),.agg [.int .i64 0,.int .i64 0]]) h
 |_=>False
def Tp(s:Y11):=lJ s (s.length+1) 0
def qI(s:Y11):=(Tp s).1
def gZ(s:Y11):=TV.v (.vslice none 0 ((qI s).length) 2 (List.flatMap vA (qI s)))
def Mt(f:RF):=[IV.str (RF.nm f),iI (RF.a1 f),iI (RF.a2 f),iI (RF.a3 f),iI (RF.a4 f),IV.vslice none 0 (RF.n1 f) 5 (RF.x1 f),iI (RF.b1 f),iI (RF.b2 f),iI (RF.b3 f),iI (RF.b4 f),IV.vslice none 0 (RF.n2 f) 5 (RF.x2 f),IV.vslice none 0 (RF.n3 f) 4 (RF.x3 f),iI (RF.nv f),iI (RF.ni f)]
def Tm(g:PaX):=[IV.str (RF.nm (PaX.f g)),iI (RF.a1 (PaX.f g)),iI (RF.a2 (PaX.f g)),iI (RF.a3 (PaX.f g)),iI (RF.a4 (PaX.f g)),IV.vslice none 0 (RF.n1 (PaX.f g)) 5 (RF.x1 (PaX.f g)),iI (RF.b1 (PaX.f g)),iI (RF.b2 (PaX.f g)),iI (RF.b3 (PaX.f g)),iI (RF.b4 (PaX.f g)),IV.vslice none 0 (RF.n2
 (PaX.f g)) 5 (RF.x2 (PaX.f g)),IV.vslice none 0 (RF.n3 (PaX.f g)) 4 (RF.x3 (PaX.f g)),iI (RF.nv (PaX.f g)),iI (RF.ni (PaX.f g))]
def fW:=[iI 0,iI 0]
def iM:=TV.v (.int .i64 (-1))
def gD:=TV.v (.ptr 0 0)
def gE:=TV.l 3 0
def d4D(g:PaX):=[IV.str (RF.nm (PaX.f g)),iI (RF.a1 (PaX.f g)),iI (RF.a2 (PaX.f g)),iI (RF.a3 (PaX.f g)),iI (RF.a4 (PaX.f g)),IV.vslice none 0 (RF.n1 (PaX.f g)) 5 (RF.x1 (PaX.f g)),iI (RF.b1 (PaX.f g)),iI (RF.b2 (PaX.f g)),iI (RF.b3 (PaX.f g)),iI (RF.b4 (PaX.f g)),IV.vslice none 0 (RF.n2
 (PaX.f g)) 5 (RF.x2 (PaX.f g)),IV.vslice none 0 (RF.n3 (PaX.f g)) 4 (RF.x3 (PaX.f g)),iI (RF.nv (PaX.f g)),iI (RF.ni (PaX.f g))]
abbrev d4E(k:Nat)(f g:RF):=k<16/\RuC k g/\IV.agg (Mt f)=IV.agg [.str (RF.nm g),iI (RF.a1 g),iI (RF.a2 g),iI (RF.a3 g),iI (RF.a4 g),IV.vslice none 0 (RF.n1 g) 5 (RF.x1 g),iI (RF.b1 g),iI (RF.b2 g),iI (RF.b3 g),iI (RF.b4 g),IV.vslice none 0 (RF.n2 g) 5 (RF.x2 g),IV.vslice none 0 (RF.n3
 g) 4 (RF.x3 g),iI (RF.nv g),iI (RF.ni g)]
def zE:=some (3:Nat)
def Tn(g:PaX):=IV.vslice zE ((14:Nat)*PaX.k g) (PaX.k g) 14 (List.flatMap bS (PaX.L g))
def pE:=TV.l 10 0
def a2Q(g:Int)(r6:Y14):=List.take 1 r6++ [iI (wW (g+1))]++List.drop 2 r6
def c3N(e:Int)(m iv:Y11)(l:Bool)(g:List qM)(j:Nat):=[IV.vslice none 0 g.length 2 (List.flatMap vA g),iI (↑(j+1):Int),iI e,iI 0,iI 0,IV.str m,IV.str iv,IV.bool l]
def c3O(tk:List qM)(i:Nat)(e:Int)(j iv:Y11)(g:Bool):=[IV.vslice none 0 tk.length 2 (List.flatMap vA tk),iI (i:Int),iI e,iI 0,iI 0,IV.str j,IV.str iv,IV.bool g]
def To(tk:List qM)(i:Nat):=TV.v (.int .i64 (↑((dI tk i).2):Int))
def c3P(g:PaX):=IV.vslice zE ((14:Nat)*PaX.k g) (PaX.k g) 14 (List.flatMap bS (PaX.L g))
def d4F(g:List qM)(q:Nat)(p:Int)(m j:Y11)(l:Bool):=IObj.cells [IV.vslice none 0 g.length 2 (List.flatMap vA g),iI (↑(q+1):Int),iI p,iI 0,iI 0,IV.str m,IV.str j,IV.bool l]
abbrev c3Q(g:PaX):=((PaX.j g):Int)< ((PaX.k g):Int)
def d4G(e:Int)(m iv:Y11)(l:Bool)(g:List qM)(j:Nat):=[IV.vslice none 0 g.length 2 (List.flatMap vA g),iI (j:Int),iI e,iI 0,iI 0,IV.str m,IV.str iv,IV.bool l]
def d4H(tk:List qM)(i:Nat)(r7:Y14):=IObj.cells (List.take 3 r7++ [iI 2,iI (↑((dI tk i).2):Int)]++List.drop 5 r7)
def d4I:Y11:=[97,120,105,111,109]
def Tq:=TV.v IV.nilslice
def d4J(g:PaX):=TV.v (.int .i64 (wW (((PaX.j g):Int)+1)))
abbrev Yy(tk:List qM)(i:Nat):=i<tk.length/\tk.length<=1000000
def V3(g:PaX):=(28:Nat)-PaX.k g
def b5O(s:Y11)(g:PaX):=TV.v (.int .i64 (↑((dI (qI s) (st (PaX.k g)+1)).2):Int))
def b5P(s:Y11)(g:PaX):=TV.v (.int .i64 (↑((dI (qI s) (st (PaX.k g)+1)).2):Int))
def V4(g:PaX):=PaX.k g-PaX.j g
def b5Q(g:PaX):=decide (0<=((PaX.j g):Int)) &&decide (c3Q g)
def b5H(s:Y11)(j:Heap):Prop:= ∃(g:Heap),some gE=some gE/\some (gZ s)=some (gZ s)/\tI ((Tp s).2)=some iM/\some gD=some gD/\some fW=some fW/\j=g/\PaI 0 IV.nilslice g/\True
def b5I(M i:Nat)(s:Y11)(tk:List qM)(x:PaX):Prop:= ∃(j:PaX),some gE=some gE/\some (gZ s)=some (gZ s)/\some iM=some iM/\some gD=some gD/\some (TV.v (PaX.v x))=some (TV.v (PaX.v j))/\some (TV.v (.bool ((dI tk i).1==d4I)))=some (TV.v (.bool (PaX.b j)))/\some fW=some fW/\PaX.g x=PaX.g j/\(PaI
 (PaX.k j) (PaX.v j) (PaX.g j)/\PaX.k j<28/\PaX.b j=decide (16<=PaX.k j))/\(28:Nat)-PaX.k j<=M
def b5J(M:Nat)(s:Y11)(m:PaX)(p:IV):Prop:= ∃(l:PaX),some gE=some gE/\some (gZ s)=some (gZ s)/\some iM=some iM/\some gD=some gD/\some (TV.v (p))=some Tq/\some (b5O s m)=tI (↑((dI (qI s) (st (PaX.k l)+1)).2):Int)/\some pE=some pE/\tI 0=tI ((PaX.j l):Int)/\some fW=some
 fW/\some (d4D m)=some [IV.str (RF.nm (PaX.f l)),iI (RF.a1 (PaX.f l)),iI (RF.a2 (PaX.f l)),iI (RF.a3 (PaX.f l)),iI (RF.a4 (PaX.f l)),IV.vslice none 0 (RF.n1 (PaX.f l)) 5 (RF.x1 (PaX.f l)),iI (RF.b1 (PaX.f l)),iI (RF.b2 (PaX.f l)),iI (RF.b3 (PaX.f l)),iI (RF.b4 (PaX.f l)),IV.vslice
 none 0 (RF.n2 (PaX.f l)) 5 (RF.x2 (PaX.f l)),IV.vslice none 0 (RF.n3 (PaX.f l)) 4 (RF.x3 (PaX.f l)),iI (RF.nv (PaX.f l)),iI (RF.ni (PaX.f l))]/\PaX.g m=PaX.g l/\(PaJ (PaX.k l) IV.nilslice (PaX.g l)/\PaX.k l=0/\PaX.j l<=PaX.k l/\RuC (PaX.k l) (PaX.f l))/\(100:Nat)*((28
 :Nat)-PaX.k l)+(PaX.k l-PaX.j l)<=M
def b5K(s:Y11)(m:PaX):Prop:= ∃(l:PaX),some gE=some gE/\some (gZ s)=some (gZ s)/\some iM=some iM/\some gD=some gD/\some (TV.v (Tn m))=some Tq/\some (b5P s m)=tI (↑((dI (qI s) (st (PaX.k l)+1)).2):Int)/\some pE=some pE/\some (d4J m)=tI ((PaX.j l):Int)
 /\some fW=some fW/\some (Tm m)=some [IV.str (RF.nm (PaX.f l)),iI (RF.a1 (PaX.f l)),iI (RF.a2 (PaX.f l)),iI (RF.a3 (PaX.f l)),iI (RF.a4 (PaX.f l)),IV.vslice none 0 (RF.n1 (PaX.f l)) 5 (RF.x1 (PaX.f l)),iI (RF.b1 (PaX.f l)),iI (RF.b2 (PaX.f l)),iI (RF.b3 (PaX.f l)),iI (RF.b4
 (PaX.f l)),IV.vslice none 0 (RF.n2 (PaX.f l)) 5 (RF.x2 (PaX.f l)),IV.vslice none 0 (RF.n3 (PaX.f l)) 4 (RF.x3 (PaX.f l)),iI (RF.nv (PaX.f l)),iI (RF.ni (PaX.f l))]/\PaX.g m=PaX.g l/\(PaJ (PaX.k l) IV.nilslice (PaX.g l)/\PaX.k l=0/\PaX.j l<=PaX.k l/\RuC (PaX.k l) (PaX.f l))
 /\(100:Nat)*((28:Nat)-PaX.k l)+(PaX.k l-PaX.j l)<100*(V3 m)+(V4 m)
def b5L(M:Nat)(s:Y11)(m:PaX)(p:IV):Prop:= ∃(l:PaX),some gE=some gE/\some (gZ s)=some (gZ s)/\some iM=some iM/\some gD=some gD/\some (TV.v (p))=some (TV.v (.vslice zE ((14:Nat)*PaX.k l) (PaX.k l) 14 (List.flatMap bS (PaX.L l))))/\some (b5O s m)=tI (↑((dI (qI s) (st (PaX.k l)
 +1)).2):Int)/\some pE=some pE/\tI 0=tI ((PaX.j l):Int)/\some fW=some fW/\some (d4D m)=some [IV.str (RF.nm (PaX.f l)),iI (RF.a1 (PaX.f l)),iI (RF.a2 (PaX.f l)),iI (RF.a3 (PaX.f l)),iI (RF.a4 (PaX.f l)),IV.vslice none 0 (RF.n1 (PaX.f l)) 5 (RF.x1 (PaX.f l)),iI (RF.b1
 (PaX.f l)),iI (RF.b2 (PaX.f l)),iI (RF.b3 (PaX.f l)),iI (RF.b4 (PaX.f l)),IV.vslice none 0 (RF.n2 (PaX.f l)) 5 (RF.x2 (PaX.f l)),IV.vslice none 0 (RF.n3 (PaX.f l)) 4 (RF.x3 (PaX.f l)),iI (RF.nv (PaX.f l)),iI (RF.ni (PaX.f l))]/\PaX.g m=PaX.g l/\(PaJ (PaX.k l) (IV.vslice zE
 ((14:Nat)*PaX.k l) (PaX.k l) 14 (List.flatMap bS (PaX.L l))) (PaX.g l)/\1<=PaX.k l/\PaL (PaX.L l) (PaX.k l)/\PaX.j l<=PaX.k l/\RuC (PaX.k l) (PaX.f l))/\(100:Nat)*((28:Nat)-PaX.k l)+(PaX.k l-PaX.j l)<=M
def b5M(s:Y11)(m:PaX):Prop:= ∃(l:PaX),some gE=some gE/\some (gZ s)=some (gZ s)/\some iM=some iM/\some gD=some gD/\some (TV.v (Tn m))=some (TV.v (.vslice zE ((14:Nat)*PaX.k l) (PaX.k l) 14 (List.flatMap bS (PaX.L l))))/\some (b5P s m)=tI (↑((dI (qI s) (st (PaX.k
 l)+1)).2):Int)/\some pE=some pE/\some (d4J m)=tI ((PaX.j l):Int)/\some fW=some fW/\some (Tm m)=some [IV.str (RF.nm (PaX.f l)),iI (RF.a1 (PaX.f l)),iI (RF.a2 (PaX.f l)),iI (RF.a3 (PaX.f l)),iI (RF.a4 (PaX.f l)),IV.vslice none 0 (RF.n1 (PaX.f l)) 5 (RF.x1 (PaX.f
 l)),iI (RF.b1 (PaX.f l)),iI (RF.b2 (PaX.f l)),iI (RF.b3 (PaX.f l)),iI (RF.b4 (PaX.f l)),IV.vslice none 0 (RF.n2 (PaX.f l)) 5 (RF.x2 (PaX.f l)),IV.vslice none 0 (RF.n3 (PaX.f l)) 4 (RF.x3 (PaX.f l)),iI (RF.nv (PaX.f l)),iI (RF.ni (PaX.f l))]/\PaX.g m=PaX.g l/\(PaJ (PaX.k l)
 (IV.vslice zE ((14:Nat)*PaX.k l) (PaX.k l) 14 (List.flatMap bS (PaX.L l))) (PaX.g l)/\1<=PaX.k l/\PaL (PaX.L l) (PaX.k l)/\PaX.j l<=PaX.k l/\RuC (PaX.k l) (PaX.f l))/\(100:Nat)*((28:Nat)-PaX.k l)+(PaX.k l-PaX.j l)<100*(V3 m)+(V4 m)
def b5N(x:PaX):Prop:= ∃(j:PaX),some gE=some gE/\some gD=some gD/\some (TV.v (PaX.v x))=some (TV.v (.vslice zE ((14:Nat)*(PaX.L j).length) ((PaX.L j).length) 14 (List.flatMap bS (PaX.L j))))/\some fW=some fW/\PaX.g x=PaX.g j/\PaE (PaX.L j) (PaX.g j)/\True
theorem d9K(s:Y11)(h:Heap)(Q:KT):dF (aR a5E) env 51 cS (vC 9 (paA s) (oE 1000031 (paB s))) (vC 1000013 (paC s) (vC 1000030 (paF s) (vC 8 (paG s) (oE 38 (paD s))))) [.str s] h Q=(
 aI (decide ((s.length:Int)>20000)) (Q (.tuple [.vslice none 0 0 14 [],IV.agg [.int .i64 6,iI 20000]]) h) ((s.length<=100000/\Prod.fst (Tp s)≠[]/\Prod.snd (Tp s)=(-1:Int))/\aI (decide ((Tp s).2>=0)) (b5H s (Heap.mk (PT.node PT.nil (some (IObj.cells [IV.vslice none 0 ((qI s).length) 2 (List.flatMap vA (qI s)),iI 0,iI ((Tp s).2),iI 0,iI 0,IV.str [],IV.str [],IV.bool false])) PT.nil) ((0:Nat)+1))) (b5H s (Heap.mk (PT.node PT.nil (some (IObj.cells [IV.vslice none 0 ((qI s).length) 2 (List.flatMap vA (qI s)),iI 0,iI (s.length:Int),iI 0,iI 0,IV.str [],IV.str [],IV.bool false])) PT.nil) ((0:Nat)+1)))/\∀(x:Heap)(b:FF),PaI 0 IV.nilslice x->((∃(p:PaX),some gE=some gE/\some (gZ s)=some (gZ s)/\some iM=some iM/\some gD=some gD/\some Tq=some (TV.v (PaX.v p))/\some fW=some fW/\x=PaX.g p/\PaI (PaX.k p) (PaX.v p) (PaX.g p)/\True)/\∀(x:PaX)(b:FF),PaI (PaX.k x) (PaX.v x) (PaX.g x)->aJ (PaX.g x) 0 fun r0=>aG .i64 r0 3 fun n1=>aI (n1==0) (aJ (PaX.g x) 0 fun r2=>aG .i64 r2 1 fun n3=>aI (decide (n3< (↑((qI s).length):Int))) (∃(tk:List qM)(i:Nat)(e:Int)(D iv:Y11)(A:Bool),(PaX.g x).get 0=IObj.cells (c3O tk i e D iv A)/\(Yy tk i)/\∃(M:Nat),aI (!Prod.fst (dI tk i)==d4I) (∃(r:List qM)(y:Nat)(e:Int)(D iv:Y11)(A:Bool),(PaX.g x).get 0=IObj.cells (d4G e D iv A r y)/\(y<r.length/\r.length<=(1000000:Nat))/\aI (!Prod.fst (dI r y)==[114,117,108,101]) (∃(tk:List qM)(i:Nat)(e:Int)(D iv:Y11)(A:Bool),(PaX.g x).get 0=IObj.cells (c3O tk i e D iv A)/\(Yy tk i)/\False) (b5I M i s tk x)) (b5I M i s tk x)/\∀(p:PaX)(b:FF),PaI (PaX.k p) (PaX.v p) (PaX.g p)/\PaX.k p<28/\PaX.b p=decide (16<=PaX.k p)->(28:Nat)-PaX.k p<=M->aJ (PaX.g p) 0 fun r4=>aG .i64 r4 1 fun Y=>aJ (PaX.g p) 0 fun r6=>aC (Nat.ble 2 r6.length) (∃(tk:List qM)(i:Nat)(e:Int)(D iv:Y11)(A:Bool),IObj.cells (a2Q Y r6)=IObj.cells (c3O tk i e D iv A)/\(Yy tk i)/\∃(M:Nat),aI (PaX.b p) (∃(r:List qM)(y:Nat)(e:Int)(D iv:Y11)(A:Bool),IObj.cells (a2Q Y r6)=IObj.cells (d4G e D iv A r y)/\(y<r.length/\r.length<=1000000)/\aI (decide (((dI r y).1).length=1) &&isD (bA ((dI r y).1) 0)) False (∃(z:List qM)(G:Nat)(V:Int)(R K:Y11)(O:Bool),IObj.cells (c3N e D iv A r y)=IObj.cells [IV.vslice none 0 z.length 2 (List.flatMap vA z),iI (G:Int),iI V,iI 0,iI 0,IV.str R,IV.str K,IV.bool O]/\(G<z.length/\Prod.fst (dI z G)=[59]/\z.length<=1000000)/\∃(k:Nat)(f:RF),(16<=k/\k<28/\RuC k f/\IV.str ((dI r y).1)=IV.str (RF.nm f))/\((∃(x:PaX),some gE=some gE/\some (gZ s)=some (gZ s)/\some iM=some iM/\some gD=some gD/\some (TV.v (PaX.v p))=some Tq/\some (To tk i)=tI (↑((dI (qI s) (st (PaX.k x)+1)).2):Int)/\some pE=some pE/\some fW=some fW/\some (Mt f)=some [IV.str (RF.nm (PaX.f x)),iI (RF.a1 (PaX.f x)),iI (RF.a2 (PaX.f x)),iI (RF.a3 (PaX.f x)),iI (RF.a4 (PaX.f x)),IV.vslice none 0 (RF.n1 (PaX.f x)) 5 (RF.x1 (PaX.f x)),iI (RF.b1 (PaX.f x)),iI (RF.b2 (PaX.f x)),iI (RF.b3 (PaX.f x)),iI (RF.b4 (PaX.f x)),IV.vslice none 0 (RF.n2 (PaX.f x)) 5 (RF.x2 (PaX.f x)),IV.vslice none 0 (RF.n3 (PaX.f x)) 4 (RF.x3 (PaX.f x)),iI (RF.nv (PaX.f x)),iI (RF.ni (PaX.f x))]/\Heap.set (((PaX.g p).set 0 (IObj.cells (a2Q Y r6))).set 0 (IObj.cells (c3N e D iv A r y))) 0 (d4F z G V R K O)=PaX.g x/\(PaJ (PaX.k x) IV.nilslice (PaX.g x)/\PaX.k x=0/\RuC (PaX.k x) (PaX.f x))/\(28:Nat)-PaX.k x<=M) \/ ∃(x:PaX),some gE=some gE/\some (gZ s)=some (gZ s)/\some iM=some iM/\some gD=some gD/\some (TV.v (PaX.v p))=some (TV.v (.vslice zE ((14:Nat)*PaX.k x) (PaX.k x) 14 (List.flatMap bS (PaX.L x))))/\some (To tk i)=tI (↑((dI (qI s) (st (PaX.k x)+1)).2):Int)/\some pE=some pE/\some fW=some fW/\some (Mt f)=some [IV.str (RF.nm (PaX.f x)),iI (RF.a1 (PaX.f x)),iI (RF.a2 (PaX.f x)),iI (RF.a3 (PaX.f x)),iI (RF.a4 (PaX.f x)),IV.vslice none 0 (RF.n1 (PaX.f x)) 5 (RF.x1 (PaX.f x)),iI (RF.b1 (PaX.f x)),iI (RF.b2 (PaX.f x)),iI (RF.b3 (PaX.f x)),iI (RF.b4 (PaX.f x)),IV.vslice none 0 (RF.n2 (PaX.f x)) 5 (RF.x2 (PaX.f x)),IV.vslice none 0 (RF.n3 (PaX.f x)) 4 (RF.x3 (PaX.f x)),iI (RF.nv (PaX.f x)),iI (RF.ni (PaX.f x))]/\Heap.set (((PaX.g p).set 0 (IObj.cells (a2Q Y r6))).set 0 (IObj.cells (c3N e D iv A r y))) 0 (d4F z G V R K O)=PaX.g x/\(PaJ (PaX.k x) (IV.vslice zE ((14:Nat)*PaX.k x) (PaX.k x) 14 (List.flatMap bS (PaX.L x))) (PaX.g x)/\1<=PaX.k x/\PaL (PaX.L x) (PaX.k x)/\RuC (PaX.k x) (PaX.f x))/\(28:Nat)-PaX.k x<=M))) (∃(k:Nat)(f:RF)(g:Heap),(k<16/\IV.ptr 0 0=IV.ptr 0 0/\HBC k ((PaX.g p).set 0 (IObj.cells (a2Q Y r6))) g/\RuC k f)/\aI (decide ((RF.nm f).length=(1:Nat)) &&isD (bA (RF.nm f) 0)) (aJ g 0 fun r7=>aC (Nat.ble 5 r7.length) (∃(k:Nat)(X:RF),(d4E k f X)/\((∃(x:PaX),some gE=some gE/\some (gZ s)=some (gZ s)/\some iM=some iM/\some gD=some gD/\some (TV.v (PaX.v p))=some Tq/\some (To tk i)=tI (↑((dI (qI s) (st (PaX.k x)+1)).2):Int)/\some pE=some pE/\some fW=some fW/\some (Mt f)=some [IV.str (RF.nm (PaX.f x)),iI (RF.a1 (PaX.f x)),iI (RF.a2 (PaX.f x)),iI (RF.a3 (PaX.f x)),iI (RF.a4 (PaX.f x)),IV.vslice none 0 (RF.n1 (PaX.f x)) 5 (RF.x1 (PaX.f x)),iI (RF.b1 (PaX.f x)),iI (RF.b2 (PaX.f x)),iI (RF.b3 (PaX.f x)),iI (RF.b4 (PaX.f x)),IV.vslice none 0 (RF.n2 (PaX.f x)) 5 (RF.x2 (PaX.f x)),IV.vslice none 0 (RF.n3 (PaX.f x)) 4 (RF.x3 (PaX.f x)),iI (RF.nv (PaX.f x)),iI (RF.ni (PaX.f x))]/\Heap.set g 0 (d4H tk i r7)=PaX.g x/\(PaJ (PaX.k x) IV.nilslice (PaX.g x)/\PaX.k x=0/\RuC (PaX.k x) (PaX.f x))/\(28:Nat)-PaX.k x<=M) \/ ∃(x:PaX),some gE=some gE/\some (gZ s)=some (gZ s)/\some iM=some iM/\some gD=some gD/\some (TV.v (PaX.v p))=some (TV.v (.vslice zE ((14:Nat)*PaX.k x) (PaX.k x) 14 (List.flatMap bS (PaX.L x))))/\some (To tk i)=tI (↑((dI (qI s) (st (PaX.k x)+1)).2):Int)/\some pE=some pE/\some fW=some fW/\some (Mt f)=some [IV.str (RF.nm (PaX.f x)),iI (RF.a1 (PaX.f x)),iI (RF.a2 (PaX.f x)),iI (RF.a3 (PaX.f x)),iI (RF.a4 (PaX.f x)),IV.vslice none 0 (RF.n1 (PaX.f x)) 5 (RF.x1 (PaX.f x)),iI (RF.b1 (PaX.f x)),iI (RF.b2 (PaX.f x)),iI (RF.b3 (PaX.f x)),iI (RF.b4 (PaX.f x)),IV.vslice none 0 (RF.n2 (PaX.f x)) 5 (RF.x2 (PaX.f x)),IV.vslice none 0 (RF.n3 (PaX.f x)) 4 (RF.x3 (PaX.f x)),iI (RF.nv (PaX.f x)),iI (RF.ni (PaX.f x))]/\Heap.set g 0 (d4H tk i r7)=PaX.g x/\(PaJ (PaX.k x) (IV.vslice zE ((14:Nat)*PaX.k x) (PaX.k x) 14 (List.flatMap bS (PaX.L x))) (PaX.g x)/\1<=PaX.k x/\PaL (PaX.L x) (PaX.k x)/\RuC (PaX.k x) (PaX.f x))/\(28:Nat)-PaX.k x<=M))) (∃(k:Nat)(X:RF),(d4E k f X)/\((∃(x:PaX),some gE=some gE/\some (gZ s)=some (gZ s)/\some iM=some iM/\some gD=some gD/\some (TV.v (PaX.v p))=some Tq/\some (To tk i)=tI (↑((dI (qI s) (st (PaX.k x)+1)).2):Int)/\some pE=some pE/\some fW=some fW/\some (Mt f)=some [IV.str (RF.nm (PaX.f x)),iI (RF.a1 (PaX.f x)),iI (RF.a2 (PaX.f x)),iI (RF.a3 (PaX.f x)),iI (RF.a4 (PaX.f x)),IV.vslice none 0 (RF.n1 (PaX.f x)) 5 (RF.x1 (PaX.f x)),iI (RF.b1 (PaX.f x)),iI (RF.b2 (PaX.f x)),iI (RF.b3 (PaX.f x)),iI (RF.b4 (PaX.f x)),IV.vslice none 0 (RF.n2 (PaX.f x)) 5 (RF.x2 (PaX.f x)),IV.vslice none 0 (RF.n3 (PaX.f x)) 4 (RF.x3 (PaX.f x)),iI (RF.nv (PaX.f x)),iI (RF.ni (PaX.f x))]/\g=PaX.g x/\(PaJ (PaX.k x) IV.nilslice (PaX.g x)/\PaX.k x=0/\RuC (PaX.k x) (PaX.f x))/\(28:Nat)-PaX.k x<=M) \/ ∃(x:PaX),some gE=some gE/\some (gZ s)=some (gZ s)/\some iM=some iM/\some gD=some gD/\some (TV.v (PaX.v p))=some (TV.v (.vslice zE ((14:Nat)*PaX.k x) (PaX.k x) 14 (List.flatMap bS (PaX.L x))))/\some (To tk i)=tI (↑((dI (qI s) (st (PaX.k x)+1)).2):Int)/\some pE=some pE/\some fW=some fW/\some (Mt f)=some [IV.str (RF.nm (PaX.f x)),iI (RF.a1 (PaX.f x)),iI (RF.a2 (PaX.f x)),iI (RF.a3 (PaX.f x)),iI (RF.a4 (PaX.f x)),IV.vslice none 0 (RF.n1 (PaX.f x)) 5 (RF.x1 (PaX.f x)),iI (RF.b1 (PaX.f x)),iI (RF.b2 (PaX.f x)),iI (RF.b3 (PaX.f x)),iI (RF.b4 (PaX.f x)),IV.vslice none 0 (RF.n2 (PaX.f x)) 5 (RF.x2 (PaX.f x)),IV.vslice none 0 (RF.n3 (PaX.f x)) 4 (RF.x3 (PaX.f x)),iI (RF.nv (PaX.f x)),iI (RF.ni (PaX.f x))]/\g=PaX.g x/\(PaJ (PaX.k x) (IV.vslice zE ((14:Nat)*PaX.k x) (PaX.k x) 14 (List.flatMap bS (PaX.L x))) (PaX.g x)/\1<=PaX.k x/\PaL (PaX.L x) (PaX.k x)/\RuC (PaX.k x) (PaX.f x))/\(28:Nat)-PaX.k x<=M)))/\(∀(q:PaX)(b:FF),PaJ (PaX.k q) IV.nilslice (PaX.g q)/\PaX.k q=0/\RuC (PaX.k q) (PaX.f q)->(28:Nat)-PaX.k q<=M-> ∃(M:Nat),((b5J M s q IV.nilslice) \/b5L M s q IV.nilslice)/\(∀(l:PaX)(b:FF),PaJ (PaX.k l) IV.nilslice (PaX.g l)/\PaX.k l=0/\PaX.j l<=PaX.k l/\RuC (PaX.k l) (PaX.f l)->(100:Nat)*(V3 l)+(V4 l)<=M->gH (PaX.g l) 14 168 IV.nilslice 1 (Tm l) fun(i8 e9 c3:Nat)(a0:Y14)(b5:Heap)=> ∃(m:PaX),some gE=some gE/\some (gZ s)=some (gZ s)/\some iM=some iM/\some gD=some gD/\some (TV.v (.vslice (some i8) e9 c3 14 a0))=some (TV.v (PaX.v m))/\some fW=some fW/\b5=PaX.g m/\PaI (PaX.k m) (PaX.v m) (PaX.g m)/\(28:Nat)-PaX.k m<28-PaX.k x)/\∀(l:PaX)(b:FF),PaJ (PaX.k l) (Tn l) (PaX.g l)/\1<=PaX.k l/\PaL (PaX.L l) (PaX.k l)/\PaX.j l<=PaX.k l/\RuC (PaX.k l) (PaX.f l)->(100:Nat)*(V3 l)+(V4 l)<=M->aI (decide (c3Q l)) (aC (b5Q l) (W7 (List.flatMap bS (PaX.L l)) (((PaX.j l):Int).toNat*14+0) fun(d1:Y11)=>aI (d1==RF.nm (PaX.f l)) False ((b5K s l) \/b5M s l))) (aI (decide (((PaX.k l):Int)>=160)) False (gH (PaX.g l) 14 168 (Tn l) 1 (Tm l) fun(c0 a8 c4:Nat)(a5:Y14)(b6:Heap)=> ∃(m:PaX),some gE=some gE/\some (gZ s)=some (gZ s)/\some iM=some iM/\some gD=some gD/\some (TV.v (.vslice (some c0) a8 c4 14 a5))=some (TV.v (PaX.v m))/\some fW=some fW/\b6=PaX.g m/\PaI (PaX.k m) (PaX.v m) (PaX.g m)/\(28:Nat)-PaX.k m<28-PaX.k x)))/\∀(q:PaX)(b:FF),PaJ (PaX.k q) (c3P q) (PaX.g q)/\(1:Nat)<=PaX.k q/\PaL (PaX.L q) (PaX.k q)/\RuC (PaX.k q) (PaX.f q)->(28:Nat)-PaX.k q<=M-> ∃(M:Nat),((b5J M s q (c3P q)) \/b5L M s q (c3P q))/\(∀(l:PaX)(b:FF),PaJ (PaX.k l) IV.nilslice (PaX.g l)/\PaX.k l=0/\PaX.j l<=PaX.k l/\RuC (PaX.k l) (PaX.f l)->(100:Nat)*(V3 l)+(V4 l)<=M->gH (PaX.g l) 14 168 IV.nilslice 1 (Tm l) fun(c1 a9 c5:Nat)(a6:Y14)(b7:Heap)=> ∃(m:PaX),some gE=some gE/\some (gZ s)=some (gZ s)/\some iM=some iM/\some gD=some gD/\some (TV.v (.vslice (some c1) a9 c5 14 a6))=some (TV.v (PaX.v m))/\some fW=some fW/\b7=PaX.g m/\PaI (PaX.k m) (PaX.v m) (PaX.g m)/\(28:Nat)-PaX.k m<28-PaX.k x)/\∀(l:PaX)(b:FF),PaJ (PaX.k l) (Tn l) (PaX.g l)/\(1:Nat)<=PaX.k l/\PaL (PaX.L l) (PaX.k l)/\PaX.j l<=PaX.k l/\RuC (PaX.k l) (PaX.f l)->(100:Nat)*(V3 l)+(V4 l)<=M->aI (decide (c3Q l)) (aC (b5Q l) (W7 (List.flatMap bS (PaX.L l)) (((PaX.j l):Int).toNat*14+0) fun(d2:Y11)=>aI (d2==RF.nm (PaX.f l)) False ((b5K s l) \/b5M s l))) (aI (decide (((PaX.k l):Int)>=160)) False (gH (PaX.g l) 14 168 (Tn l) 1 (Tm l) fun(c2 b0 c6:Nat)(a7:Y14)(b9:Heap)=> ∃(m:PaX),some gE=some gE/\some (gZ s)=some (gZ s)/\some iM=some iM/\some gD=some gD/\some (TV.v (.vslice (some c2) b0 c6 14 a7))=some (TV.v (PaX.v m))/\some fW=some fW/\b9=PaX.g m/\PaI (PaX.k m) (PaX.v m) (PaX.g m)/\(28:Nat)-PaX.k m<28-PaX.k x)))) (b5N x)) (b5N x))/\∀(x:PaX)(b:FF),PaE (PaX.L x) (PaX.g x)->aJ (PaX.g x) 0 fun d0=>aG .i64 d0 3 fun c7=>aI (c7 !=0) (aJ (PaX.g x) 0 fun Z=>aG .i64 Z 3 fun c8=>aG .i64 Z 4 fun c9=>Q (.tuple [.vslice none 0 0 14 [],IV.agg [.int .i64 c8,iI c9]]) h) (aC (aP [IV.vslice none 0 ((PaX.L x).length) 14 (List.flatMap bS (PaX.L x)),IV.agg fW]) (Q (.tuple [.vslice none 0 ((PaX.L x).length) 14 (List.flatMap bS (PaX.L x)),IV.agg fW]) h)))):=by kernel_rfl
theorem d7S: ∀xs h Q,a7J xs h Q->aL env 51 xs h Q:=by
 intro xs h Q hk;unfold a7J at hk;split at hk
 ·rename_i s;obtain⟨hs,hk⟩:=hk;refine aN (a9W) (d9K s h Q) ?_;delta b5H b5I b5J b5K b5L b5M b5N gZ Mt Tm fW iM gD qI gE d4D d4E Tn pE a2Q c3N c3O To c3P Tp zE d4F c3Q d4G d4H d4I Tq d4J Yy V3 b5O b5P V4 b5Q tI wW iI;have tn: ∀x:Nat,(x:Int).toNat=x:=AK
  have hT:lJ s (s.length+1) 0=(W0,-1):=by
   rw [hs,show kTx.length+1=869 from congrArg (· +1) Vi];exact c9E
  have K:(lJ s (s.length+1) 0).1=W0:=by rw [hT]
  have a4:(lJ s (s.length+1) 0).2= -1:=by rw [hT]
  have hl:s.length=868:=by rw [hs];exact Vi
  have hn:(lJ s (s.length+1) 0).1.length=270:=by rw [K];exact Et
  have a3: ∀x:Nat,x<=100000->IntKind.i64.wrap ((x:Int)+1)=((x+1:Nat):Int):=fun x hx=>by rw [AF _ JF];rfl
  have a2: ∀k,k<28->st k+1<270:=fun k h=>(kf h).1.2.2.1
  have a8:=Et;refine gO (fun c=>absurd c JF) (fun _=>⟨⟨JF,by rw [K];exact c9F,a4⟩,gO (fun c=>absurd c JF) (fun _=>⟨_,JJ,JJ,by rw [a4],JJ,JJ,rfl,?_,JJ⟩),?_⟩)
  ·have h0:Heap.mk (PT.node PT.nil (some (IObj.cells [IV.vslice none 0 (lJ s (s.length+1) 0).1.length 2 ((lJ s (s.length+1) 0).1.flatMap vA),.int .i64 0,.int .i64 (s.length:Int),.int .i64 0,.int .i64 0,.str [],.str [],.bool false])) PT.nil) (0+1)=hH 0:=by
    rw [K,hl];rfl
   exact⟨JG,fun _=>h0,by rw [h0];exact c7Z 0,⟨.inl ⟨rfl,rfl⟩⟩⟩
  rintro g _ y;refine⟨⟨⟨⟨0,0,.nilslice,g,R8 r0,[],false⟩,JJ,JJ,JJ,JJ,JJ,JJ,rfl,y,JJ⟩,?_⟩,?_⟩
  rotate_left
  ·rintro⟨k,j,v,g,f,L,b⟩ _ hE;dsimp only at hE⊢;refine aD hE.g0 (bB rfl (aB (fun c=>by cases c) (fun _=>aA (by simp only [aP,bG,mU,AL]) (hk L hE.e))))
  rintro⟨k,j,v,g,f,L,b⟩ _ y;dsimp only at y⊢;refine aD y.g0 (bB rfl (aB (fun _=>?_) (fun c=>by cases c)));refine aD y.g0 (bB rfl (gO (fun c=>?_) (fun c=>?_)))
  rotate_left
  ·have q:k=28:=Classical.byContradiction (fun e=>by
    have:=a2 k (by have:=y.le;omega);omega)
   subst q;refine⟨⟨28,0,v,g,f,cC,b⟩,JJ,JJ,?_,JJ,JJ,⟨rfl,y.g0⟩,JJ⟩;rcases y.vv.e with⟨c,_⟩| ⟨_,e,_⟩
   ·cases c
   ·rw [e];rfl
  have q:k<28:=Nat.lt_of_le_of_ne y.le (fun e=>by
   rw [e,hn]at c;exact absurd c JG)
  have a5:=a2 k q;refine⟨W0,st k,868,Kb k,[],false,y.g0,⟨JF,JF⟩,28-k,?_,?_⟩
  ·refine aB (fun c1=>?_) (fun c1=>⟨⟨k,j,v,g,f,L,decide (16<=k)⟩,JJ,JJ,JJ,JJ,JJ,by rw [(kf q).1.1],JJ,JJ,⟨y,q,JJ⟩,JK⟩);have r:k<16:=Classical.byContradiction (fun e=>by
    rw [(kf q).1.1,decide_eq_true JF]at c1
    cases c1)
   exact⟨W0,st k,868,Kb k,[],false,y.g0,⟨JF,JF⟩,aB (fun c2=>by
    rw [(kf q).1.2.1 r]at c2
    cases c2) (fun _=>⟨⟨k,j,v,g,f,L,decide (16<=k)⟩,JJ,JJ,JJ,JJ,JJ,by rw [(kf q).1.1],JJ,JJ,⟨y,q,JJ⟩,JK⟩)⟩
  clear y a5;rintro⟨k1,j1,v1,g1,f1,L1,b1⟩ _ ⟨y,A,a0⟩ a6;dsimp only at y A a0 a6⊢;have a5:=a2 k1 A;have Z:=(kf A).1.2.2.2;refine aD y.g0 (bB rfl (aD y.g0 (aA rfl ?_)));rw [a3 _ JF];refine⟨W0,st k1+1,868,Kb k1,[],false,rfl,⟨JF,JF⟩,28-k1,?_,?_,?_⟩
  ·refine aB (fun c1=>?_) (fun c1=>?_)
   ·have r:16<=k1:=of_decide_eq_true (a0.symm.trans c1);obtain⟨x1,x2,x3,x4,x5⟩:=(kf A).2.1 r;refine⟨W0,st k1+1,868,Kb k1,[],false,rfl,⟨JF,JF⟩,aB (fun d=>?_) (fun _=>⟨W0,st k1+2,868,Kb k1,[],false,rfl,⟨JF,x2,JF⟩,k1,R8 (kR k1),⟨r,A,d8K k1,by rw [x1,(d8K k1).nm]⟩,.inr ⟨⟨k1,0,v1,_,R8 (kR k1),cC.take k1,b1⟩,JJ,JJ,JJ,JJ,by rw [(y.axm (c1:= .cells []) (c2:= .cells []) A r rfl).1],by dsimp only;rw [K],JJ,JJ,JJ,rfl,⟨(y.axm A r (by rw [x4,x5];rfl)).2,CW JG r,⟨rfl⟩,d8K k1⟩,AG _⟩⟩)⟩;rw [x1,decide_eq_false Z,BM]at d
    cases d
   ·have r:k1<16:=by
     have:=of_decide_eq_false (a0.symm.trans c1);omega
    have hg:=y.hh r;refine⟨k1,R8 (kR k1),hC k1,⟨r,JJ,⟨by rw [hg];exact c8A k1,rfl⟩,d8K k1⟩,aB (fun d=>?_) (fun _=>⟨k1,R8 (kR k1),⟨r,d8K k1,rfl⟩,?_⟩)⟩
    ·rw [(d8K k1).nm,decide_eq_false Z,BM]at d
     cases d
    ·rcases y.vv.e with⟨c,e⟩| ⟨c,e,_⟩
     ·subst c;exact .inl ⟨⟨0,0,v1,_,R8 (kR 0),[],b1⟩,JJ,JJ,JJ,JJ,by rw [e],by dsimp only;rw [K],JJ,JJ,JJ,rfl,⟨⟨A,fun _=>rfl,a6I 0,⟨.inl ⟨rfl,rfl⟩⟩⟩,JJ,d8K 0⟩,JK⟩
     ·exact .inr ⟨⟨k1,0,v1,_,R8 (kR k1),cC.take k1,b1⟩,JJ,JJ,JJ,JJ,by rw [e],by dsimp only;rw [K],JJ,JJ,JJ,rfl,⟨⟨A,fun _=>rfl,a6I k1,⟨.inr ⟨c,rfl,c7Y c r⟩⟩⟩,c,⟨rfl⟩,d8K k1⟩,JK⟩
  ·clear y Z;rintro⟨k2,j2,v2,g2,f2,L2,b2⟩ _ ⟨hJ,O,hf⟩ a1;dsimp only at hJ O hf a1⊢;subst O;refine⟨2800,.inl ⟨⟨0,0,v2,g2,f2,L2,b2⟩,JJ,JJ,JJ,JJ,JJ,JJ,JJ,JJ,JJ,JJ,JJ,⟨hJ,JJ,AG 0,hf⟩,JK⟩,?_,?_⟩
   ·rintro⟨k3,j3,v3,g3,Y,V,X⟩ _ ⟨l,p,D,m⟩ G;dsimp only at l p D m G⊢;subst p;exact⟨JG,⟨⟨1,0,_,_,Y,V,X⟩,JJ,JJ,JJ,JJ,rfl,JJ,rfl,l.app0 m,JK⟩⟩
   ·rintro⟨k3,j3,v3,g3,Y,V,X⟩ _ ⟨l,p,z,D,m⟩ G;dsimp only at l p z D m G⊢;have R:=l.lt;refine gO (fun c=>?_) (fun c=>?_)
    ·refine aA (by simp;omega) (a0M (by rw [tn,z.e];exact Xu JF JF) ?_);refine aB (fun d=>?_) (fun _=> .inr ⟨⟨k3,j3+1,.nilslice,g3,Y,V,X⟩,JJ,JJ,JJ,JJ,JJ,JJ,JJ,by rw [a3 _ JF],JJ,JJ,JJ,⟨l,p,z,by show j3+1<=k3;omega,m⟩,JK⟩)
     ·have:=(kf R).2.2 j3 JF;rw [<-m.nm,d]at this
      cases this
    ·refine gO (fun c=>absurd c JF) (fun _=>?_);exact⟨⟨rfl,JF,l.tip p⟩,⟨⟨k3+1,0,_,_,Y,V,X⟩,JJ,JJ,JJ,JJ,rfl,JJ,rfl,by rw [z.e];exact l.app p m,JK⟩⟩
  ·clear y Z;rintro⟨k2,j2,v2,g2,f2,L2,b2⟩ _ ⟨hJ,O,hL,hf⟩ a1;dsimp only at hJ O hL hf a1⊢;have a7:=hJ.lt;refine⟨(28-k2)*100+k2,.inr ⟨⟨k2,0,v2,g2,f2,L2,b2⟩,JJ,JJ,JJ,JJ,JJ,JJ,JJ,JJ,JJ,JJ,JJ,⟨hJ,O,hL,JK,hf⟩,JK⟩,?_,?_⟩
   ·rintro⟨k3,j3,v3,g3,Y,V,X⟩ _ ⟨l,p,D,m⟩ G;dsimp only at l p D m G⊢;subst p;exact⟨JG,⟨⟨1,0,_,_,Y,V,X⟩,JJ,JJ,JJ,JJ,rfl,JJ,rfl,l.app0 m,JK⟩⟩
   ·rintro⟨k3,j3,v3,g3,Y,V,X⟩ _ ⟨l,p,z,D,m⟩ G;dsimp only at l p z D m G⊢;have R:=l.lt;refine gO (fun c=>?_) (fun c=>?_)
    ·refine aA (by simp;omega) (a0M (by rw [tn,z.e];exact Xu JF JF) ?_);refine aB (fun d=>?_) (fun _=> .inr ⟨⟨k3,j3+1,.nilslice,g3,Y,V,X⟩,JJ,JJ,JJ,JJ,JJ,JJ,JJ,by rw [a3 _ JF],JJ,JJ,JJ,⟨l,p,z,by show j3+1<=k3;omega,m⟩,JK⟩)
     ·have:=(kf R).2.2 j3 JF;rw [<-m.nm,d]at this
      cases this
    ·refine gO (fun c=>absurd c JF) (fun _=>?_);exact⟨⟨rfl,JF,l.tip p⟩,⟨⟨k3+1,0,_,_,Y,V,X⟩,JJ,JJ,JJ,JJ,rfl,JJ,rfl,by rw [z.e];exact l.app p m,JK⟩⟩
 ·exact hk.elim
def a4S:=aV 51 a7J a5E
theorem a9L:aO env a4S:=aF d7S (a9W)
def Qh(xs:Y14)(h:Heap)(K:KT):Prop:=match xs with
 | [.str s]=>s=kTx/\∀L:List Ru,L=cC->K (.tuple [.vslice none 0 L.length 14 (L.flatMap bS),.agg [.int .i64 0,.int .i64 0]]) h
 |_=>False
theorem d2M(s:Y11)(h:Heap)(Q:KT):dF (aR a4S) env 24 cS bK bK [.str s] h Q=(
 s=kTx/\∀(L:List Ru),L=cC->aC (aP [IV.vslice none 0 L.length 14 (List.flatMap bS L),IV.agg [.int .i64 0,iI 0]]) (Q (.tuple [.vslice none 0 L.length 14 (List.flatMap bS L),IV.agg [.int .i64 0,iI 0]]) h)):=by kernel_rfl
theorem d0Y: ∀xs h Q,Qh xs h Q->aL env 24 xs h Q:=by
 intro xs h Q g;unfold Qh at g;split at g
 ·rename_i s;obtain⟨j,g⟩:=g;refine aN (a9L) (d2M s h Q) ?_;delta iI;exact⟨j,fun L hL=>aA (by simp only [aP,bG,mU,AL]) (g L hL)⟩
 ·exact g.elim
def a4T:=aV 24 Qh a4S
theorem c0B:aO env a4T:=aF d0Y (a9L)
structure SrX where
 k:Nat
 o:List Ru
 v:IV
 g:Heap
 L:List Ru
def srA(m:Int):Inv':=eA SrX (fun x=>[(0,.v (.int .i64 m)),(3,.v (.vslice none 0 x.L.length 14 (x.L.flatMap bS))),(5,.v x.v),(6,.v (.int .i64 (x.k:Int)))]) (fun _=>[]) (fun x=>x.g) (fun x=>SrI x.k x.o x.v x.g x.L) (fun x=>28-x.k)
def srB:Inv':= .or (atP True [(5,.v .nilslice)] [] (Heap.mk PT.nil 0)) (eA (List Ru) (fun o=>[(5,.v (.vslice (some 0) (14*o.length) o.length 14 (o.flatMap bS)))]) (fun _=>[]) (fun o=>(Heap.mk PT.nil 0).push (.tip (14*o.length))) (fun o=>SrE o) (fun _=>0))
def Qq(xs:Y14)(h:Heap)(K:KT):Prop:=match xs with
 | [.int .i64 m]=>aU m/\∀rl:List Ru,(∀r∈rl,r∈cC)->rl.length<=28->K (.vslice none 0 rl.length 14 (rl.flatMap bS)) h
 |_=>False
def z7a(m:Int):=TV.v (.int .i64 m)
theorem d2Y(m:Int)(h:Heap)(Q:KT):dF (aR a4T) env 7 cS (oE 5 (srA m)) (oE 9 srB) [.int .i64 m] h Q=(
 kTx=kTx/\∀(L:List Ru),L=cC->((∃(x:SrX),some (z7a m)=some (z7a m)/\some (TV.v (.vslice none 0 L.length 14 (List.flatMap bS L)))=some (TV.v (.vslice none 0 ((SrX.L x).length) 14 (List.flatMap bS (SrX.L x))))/\some (TV.v IV.nilslice)=some (TV.v (SrX.v x))/\tI 0=tI ((SrX.k x):Int)/\Heap.mk PT.nil 0=SrX.g x/\SrI (SrX.k x) (SrX.o x) (SrX.v x) (SrX.g x) (SrX.L x)/\True)/\∀(x:SrX)(b:FF),SrI (SrX.k x) (SrX.o x) (SrX.v x) (SrX.g x) (SrX.L x)->aI (decide (((SrX.k x):Int)< (↑((SrX.L x).length):Int))) (aI (cW .i64 (Int.fdiv m ((2:Int) ^min ((IntKind.wrap .u64 ((SrX.k x):Int)).toNat) 64)) 1==1) (aC (decide (0<=((SrX.k x):Int)) &&decide (((SrX.k x):Int)< (↑((SrX.L x).length):Int))) (W7 (List.flatMap bS (SrX.L x)) (((SrX.k x):Int).toNat*14) fun(s0:Y11)=>aG .i64 (List.flatMap bS (SrX.L x)) (((SrX.k x):Int).toNat*14+1) fun n1=>aG .i64 (List.flatMap bS (SrX.L x)) (((SrX.k x):Int).toNat*14+1+1) fun n2=>aG .i64 (List.flatMap bS (SrX.L x)) (((SrX.k x):Int).toNat*14+1+1+1) fun n3=>aG .i64 (List.flatMap bS (SrX.L x)) (((SrX.k x):Int).toNat*(14:Nat)+1+1+1+1) fun n4=>aZ 5 (List.flatMap bS (SrX.L x)) (((SrX.k x):Int).toNat*14+1+1+1+1+1) fun(i5:Y10)(e6 l7:Nat)(Y:Y14)=>aG .i64 (List.flatMap bS (SrX.L x)) (((SrX.k x):Int).toNat*14+1+1+1+1+1+1) fun n9=>aG .i64 (List.flatMap bS (SrX.L x)) (((SrX.k x):Int).toNat*14+1+1+1+1+1+(1:Nat)+1) fun K=>aG .i64 (List.flatMap bS (SrX.L x)) (((SrX.k x):Int).toNat*14+1+1+1+1+1+1+1+1) fun O=>aG .i64 (List.flatMap bS (SrX.L x)) (((SrX.k x):Int).toNat*14+1+1+1+1+1+1+1+1+1) fun R=>aZ 5 (List.flatMap bS (SrX.L x)) (((SrX.k x):Int).toNat*14+1+1+1+1+(1:Nat)+1+1+1+1+1) fun(a1:Y10)(Z A:Nat)(l:Y14)=>aZ 4 (List.flatMap bS (SrX.L x)) (((SrX.k x):Int).toNat*14+1+1+1+1+1+1+1+(1:Nat)+1+1+1) fun(a2:Y10)(a0 D:Nat)(p:Y14)=>aG .i64 (List.flatMap bS (SrX.L x)) (((SrX.k x):Int).toNat*14+1+1+1+1+1+1+1+1+1+(1:Nat)+1+1) fun V=>aG .i64 (List.flatMap bS (SrX.L x)) (((SrX.k x):Int).toNat*14+1+1+1+1+1+1+1+1+1+1+1+1+1) fun(X:Int)=>gH (SrX.g x) 14 168 (SrX.v x) 1 [IV.str s0,iI n1,iI n2,iI n3,iI n4,IV.vslice none 0 l7 5 Y,iI n9,iI K,iI O,iI R,IV.vslice none 0 A 5 l,IV.vslice none 0 D 4 p,iI V,iI X] fun(z r G:Nat)(q:Y14)(y:Heap)=> ∃(j:SrX),some (z7a m)=some (z7a m)/\some (TV.v (.vslice none 0 ((SrX.L x).length) 14 (List.flatMap bS (SrX.L x))))=some (TV.v (.vslice none 0 ((SrX.L j).length) 14 (List.flatMap bS (SrX.L j))))/\some (TV.v (.vslice (some z) r G 14 q))=some (TV.v (SrX.v j))/\tI (wW (((SrX.k x):Int)+1))=tI ((SrX.k j):Int)/\y=SrX.g j/\SrI (SrX.k j) (SrX.o j) (SrX.v j) (SrX.g j) (SrX.L j)/\(28:Nat)-SrX.k j<28-SrX.k x)) (∃(j:SrX),some (z7a m)=some (z7a m)/\some (TV.v (.vslice none 0 ((SrX.L x).length) 14 (List.flatMap bS (SrX.L x))))=some (TV.v (.vslice none 0 ((SrX.L j).length) 14 (List.flatMap bS (SrX.L j))))/\some (TV.v (SrX.v x))=some (TV.v (SrX.v j))/\tI (wW (((SrX.k x):Int)+1))=tI ((SrX.k j):Int)/\SrX.g x=SrX.g j/\SrI (SrX.k j) (SrX.o j) (SrX.v j) (SrX.g j) (SrX.L j)/\(28:Nat)-SrX.k j<28-SrX.k x)) (some (TV.v (SrX.v x))=some (TV.v IV.nilslice)/\SrX.g x=Heap.mk PT.nil 0/\True/\True\/ ∃(j:List Ru),some (TV.v (SrX.v x))=some (TV.v (.vslice (some (0:Nat)) ((14:Nat)*j.length) j.length 14 (List.flatMap bS j)))/\SrX.g x=Heap.mk (PT.node PT.nil (some (IObj.tip ((14:Nat)*j.length))) PT.nil) 1/\SrE j/\True))/\(∀(x:Unit)(b:FF),True->Q (.vslice none 0 0 14 []) h)/\∀(x:List Ru)(b:FF),SrE x->aC (aP [IV.vslice none 0 x.length 14 (List.flatMap bS x)]) (Q (.vslice none 0 x.length 14 (List.flatMap bS x)) h)):=by kernel_rfl
theorem d1H: ∀xs h Q,Qq xs h Q->aL env 7 xs h Q:=by
 intro xs h Q z;unfold Qq at z;split at z
 ·rename_i m;obtain⟨V,z⟩:=z;refine aN (c0B) (d2Y m h Q) ?_;delta z7a tI wW iI;have tn: ∀x:Nat,(x:Int).toNat=x:=AK
  have A: ∀x:Nat,x<=100000->IntKind.i64.wrap ((x:Int)+1)=((x+1:Nat):Int):=fun x hx=>by rw [AF _ JF];rfl
  refine⟨JJ,fun L hL=>⟨⟨⟨⟨0,[],.nilslice,_,L⟩,JJ,JJ,JJ,JJ,rfl,⟨BE _,AG _,fun r h=>(by cases h),hL,.inl ⟨rfl,rfl,rfl⟩⟩,JJ⟩,?_⟩,fun _ _ _=>z [] (fun r h=>by cases h) JG,fun o _ R=>aA (by simp only [aP,bG,mU,AL]) (z o R.ok R.ol)⟩⟩;rintro⟨k,o,v,g,p⟩ _ q;dsimp only at q⊢;have X:p.length=28:=by rw [q.e];rfl
  have a0:=q.le;have a1:=q.ol;refine gO (fun c=>?_) (fun c=>?_)
  ·have y:k<p.length:=JF;refine aB (fun _=>aA (by simp;omega) ?_) (fun _=>⟨⟨k+1,o,v,g,p⟩,JJ,JJ,JJ,by rw [A _ JF],JJ,⟨JK,JK,q.ok,q.e,q.vv⟩,JK⟩);have V:p[k] ∈cC:=by
    have h:=AH y;generalize p[k]=r at h⊢
    rwa [q.e]at h
   have G:=b0O p[k];have l: ∀j,j<14->(p.flatMap bS)[k*14+j]?=(R8 p[k]).c[j]?:=fun j hj=>by rw [Cs y hj,G]
   rw [tn];refine a0M (l 0 JG) ?_;refine bB (l 1 JG) (bB (l 2 JG) (bB (l 3 JG) (bB (l 4 JG) (bM (l 5 JG) (bB (l 6 JG) (bB (l 7 JG) (bB (l 8 JG) (bB (l 9 JG) (bM (l 10 JG) (bM (l 11 JG) (bB (l 12 JG) (bB (l 13 JG) ?_))))))))))));have fin: ∀(e:Nat)(c:Y14)(K:Heap),e=14*(o++ [p[k]]).length->c=(o++ [p[k]]).flatMap bS->K=(Heap.mk PT.nil 0).push (.tip (14*(o++ [p[k]]).length))->SrI (k+1) (o++ [p[k]]) (.vslice (some 0) e (o.length+1) 14 c) K p:=fun e c K Z Y hg=>⟨JF,by rw [AJ,List.length_singleton];omega,fun r D=>by
    rcases BU.1 D with D|D
    ·exact q.ok r D
    ·rw [BN.1 D];exact V,q.e,.inr ⟨JH,by rw [Z,Y,AJ,List.length_singleton],hg⟩⟩
   have O: ∀o:List Ru,(o++ [p[k]]).flatMap bS=o.flatMap bS++(R8 p[k]).c:=fun o=>by rw [CG,List.flatMap_singleton,G]
   rcases q.vv with⟨rfl,rfl,rfl⟩| ⟨ho,rfl,rfl⟩
   ·exact⟨JG,⟨⟨k+1,[p[k]],_,_,p⟩,JJ,JJ,rfl,by rw [A _ JF],rfl,fin _ _ _ rfl (O []).symm rfl,JK⟩⟩
   ·exact⟨⟨rfl,JF,rfl⟩,⟨⟨k+1,o++ [p[k]],_,_,p⟩,JJ,JJ,rfl,by rw [A _ JF],rfl,fin _ _ _ (by rw [AJ,List.length_singleton];omega) (O o).symm (by rw [AJ,List.length_singleton,Nat.mul_add];rfl),JK⟩⟩
  ·rcases q.vv with⟨rfl,rfl,rfl⟩| ⟨ho,rfl,rfl⟩
   ·exact .inl ⟨JJ,JJ,JJ,JJ⟩
   ·exact .inr ⟨o,JJ,JJ,⟨JF,q.ok⟩,JJ⟩
 ·exact z.elim
end Go.Proofs.YthimicfahhgpcaaGreat
end
end
