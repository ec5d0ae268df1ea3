/-
  Texts of this proof, one after the other.
  Conditions: none.
-/
import Derived.Test.YthimicfahhgpcaaGreatW25
set_option linter.unusedVariables false
set_option linter.unusedSimpArgs false
set_option maxRecDepth 100000
set_option maxHeartbeats 4000000
noncomputable section
variable{i j k m n b q:Nat}{x y z u w:Int}{h g:Go.Pv.Heap}{d l:List Go.Pv.IV}{A B C:List Go.M15.Nd}{K L:Y12}{p s t:Go.Pv.IV}{F:List Go.M10.E}{D:Go.Pv.Meta}{V W:List Go.Value}{U:Go.TypeId}{o:Bool}{X Y:Go.Value}{r e:Y11}{O:Go.Oper}{N:Y10}{H:Array Go.Value}
section
namespace Go.Proofs.YthimicfahhgpcaaGreat
open Go.Pv Go.M13 Go.M15 Go.M10 Go.M14 Go.M23
def O3(xs:Y14)(h:Heap)(K:KT):Prop:=match xs with
 | []=>K rls h
 |_=>False
theorem b0Y: ∀xs h Q,O3 xs h Q->aL env 33 xs h Q:=by
 intro xs h Q g;unfold O3 at g;split at g
 ·exact exR Q h g
 ·exact g.elim
def Hh:=aV 33 O3 c4R
theorem a0Y:aO env Hh:=aF b0Y (c9Y)
def Dx(xs:Y14)(h:Heap)(K:KT):Prop:=match xs with
 | [r,i,l,n,s]=> ∃b:Bool,XSt r i l n s b/\K (.bool b) h
 |_=>False
theorem c0P: ∀xs h Q,Dx xs h Q->aL env 32 xs h Q:=by
 intro xs h Q g;unfold Dx at g;split at g
 ·rename_i r i l n s;obtain⟨b,j,g⟩:=g
  cases j
  ·exact e1X _ _ g
  ·exact e1Y _ _ g
  ·exact e1Z _ _ g
  ·exact e2A _ _ g
  ·exact e2B _ _ g
 ·exact g.elim
def Ub:=aV 32 Dx Hh
theorem a8T:aO env Ub:=aF c0P (a0Y)
def O2(xs:Y14)(h:Heap)(K:KT):Prop:=match xs with
 | [r,i,l,p]=> ∃b:Bool,XPr r i l p b/\K (.bool b) h
 |_=>False
theorem b0X: ∀xs h Q,O2 xs h Q->aL env 9 xs h Q:=by
 intro xs h Q g;unfold O2 at g;split at g
 ·rename_i r i l p;obtain⟨b,j,g⟩:=g
  cases j
  ·exact e1W _ _ g
  ·exact e1V _ _ g
 ·exact g.elim
def K4:=aV 9 O2 Ub
theorem An:aO env K4:=aF b0X (a8T)
def a7N(xs:Y14)(h:Heap)(K:KT):Prop:=match xs with
 | []=>K (.bool true) h
 |_=>False
def d3G:=[iI 2,iI 0,IV.vslice none 0 0 1 [],iI 1,iI 5,IV.vslice none 0 0 1 [],iI 4,iI 0,IV.vslice none 0 2 1 [iI 0,iI 1],iI 4,iI 0,IV.vslice none 0 2 1 [iI 1,iI 0],iI 1,iI 0,IV.vslice none 0 0 1 [],iI 16,iI 0,IV.vslice none 0 2 1 [iI 1,iI 4],iI 1,iI 1,IV.vslice none 0 0 1 [],iI 16,iI
 0,IV.vslice none 0 2 1 [iI 0,iI 4]]
def b3F:=IV.vslice none 0 2 14 [IV.str [116,117,114,110],iI 0,iI 4,iI 0,iI 0,IV.vslice none 0 2 5 [iI 1,iI 0,iI 0,iI 0,IV.vslice none 0 0 5 [],iI 2,iI 0,iI 0,iI 0,IV.vslice none 0 0 5 []],iI 0,iI 4,iI 0,iI 0,IV.vslice none 0 2 5 [iI 2,iI 0,iI 0,iI 0,IV.vslice none 0 0 5 [],iI 1,iI
 0,iI 0,iI 0,IV.vslice none 0 0 5 []],IV.vslice none 0 0 4 [],iI 2,iI 0,IV.str [111,110,101],iI 0,iI 16,iI 0,iI 0,IV.vslice none 0 2 5 [iI 1,iI 0,iI 0,iI 0,IV.vslice none 0 0 5 [],iI 0,iI 1,iI 0,iI 0,IV.vslice none 0 0 5 []],iI 0,iI 1,iI 1,iI 0,IV.vslice none 0 0 5 [],IV.vslice
 none 0 1 4 [iI 1,iI 1,iI 0,iI 0],iI 1,iI 0]
def c2V:=[iI 2,iI 3,iI 1,IV.vslice none 0 2 1 [iI 0,iI 1],IV.vslice none 0 0 1 []]
def Lj:=IV.vslice none 0 0 3 []
def Lk:=IV.vslice none 0 0 1 []
def a2J:=IV.vslice none 0 8 3 d3G
def d3H:=IV.agg [.vslice none 0 8 3 d3G,IV.vslice none 0 1 5 c2V,iI 3,iI 2]
def c2W:=IV.vslice none 0 0 14 []
def Sx:=IV.bool false
theorem d9N(h:Heap)(Q:KT):dF (aR K4) env 11 cS bK bK [] h Q=(
 ∃(b:Bool),XSt b3F Lj Lk a2J (IV.agg c2V) b/\aI b (∃(b:Bool),XSt b3F Lj Lk a2J (IV.agg [.int .i64 5,iI 6,iI 2,IV.vslice none 0 1 1 [iI 1],IV.vslice none 0 0 1 []]) b/\aI b (∃(b:Bool),XSt c2W Lj Lk a2J (IV.agg [.int .i64 5,iI 6,iI (-1),IV.vslice none 0 0 1 [],IV.vslice none 0 0 1 []]) b/\aI b (∃(b:Bool),XSt b3F Lj Lk a2J (IV.agg [.int .i64 7,iI 6,iI 2,IV.vslice none 0 1 1 [iI 0],IV.vslice none 0 0 1 []]) b/\aI (!b) (∃(b:Bool),XSt c2W Lj Lk a2J (IV.agg c2V) b/\aI (!b) (∃(b:Bool),XPr b3F Lj Lk d3H b/\aI b (∃(b:Bool),XPr c2W Lj Lk d3H b/\Q (.bool !b) h) (Q Sx h)) (Q Sx h)) (Q Sx h)) (Q Sx h)) (Q Sx h)) (Q Sx h)):=by kernel_rfl
theorem d7W: ∀xs h Q,a7N xs h Q->aL env 11 xs h Q:=by
 intro xs h Q g;unfold a7N at g;split at g
 ·skip
  refine aN (An) (d9N h Q) ?_;delta d3G b3F c2V Lj Lk a2J d3H c2W Sx iI;refine⟨true,.a,aB (fun _=>?_) (fun c=>by cases c)⟩;refine⟨true,.b,aB (fun _=>?_) (fun c=>by cases c)⟩;refine⟨true,.c,aB (fun _=>?_) (fun c=>by cases c)⟩;refine⟨false,.d,aB (fun _=>?_) (fun c=>by cases c)⟩;refine⟨false,.e,aB (fun _=>?_) (fun c=>by cases c)⟩;refine⟨true,.p,aB (fun _=>?_) (fun c=>by cases c)⟩;exact⟨false,.n,g⟩
 ·exact g.elim
def c4Q:=aV 11 a7N K4
theorem c9X:aO env c4Q:=aF d7W (An)
def Ep(xs:Y14)(h:Heap)(K:KT):Prop:=match xs with
 | [x]=>Qq [x] h K
 |_=>False
theorem c1E: ∀xs h Q,Ep xs h Q->aL env 7 xs h Q:=by
 intro xs h Q g;unfold Ep at g;split at g
 ·exact d1H _ _ _ g
 ·exact g.elim
def Uf:=aV 7 Ep c4Q
theorem a9R:aO env Uf:=aF c1E (c9X)
def Pr(xs:Y14)(h:Heap)(K:KT):Prop:=match xs with
 | [x,y,z]=>Vh [x,y,z] h K
 |_=>False
theorem d0L: ∀xs h Q,Pr xs h Q->aL env 8 xs h Q:=by
 intro xs h Q g;unfold Pr at g;split at g
 ·exact c5V _ _ _ g
 ·exact g.elim
def a3X:=aV 8 Pr Uf
theorem b9V:aO env a3X:=aF d0L (a9R)
def a6P(xs:Y14)(h:Heap)(K:KT):Prop:=match xs with
 | [x,y,z,w]=>c8Q [x,y,z,w] h K
 |_=>False
theorem d6Y: ∀xs h Q,a6P xs h Q->aL env 9 xs h Q:=by
 intro xs h Q g;unfold a6P at g;split at g
 ·exact e3H _ _ _ g
 ·exact g.elim
def c4M:=aV 9 a6P a3X
theorem c9T:aO env c4M:=aF d6Y (b9V)
def Qz(xs:Y14)(h:Heap)(K:KT):Prop:=match xs with
 | [x,y,z]=>Vj [x,y,z] h K
 |_=>False
theorem d1P: ∀xs h Q,Qz xs h Q->aL env 10 xs h Q:=by
 intro xs h Q g;unfold Qz at g;split at g
 ·exact c5Y _ _ _ g
 ·exact g.elim
def a5G:=aV 10 Qz c4M
theorem c0F:aO env a5G:=aF d1P (c9T)
def lsA:Inv':=eA LsX (fun x=>[(17,.l 17 0),(18,.v (.vslice none 0 x.rl.length 14 (x.rl.flatMap bS))),(19,.v (.int .i64 (x.x.length:Int))),(20,.v (.vslice none 0 2 1 [.int .i64 x.a,.int .i64 x.b])),(21,.v (.int .i64 (x.i:Int)))]) (fun x=>[(17,[.vslice none 0 (x.x).length 3 ((x.x).flatMap cN),.vslice none 0 x.ss.length 5 (x.ss.flatMap iT),.vslice none 0 0 3 [],.int .i64 x.v,.int .i64 x.w,.int .i64 0,.int .i64 0])]) (fun _=>Heap.empty) (fun x=>LsO x) (fun x=>x.x.length-x.i)
def lsB:Inv':=eA LsX (fun x=>[(17,.l 17 0),(18,.v (.vslice none 0 x.rl.length 14 (x.rl.flatMap bS))),(19,.v (.int .i64 (x.x.length:Int))),(20,.v (.vslice none 0 2 1 [.int .i64 x.a,.int .i64 x.b])),(21,.v (.int .i64 (x.i:Int))),(22,.v (.int .i64 (x.j:Int)))]) (fun x=>[(17,[.vslice none 0 (x.x).length 3 ((x.x).flatMap cN),.vslice none 0 x.ss.length 5 (x.ss.flatMap iT),.vslice none 0 0 3 [],.int .i64 x.v,.int .i64 x.w,.int .i64 0,.int .i64 0])]) (fun _=>Heap.empty) (fun x=>LsO x/\x.i<x.x.length/\x.j<=x.i) (fun x=>10000*(x.x.length-x.i)+(x.i-x.j))
def c4V(xs:Y14)(h:Heap)(K:KT):Prop:=match xs with
 | [.vslice none e1 n1 1 c1,.vslice none e2 n2 1 c2,.int .i64 how,.int .i64 at_,.int .i64 mask,.int .i64 a,.int .i64 b,.int .i64 w]=> ∃l s:Y12,(n1=l.length/\c1=l.map (IV.int .i64)/\n2=s.length/\c2=s.map (IV.int .i64))/\((∀x∈l,aU x)/\l.length<=9223372036854775807/\(∀x∈s,aU x)/\s.length<=9223372036854775807/\aU how/\aU at_/\aU mask/\aU w)/\K (.bool true) h
 |_=>False
def z3a(g:LsX):=[IV.vslice none 0 ((LsX.x g).length) 3 (List.flatMap cN (LsX.x g)),IV.vslice none 0 ((LsX.ss g).length) 5 (List.flatMap iT (LsX.ss g)),IV.vslice none 0 0 3 [],iI (LsX.v g),iI (LsX.w g),iI 0,iI 0]
def z3i(g:LsX):=[iI (LsX.a g),iI (LsX.b g)]
def z3b(g:LsX):=TV.v (.vslice none 0 2 1 (z3i g))
def z3c(g:LsX):=TV.v (.vslice none 0 ((LsX.rl g).length) 14 (List.flatMap bS (LsX.rl g)))
def z3d:=TV.l 17 0
def z3e(g:LsX):=TV.v (.int .i64 (↑((LsX.x g).length):Int))
def z3f:=IV.int .i64
def z3g(g:LsX):=TV.v (.int .i64 ((LsX.i g):Int))
def z3h(g:LsX):=(LsX.x g).length-LsX.i g
def b5A(l:LsX):Prop:= ∃(g:LsX),some z3d=some z3d/\some (z3c l)=some (TV.v (.vslice none 0 ((LsX.rl g).length) 14 (List.flatMap bS (LsX.rl g))))/\some (z3e l)=tI (↑((LsX.x g).length):Int)/\some (z3b l)=some (TV.v (.vslice none 0 2 1 [iI (LsX.a g),iI (LsX.b g)]))/\some (z3g l)=tI
 ((LsX.i g):Int)/\tI (wW (((LsX.j l):Int)+1))=tI ((LsX.j g):Int)/\some (z3a l)=some [IV.vslice none 0 ((LsX.x g).length) 3 (List.flatMap cN (LsX.x g)),IV.vslice none 0 ((LsX.ss g).length) 5 (List.flatMap iT (LsX.ss g)),IV.vslice none 0 0 3 [],iI (LsX.v g),iI
 (LsX.w g),iI 0,iI 0]/\Heap.mk PT.nil 0=Heap.mk PT.nil 0/\(LsO g/\LsX.i g< (LsX.x g).length/\LsX.j g<=LsX.i g)/\(10000:Nat)*((LsX.x g).length-LsX.i g)+(LsX.i g-LsX.j g)<10000*(z3h l)+(LsX.i l-LsX.j l)
theorem d9O(l s:Y12)(K G q a b w:Int)(V X:Nat)(h:Heap)(Q:KT):dF (aR a5G) env 3 cS (vC 7 lsA (oE 1000010 lsB)) bK [.vslice none V (l).length 1 ((l).map (IV.int .i64)),.vslice none X (s).length 1 ((s).map (IV.int .i64)),.int .i64 K,.int .i64 G,.int .i64 q,.int .i64 a,.int .i64 b,.int .i64 w] h Q=(
 aC (aP [IV.vslice none 0 l.length 1 (List.map z3f l),IV.vslice none 0 s.length 1 (List.map z3f s),iI K,iI G,iI q,iI a,iI b,iI w]) (∃(z A:Y12),(l.length=z.length/\List.map z3f l=List.map z3f z/\s.length=A.length/\List.map z3f s=List.map z3f A)/\((∀(x:Int),x∈z->aU x)/\z.length<=9223372036854775807/\(∀(x:Int),x∈A->aU x)/\List.length A<=9223372036854775807/\aU K/\aU G)/\∀(x:Y15)(ss:List Ste)(v R:Int),RsO x ss->aU q/\∀(rl:List Ru),(∀(r:Ru),r∈rl->r∈cC)->rl.length<=28->aU w/\∀(O y:Int),aU O->aU y->(∃(g:LsX),some z3d=some z3d/\some (TV.v (.vslice none 0 rl.length 14 (List.flatMap bS rl)))=some (z3c g)/\tI (x.length:Int)=some (z3e g)/\some (TV.v (.vslice none 0 2 1 [iI O,iI y]))=some (z3b g)/\tI 0=some (z3g g)/\some [IV.vslice none 0 x.length 3 (List.flatMap cN x),IV.vslice none 0 ss.length 5 (List.flatMap iT ss),IV.vslice none 0 0 3 [],iI v,iI R,iI 0,iI 0]=some (z3a g)/\Heap.mk PT.nil 0=Heap.mk PT.nil 0/\LsO g/\True)/\∀(x:LsX)(b:FF),LsO x->aI (decide (((LsX.i x):Int)< (↑((LsX.x x).length):Int))) (∃(M:Nat),(∃(g:LsX),some z3d=some z3d/\some (TV.v (.vslice none 0 ((LsX.rl x).length) 14 (List.flatMap bS (LsX.rl x))))=some (z3c g)/\tI (↑((LsX.x x).length):Int)=some (z3e g)/\some (TV.v (.vslice none 0 2 1 [iI (LsX.a x),iI (LsX.b x)]))=some (z3b g)/\tI ((LsX.i x):Int)=some (z3g g)/\tI 0=tI ((LsX.j g):Int)/\some [IV.vslice none 0 ((LsX.x x).length) 3 (List.flatMap cN (LsX.x x)),IV.vslice none 0 ((LsX.ss x).length) 5 (List.flatMap iT (LsX.ss x)),IV.vslice none 0 0 3 [],iI (LsX.v x),iI (LsX.w x),iI 0,iI 0]=some (z3a g)/\Heap.mk PT.nil 0=Heap.mk PT.nil 0/\(LsO g/\LsX.i g< (LsX.x g).length/\LsX.j g<=LsX.i g)/\(10000:Nat)*(z3h g)+(LsX.i g-LsX.j g)<=M)/\∀(g:LsX)(b:FF),LsO g/\LsX.i g< (LsX.x g).length/\LsX.j g<=LsX.i g->(10000:Nat)*(z3h g)+(LsX.i g-LsX.j g)<=M->aI (decide (((LsX.j g):Int)< ((LsX.i g):Int))) (∃(rl:List Ru)(p:Y12)(l:Y15)(ss:List Ste),((LsX.rl g).length=rl.length/\List.flatMap bS (LsX.rl g)=List.flatMap bS rl/\(2:Nat)=p.length/\[iI 3,iI 2]=List.map z3f p/\List.length (LsX.x g)=l.length/\List.flatMap cN (LsX.x g)=List.flatMap cN l/\List.length (LsX.ss g)=ss.length/\List.flatMap iT (LsX.ss g)=List.flatMap iT ss)/\(((∀(n:Nd),n∈l->lV n/\List.length (Nd.ks n)<=40)/\1<=l.length/\l.length<=1000)/\(∀(r:Ru),r∈rl->List.Mem r cC)/\rl.length<=1000/\(p.length<=1000/\∀(x:Int),x∈p->inR x)/\(∀(s:Ste),s∈ss->Ste.ok s)/\ss.length<=1000)/\∀(r:Bool),(r=true->WS l/\iV l ((LsX.i g):Int)/\iV l ((LsX.j g):Int)/\W2 l (((LsX.i g):Int).toNat) (((LsX.j g):Int).toNat))->aI (!r) (b5A g) (∃(l:Y15)(i:Nat)(args:Y12),((LsX.x g).length=l.length/\List.flatMap cN (LsX.x g)=List.flatMap cN l/\((LsX.i g):Int)=(i:Int)/\(2:Nat)=args.length/\(z3i g)=List.map z3f args)/\(WS l/\i<l.length/\args.length<=1000000)/\∀(n:Int)(ok:Bool),(ok=true->n=vw args l i)-> ∃(l:Y15)(i:Nat)(args:Y12),((LsX.x g).length=l.length/\List.flatMap cN (LsX.x g)=List.flatMap cN l/\((LsX.j g):Int)=(i:Int)/\(2:Nat)=args.length/\(z3i g)=List.map z3f args)/\(WS l/\i<l.length/\args.length<=1000000)/\∀(L:Int)(D:Bool),(D=true->L=vw args l i)->aI ok (aI D (aI (n !=L) (Q (.bool false) h) (b5A g)) (b5A g)) (b5A g))) (∃(m:LsX),some z3d=some z3d/\some (z3c g)=some (TV.v (.vslice none 0 ((LsX.rl m).length) 14 (List.flatMap bS (LsX.rl m))))/\some (z3e g)=tI (↑((LsX.x m).length):Int)/\some (z3b g)=some (TV.v (.vslice none 0 2 1 [iI (LsX.a m),iI (LsX.b m)]))/\tI (wW (((LsX.i g):Int)+1))=some (TV.v (iI ((LsX.i m):Int)))/\some (z3a g)=some [IV.vslice none 0 ((LsX.x m).length) 3 (List.flatMap cN (LsX.x m)),IV.vslice none 0 ((LsX.ss m).length) 5 (List.flatMap iT (LsX.ss m)),IV.vslice none 0 0 3 [],iI (LsX.v m),iI (LsX.w m),iI 0,iI 0]/\Heap.mk PT.nil 0=Heap.mk PT.nil 0/\LsO m/\List.length (LsX.x m)-LsX.i m< (LsX.x x).length-LsX.i x)) (Q (.bool true) h))):=by kernel_rfl
theorem d7X: ∀xs h Q,c4V xs h Q->aL env 3 xs h Q:=by
 intro xs h Q A;unfold c4V at A;split at A
 ·rename_i e1 n1 c1 e2 n2 c2 R K G a b w;obtain⟨l,s,⟨rfl,rfl,rfl,rfl⟩,hb,A⟩:=A;refine aN (c0F) (d9O l s R K G a b w e1 e2 h Q) ?_;delta b5A z3a z3b z3c z3d z3e z3f z3g z3h z3i tI wW iI;have tn: ∀x:Nat,(x:Int).toNat=x:=AK
  obtain⟨hl,L,hs,Y,hh,ha,hm,hw⟩:=hb;refine aA (by simp only [aP,bG,bC,AL]) ⟨l,s,⟨rfl,rfl,rfl,rfl⟩,⟨hl,L,hs,Y,hh,ha⟩,fun x ss v w2 hO=>⟨hm,fun rl V X=>⟨hw,fun a2 b2 qa qb=>⟨⟨⟨x,ss,v,w2,rl,a2,b2,0,0⟩,JJ,JJ,JJ,JJ,JJ,JJ,JJ,⟨hO,V,X,⟨qa,qb⟩,BE _⟩,JJ⟩,?_⟩⟩⟩⟩;intro x _ D;have a3:=D.o.n.ln;refine gO (fun c=>?_) (fun _=>A);refine⟨10000*(x.x.length-x.i)+x.i,⟨{x with j:=0 },JJ,JJ,JJ,JJ,JJ,JJ,JJ,JJ,⟨⟨D.o,D.k,D.kl,D.ab,D.i⟩,JK,BE _⟩,JK⟩,?_⟩;rintro y _ ⟨g,q,hj⟩ a1;have a0:=g.o.n.ln;have Z:IntKind.i64.wrap ((y.i:Int)+1)=((y.i+1:Nat):Int):=by rw [AF _ JF];rfl
  have m:IntKind.i64.wrap ((y.j:Int)+1)=((y.j+1:Nat):Int):=by rw [AF _ JF];rfl
  refine gO (fun c2=>?_) (fun c2=>⟨{y with i:=y.i+1 },JJ,JJ,JJ,JJ,by rw [Z],JJ,JJ,⟨g.o,g.k,g.kl,g.ab,q⟩,JK⟩);refine⟨y.rl,[3,2],y.x,y.ss,⟨rfl,rfl,rfl,rfl,rfl,rfl,rfl,rfl⟩,⟨⟨g.o.n.ok,a0⟩,g.k,by have:=g.kl;omega,⟨JG,fun z p=>?_⟩,g.o.ok,g.o.ln⟩,fun r V=>aB (fun _=>⟨{y with j:=y.j+1 },JJ,JJ,JJ,JJ,JJ,by rw [m],JJ,JJ,⟨⟨g.o,g.k,g.kl,g.ab,g.i⟩,q,JK⟩,JK⟩) (fun c3=>?_)⟩
  ·rcases CD.1 p with e|p
   ·rw [e];unfold inR
    decide
   ·rw [BN.1 p];unfold inR
    decide
  obtain⟨hW,_,_,hE⟩:=V (by
   cases r
   ·cases c3
   ·rfl)
  rw [tn,tn]at hE;refine⟨y.x,y.i,[y.a,y.b],⟨rfl,rfl,rfl,rfl,rfl⟩,⟨hW,q,by show 2<=1000000;decide⟩,fun n ok hn=>⟨y.x,y.j,[y.a,y.b],⟨rfl,rfl,rfl,rfl,rfl⟩,⟨hW,JF,by show 2<=1000000;decide⟩,fun n2 a4 O=>aB (fun o1=>aB (fun o2=>aB (fun d=>?_) (fun _=>⟨{y with j:=y.j+1 },JJ,JJ,JJ,JJ,JJ,by rw [m],JJ,JJ,⟨⟨g.o,g.k,g.kl,g.ab,g.i⟩,q,JK⟩,JK⟩)) (fun _=>⟨{y with j:=y.j+1 },JJ,JJ,JJ,JJ,JJ,by rw [m],JJ,JJ,⟨⟨g.o,g.k,g.kl,g.ab,g.i⟩,q,JK⟩,JK⟩)) (fun _=>⟨{y with j:=y.j+1 },JJ,JJ,JJ,JJ,JJ,by rw [m],JJ,JJ,⟨⟨g.o,g.k,g.kl,g.ab,g.i⟩,q,JK⟩,JK⟩)⟩⟩;have e:=hE [y.a,y.b] (fun z p=>by
   rcases CD.1 p with e|p
   ·rw [e];exact g.ab.1
   ·rw [BN.1 p];exact g.ab.2)
  have:n=n2:=by
   rw [hn o1,O o2];unfold vw
   rw [e]
  rw [this]at d;simp at d
 ·exact A.elim
end Go.Proofs.YthimicfahhgpcaaGreat
end
end
