/-
  Texts of this proof, one after the other.
  Conditions: none.
-/
import Derived.Test.YthimicfahhgpcaaGreatW17
set_option linter.unusedVariables false
set_option linter.unusedSimpArgs false
set_option maxRecDepth 100000
set_option maxHeartbeats 4000000
noncomputable section
variable{i j k m n b q:Nat}{x y z u w:Int}{h g:Go.Pv.Heap}{d l:List Go.Pv.IV}{A B C:List Go.M15.Nd}{K L:Y12}{p s t:Go.Pv.IV}{F:List Go.M10.E}{D:Go.Pv.Meta}{V W:List Go.Value}{U:Go.TypeId}{o:Bool}{X Y:Go.Value}{r e:Y11}{O:Go.Oper}{N:Y10}{H:Array Go.Value}
section
namespace Go.Proofs.YthimicfahhgpcaaGreat
open Go.Pv Go.M13 Go.M15 Go.M10 Go.M14 Go.M23
def Qj(xs:Y14)(h:Heap)(K:KT):Prop:=match xs with
 | [x,y]=>Ek [x,y] h K
 |_=>False
theorem d1A: ∀xs h Q,Qj xs h Q->aL env 15 xs h Q:=by
 intro xs h Q g;unfold Qj at g;split at g
 ·exact b1B _ _ _ g
 ·exact g.elim
def a4U:=aV 15 Qj noC
theorem c0C:aO env a4U:=aF d1A (gX env)
def Ei(xs:Y14)(h:Heap)(K:KT):Prop:=match xs with
 | [x,y]=>I7 [x,y] h K
 |_=>False
theorem c0Z: ∀xs h Q,Ei xs h Q->aL env 20 xs h Q:=by
 intro xs h Q g;unfold Ei at g;split at g
 ·exact Xj _ _ _ g
 ·exact g.elim
def Ue:=aV 20 Ei a4U
theorem a9I:aO env Ue:=aF c0Z (c0C)
def a7E(xs:Y14)(h:Heap)(K:KT):Prop:=match xs with
 | [x,y,z]=>a7F [x,y,z] h K
 |_=>False
theorem d7N: ∀xs h Q,a7E xs h Q->aL env 21 xs h Q:=by
 intro xs h Q g;unfold a7E at g;split at g
 ·exact d7O _ _ _ g
 ·exact g.elim
def a4N:=aV 21 a7E Ue
theorem a9H:aO env a4N:=aF d7N (a9I)
def a6R(xs:Y14)(h:Heap)(K:KT):Prop:=match xs with
 | [.ptr id 0,.int .i64 m]=> ∃n:Int,h.get id= .cells [.int .i64 n]/\(aU n/\1<=m/\m<=2000)/\∀k n2:Int,0<=k/\k<m/\aU n2->K (.int .i64 k) (h.set id (.cells [.int .i64 n2]))
 |_=>False
theorem d8S(id:Nat)(m:Int)(h:Heap)(Q:KT):dF (aR a4N) env 22 cS bK bK [.ptr id 0,.int .i64 m] h Q=(
 aJ h id fun r0=>aG .i64 r0 0 fun g=>(0<m/\m<4611686018427387904)/\aJ h id fun r2=>aG .i64 r2 0 fun j=>aC (!m==0) (aJ h id fun r4=>aC (Nat.ble 1 r4.length) (Q (.int .i64 (g%m)) (h.set id (IObj.cells (iI (wW (Int.tdiv (wW (j-g%m)) m))::List.drop 1 r4)))))):=by kernel_rfl
theorem d7A: ∀xs h Q,a6R xs h Q->aL env 22 xs h Q:=by
 intro xs h Q g;unfold a6R at g;split at g
 ·rename_i id m;obtain⟨n,j,l,g⟩:=g;refine aN (a9H) (d8S id m h Q) ?_;delta wW iI;obtain⟨p,h1,h2⟩:=l;exact aD j (bB rfl ⟨⟨JF,JF⟩,aD j (bB rfl (aA (by simp only [CC,beq_eq_false_iff_ne];omega) (aD j (aA rfl (g _ _ ⟨EW _ JF,EH _ JF,tK _⟩)))))⟩)
 ·exact g.elim
def a3Z:=aV 22 a6R a4N
theorem a8U:aO env a3Z:=aF d7A (a9H)
def laI(l:Y15)(s:Int):Inv':=eA Nat (fun x=>[(0,.v (.vslice none 0 (l).length 3 ((l).flatMap cN))),(1,.v (.int .i64 s)),(5,.v (.int .i64 ((x:Int)-1)))]) (fun _=>[]) (fun _=>Heap.empty) (fun x=>x<=l.length) (fun x=>x)
def a7D(xs:Y14)(h:Heap)(K:KT):Prop:=match xs with
 | [.vslice none e1 n1 3 c1,.int .i64 s]=> ∃l:Y15,(n1=l.length/\c1=l.flatMap cN)/\l.length<=1000/\∀r:Int,aU r->K (.int .i64 r) h
 |_=>False
def Tj(l:Y15)(x:Nat):=decide (0<=(x:Int)-1) &&decide ((x:Int)-1< (l.length:Int))
def Fz(l:Y15):=List.flatMap cN l
def b4M(l:Y15):=TV.v (.vslice none 0 l.length 3 (Fz l))
def Tk(x:Nat):=iI ((x:Int)-1)
def b4N(x:Nat):=((x:Int)-1).toNat*3+0
def b4O(s:Int):=TV.v (.int .i64 s)
def d3W(x:Nat):=((x:Int)-1).toNat*3+1
def Bz(l:Y15)(s:Int)(x:Nat):Prop:= ∃(g:Nat),some (b4M l)=some (b4M l)/\some (b4O s)=some (b4O s)/\tI (wW ((x:Int)-1-1))=tI ((g:Int)-1)/\Heap.mk PT.nil 0=Heap.mk PT.nil 0/\Nat.le g l.length/\g<x
theorem d9F(l:Y15)(s:Int)(g:Nat)(h:Heap)(Q:KT):dF (aR a3Z) env 23 cS (oE 3 (laI l s)) bK [.vslice none g (l).length 3 ((l).flatMap cN),.int .i64 s] h Q=(
 aC (aP [IV.vslice none 0 l.length 3 (Fz l),iI s]) ((∃(x:Nat),some (b4M l)=some (b4M l)/\some (b4O s)=some (b4O s)/\tI (wW ((l.length:Int)-1))=some (TV.v (Tk x))/\Heap.mk PT.nil 0=Heap.mk PT.nil 0/\Nat.le x l.length/\True)/\∀(x:Nat)(b:FF),x<=l.length->aI (decide ((x:Int)-1>=0)) (aC (Tj l x) (aG .i64 (Fz l) (b4N x) fun j=>aI (decide (j>=1)) (aC (Tj l x) (aG .i64 (Fz l) (b4N x) fun m=>aI (decide (m<=24)) (aI (true==(s==1)) (Q (Tk x) h) (Bz l s x)) (aC (Tj l x) (aG .i64 (Fz l) (b4N x) fun p=>aI (p==25) (aC (Tj l x) (aG .i64 (Fz l) (d3W x) fun(q:Int)=>aI ((q !=0)==(s==1)) (Q (Tk x) h) (Bz l s x))) (aI (false==(s==1)) (Q (Tk x) h) (Bz l s x)))))) (aC (Tj l x) (aG .i64 (Fz l) (b4N x) fun r=>aI (r==25) (aC (Tj l x) (aG .i64 (Fz l) (d3W x) fun y=>aI ((y !=0)==(s==1)) (Q (Tk x) h) (Bz l s x))) (aI (false==(s==1)) (Q (Tk x) h) (Bz l s x)))))) (Q (.int .i64 0) h))):=by kernel_rfl
theorem d7M: ∀xs h Q,a7D xs h Q->aL env 23 xs h Q:=by
 intro xs h Q g;unfold a7D at g;split at g
 ·rename_i p G c1 s;obtain⟨l,⟨rfl,rfl⟩,D,g⟩:=g;refine aN (a8U) (d9F l s p h Q) ?_;delta Bz Tj b4M Tk b4N b4O Fz d3W tI wW iI;have r: ∀x:Nat,(x:Int).toNat=x:=AK
  refine aA (by simp only [aP,bG,bR,AL]) ⟨⟨l.length,JJ,JJ,by rw [AF _ JF],JJ,AG _,JJ⟩,?_⟩;intro x _ A;refine gO (fun c=>?_) (fun c=>g 0 JG);obtain⟨j,q⟩: ∃j:Nat,(x:Int)-1=(j:Int):=⟨x-1,JF⟩
  have m:j<l.length:=JF;have e0:(l.flatMap cN)[((x:Int)-1).toNat*3+0]?=some (.int .i64 l[j].op):=by rw [q,r,uZ m JG];rfl
  have p:(l.flatMap cN)[((x:Int)-1).toNat*3+1]?=some (.int .i64 l[j].im):=by rw [q,r,uZ m JG];rfl
  have y:=g ((x:Int)-1) (by unfold aU;omega);have z:IntKind.i64.wrap ((x:Int)-1-1)=((x-1:Nat):Int)-1:=by rw [AF _ JF];omega
  repeat' (first|exact y|exact⟨x-1,JJ,JJ,by rw [z],JJ,CW (Nat.sub_le _ _) A,JF⟩|refine aA (by simp;omega) ?_|refine bB e0 ?_|refine bB p ?_|refine aB (fun _=>?_) (fun _=>?_))
 ·exact g.elim
def a4L:=aV 23 a7D a3Z
theorem a9G:aO env a4L:=aF d7M (a8U)
def rsN(s:Y12):Inv':=eA (Y15) (fun _=>[(1,.v (.vslice none 0 s.length 1 (s.map (IV.int .i64)))),(8,.l 8 0),(9,.l 9 0)]) (fun x=>[(8,[.nilslice,.nilslice,.nilslice,.int .i64 0,.int .i64 0,.int .i64 0,.int .i64 0]),(9,[.vslice none 0 (x).length 3 ((x).flatMap cN),.nilslice,.nilslice,.int .i64 0,.int .i64 2,.int .i64 0,.int .i64 0])]) (fun _=>Heap.empty) (fun x=>RsN x) (fun _=>0)
def rsA(s:Y12):Inv':=eA RsX (fun x=>[(1,.v (.vslice none 0 s.length 1 (s.map (IV.int .i64)))),(8,.l 8 0),(9,.l 9 0),(10,.v (.int .i64 (x.x.length:Int))),(11,.v (.int .i64 (x.i:Int)))]) (fun x=>[(8,[.nilslice,.nilslice,.nilslice,.int .i64 0,.int .i64 0,.int .i64 0,.int .i64 0]),(9,[.vslice none 0 (x.x).length 3 ((x.x).flatMap cN),x.v,.nilslice,.int .i64 0,.int .i64 2,.int .i64 0,.int .i64 0])]) (fun x=>x.g) (fun x=>RsI x.x x.i x.ss x.v x.t x.g) (fun x=>16-x.i)
def rsB(s:Y12):Inv':=eA RsX (fun x=>[(1,.v (.vslice none 0 s.length 1 (s.map (IV.int .i64)))),(8,.l 8 0),(9,.l 9 0),(10,.v (.int .i64 (x.x.length:Int))),(11,.v (.int .i64 (x.i:Int))),(12,.v (.ptr x.id 0)),(13,.l 13 0),(14,.v (.int .i64 (x.k:Int)))]) (fun x=>[(8,[.nilslice,.nilslice,.nilslice,.int .i64 0,.int .i64 0,.int .i64 0,.int .i64 0]),(9,[.vslice none 0 (x.x).length 3 ((x.x).flatMap cN),x.v,.nilslice,.int .i64 0,.int .i64 2,.int .i64 0,.int .i64 0]),(13,[.int .i64 x.a,.int .i64 x.b,.int .i64 x.y,x.w,.nilslice])]) (fun x=>x.g) (fun x=>RsJ x s) (fun x=>100*(16-x.i)+x.k)
def rsD(s:Y12):Inv':=eA RsX (fun x=>[(1,.v (.vslice none 0 s.length 1 (s.map (IV.int .i64)))),(8,.l 8 0),(9,.l 9 0),(10,.v (.int .i64 (x.x.length:Int))),(11,.v (.int .i64 (x.i:Int))),(12,.v (.ptr x.id 0)),(13,.l 13 0)]) (fun x=>[(8,[.nilslice,.nilslice,.nilslice,.int .i64 0,.int .i64 0,.int .i64 0,.int .i64 0]),(9,[.vslice none 0 (x.x).length 3 ((x.x).flatMap cN),x.v,.nilslice,.int .i64 0,.int .i64 2,.int .i64 0,.int .i64 0]),(13,[.int .i64 x.a,.int .i64 x.b,.int .i64 x.y,.nilslice,.nilslice])]) (fun x=>x.g) (fun x=>RsJ x s/\RsZ x) (fun x=>16-x.i)
def rsC:Inv':= .or (eA (Y15×Heap) (fun _=>[(8,.l 8 0),(9,.l 9 0)]) (fun x=>[(8,[.nilslice,.nilslice,.nilslice,.int .i64 0,.int .i64 0,.int .i64 0,.int .i64 0]),(9,[.vslice none 0 (x.1).length 3 ((x.1).flatMap cN),.nilslice,.nilslice,.int .i64 0,.int .i64 2,.int .i64 0,.int .i64 0])]) (fun x=>x.2) (fun x=>RsN x.1) (fun _=>0)) (eA RsX (fun _=>[(8,.l 8 0),(9,.l 9 0)]) (fun x=>[(8,[.nilslice,.nilslice,.nilslice,.int .i64 0,.int .i64 0,.int .i64 0,.int .i64 0]),(9,[.vslice none 0 (x.x).length 3 ((x.x).flatMap cN),.vslice (some x.t) (5*x.ss.length) x.ss.length 5 (x.ss.flatMap iT),.nilslice,.int .i64 0,.int .i64 2,.int .i64 0,.int .i64 0])]) (fun x=>x.g) (fun x=>RsO x.x x.ss) (fun _=>0))
def a7P(xs:Y14)(h:Heap)(K:KT):Prop:=match xs with
 | [.vslice none e1 n1 1 c1,.vslice none e2 n2 1 c2,.int .i64 how,.int .i64 at_]=> ∃l s:Y12,(n1=l.length/\c1=l.map (IV.int .i64)/\n2=s.length/\c2=s.map (IV.int .i64))/\((∀x∈l,aU x)/\l.length<=9223372036854775807/\(∀x∈s,aU x)/\s.length<=9223372036854775807/\aU how/\aU at_)/\∀(x:Y15)(ss:List Ste)(v w:Int),RsO x ss->K (.agg [.vslice none 0 (x).length 3 ((x).flatMap cN),.vslice none 0 ss.length 5 (ss.flatMap iT),.vslice none 0 0 3 [],.int .i64 v,.int .i64 w,.int .i64 0,.int .i64 0]) h
 |_=>False
def Ge:=[IV.nilslice,IV.nilslice,IV.nilslice,iI 0,iI 0,iI 0,iI 0]
def z6m:=IV.int .i64
def Tu(s:Y12):=TV.v (.vslice none 0 s.length 1 (List.map z6m s))
def z6c(g:RsX):=[IV.vslice none 0 ((RsX.x g).length) 3 (List.flatMap cN (RsX.x g)),RsX.v g,IV.nilslice,iI 0,iI 2,iI 0,iI 0]
def Gf:=TV.l 8 0
def Gg:=TV.l 9 0
def z6f(g:RsX):=[iI (RsX.a g),iI (RsX.b g),iI (RsX.y g),IV.nilslice,IV.nilslice]
def z6g:=TV.l 13 0
def z6h(g:Int):=IObj.cells [iI g]
def z6i(g:RsX):=TV.v (.int .i64 (↑((RsX.x g).length):Int))
def z6j(g:Int):=IObj.cells [iI g]
def z6k(g:RsX):=TV.v (.int .i64 ((RsX.i g):Int))
def z6l(g:RsX):=(RsX.x g).length
def z6n(g:Int):=IObj.cells [iI g]
def z6o(n:Int):=[iI n]
def z6p(g:RsX):=TV.v (.ptr (RsX.id g) 0)
def z6q(g:Int):=IObj.cells [iI g]
def d4L(s:Y12)(x:Y15):Prop:= ∃(g:Y15),some (Tu s)=some (Tu s)/\some Gf=some Gf/\some Gg=some Gg/\some Ge=some Ge/\some [IV.vslice none 0 x.length 3 (List.flatMap cN x),IV.nilslice,IV.nilslice,iI 0,iI 2,iI 0,iI 0]=some [IV.vslice none 0 g.length 3 (List.flatMap cN g),IV.nilslice,IV.nilslice,
 iI 0,iI 2,iI 0,iI 0]/\Heap.mk PT.nil 0=Heap.mk PT.nil 0/\RsN g/\True
def d4M(x:RsX):Prop:= ∃(j:Y15×Heap),some Gf=some Gf/\some Gg=some Gg/\some Ge=some Ge/\some [IV.vslice none 0 ((RsX.x x).length) 3 (List.flatMap cN (RsX.x x)),RsX.v x,IV.nilslice,iI 0,iI 2,iI 0,iI 0]=some [IV.vslice none 0 j.1.length 3 (List.flatMap cN j.1),IV.nilslice,IV.nilslice,
 iI 0,iI 2,iI 0,iI 0]/\RsX.g x=j.2/\RsN j.1/\True
def d4N(x:RsX):Prop:= ∃(j:RsX),some Gf=some Gf/\some Gg=some Gg/\some Ge=some Ge/\some [IV.vslice none 0 ((RsX.x x).length) 3 (List.flatMap cN (RsX.x x)),RsX.v x,IV.nilslice,iI 0,iI 2,iI 0,iI 0]=some [IV.vslice none 0 ((RsX.x j).length) 3 (List.flatMap cN (RsX.x j)),IV.vslice (some
 (RsX.t j)) ((5:Nat)*(RsX.ss j).length) ((RsX.ss j).length) 5 (List.flatMap iT (RsX.ss j)),IV.nilslice,iI 0,iI 2,iI 0,iI 0]/\RsX.g x=RsX.g j/\RsO (RsX.x j) (RsX.ss j)/\True
theorem d9Q(l s:Y12)(K V:Int)(e1 e2:Nat)(h:Heap)(Q:KT):dF (aR a4L) env 6 cS (vC 7 (rsA s) (oE 1000014 (rsB s))) (vC 5 (rsN s) (vC 1000013 (rsD s) (oE 18 rsC))) [.vslice none e1 (l).length 1 ((l).map (IV.int .i64)),.vslice none e2 (s).length 1 ((s).map (IV.int .i64)),.int .i64 K,.int .i64 V] h Q=(
 aC (aP [IV.vslice none 0 l.length 1 (List.map z6m l),IV.vslice none 0 s.length 1 (List.map z6m s),iI K,iI V]) (∃(O:Y12),(l.length=O.length/\List.map z6m l=List.map z6m O)/\((∀(x:Int),x∈O->aU x)/\O.length<=9223372036854775807)/\∀(x:Y15),NW 14 x->(((0:Int)<3/\(3:Int)<4611686018427387904)/\aI (K% (3:Int)==1) (∃(l:Y15),(x.length=l.length/\List.flatMap cN x=List.flatMap cN l)/\((∀(x:Nd),x∈l->aU (Nd.op x)/\aU (Nd.im x)/\List.length (Nd.ks x)<=20/\∀(q:Int),q∈Nd.ks x->aU q)/\1<=l.length/\l.length<=500)/\(aU (wW (Int.tdiv K 3))/\aU V)/\∀(x:Y15),PGk x->(1:Nat)<=x.length->d4L s x) (d4L s x))/\∀(x:Y15)(b:FF),RsN x->((∃(j:RsX),some (Tu s)=some (Tu s)/\some Gf=some Gf/\some Gg=some Gg/\tI (x.length:Int)=some (z6i j)/\tI 0=some (z6k j)/\some Ge=some Ge/\some [IV.vslice none 0 x.length 3 (List.flatMap cN x),IV.nilslice,IV.nilslice,iI 0,iI 2,iI 0,iI 0]=some (z6c j)/\Heap.mk PT.nil 0=RsX.g j/\RsI (RsX.x j) (RsX.i j) (RsX.ss j) (RsX.v j) (RsX.t j) (RsX.g j)/\True)/\∀(x:RsX)(b:FF),RsI (RsX.x x) (RsX.i x) (RsX.ss x) (RsX.v x) (RsX.t x) (RsX.g x)->aI (decide (((RsX.i x):Int)< (s.length:Int))) (aI (decide (((RsX.i x):Int)<16)) (aC (decide (0<=((RsX.i x):Int)) &&decide (((RsX.i x):Int)< (s.length:Int))) (aG .i64 (List.map z6m s) (((RsX.i x):Int).toNat*1) fun X=> ∃(n:Int),((RsX.g x).push (z6j X)).get ((RsX.g x).next)=IObj.cells (z6o n)/\(aU n/\(1:Int)<=5/\(5:Int)<=2000)/\∀(k G:Int),0<=k/\k<5/\aU G->aC (decide (0<=k) &&decide (k<5)) (aG .i64 [iI 0,iI 1,iI (-1),iI 2,iI 1] (k.toNat*1) fun n1=> ∃(n:Int),(((RsX.g x).push (z6j X)).set ((RsX.g x).next) (z6h G)).get ((RsX.g x).next)=IObj.cells (z6o n)/\(aU n/\1<=wW ((↑((RsX.x x).length):Int)+(1:Int))/\wW ((↑((RsX.x x).length):Int)+1)<=2000)/\∀(k z:Int),0<=k/\k<wW ((↑((RsX.x x).length):Int)+1)/\aU z-> ∃(n:Int),((((RsX.g x).push (z6j X)).set ((RsX.g x).next) (z6h G)).set ((RsX.g x).next) (z6n z)).get ((RsX.g x).next)=IObj.cells (z6o n)/\(aU n/\1<=wW ((↑((RsX.x x).length):Int)+1)/\wW ((↑((RsX.x x).length):Int)+1)<=2000)/\∀(L D:Int),0<=L/\L<wW ((↑((RsX.x x).length):Int)+1)/\aU D-> ∃(M:Nat),aI (k==(↑((RsX.x x).length):Int)) (∃(n:Int),(((((RsX.g x).push (z6j X)).set ((RsX.g x).next) (z6h G)).set ((RsX.g x).next) (z6n z)).set ((RsX.g x).next) (z6q D)).get ((RsX.g x).next)=IObj.cells (z6o n)/\(aU n/\(1:Int)<=2/\(2:Int)<=2000)/\∀(k R:Int),0<=k/\k<2/\aU R-> ∃(j:RsX),some (Tu s)=some (Tu s)/\some Gf=some Gf/\some Gg=some Gg/\tI (↑((RsX.x x).length):Int)=some (z6i j)/\tI ((RsX.i x):Int)=some (z6k j)/\some (TV.v (.ptr ((RsX.g x).next) 0))=some (z6p j)/\some z6g=some z6g/\some Ge=some Ge/\some [IV.vslice none 0 ((RsX.x x).length) 3 (List.flatMap cN (RsX.x x)),RsX.v x,IV.nilslice,iI 0,iI 2,iI 0,iI 0]=some (z6c j)/\some [iI (wW ((-1:Int)+wW (k*(↑((RsX.x x).length):Int)))),iI L,iI n1,IV.nilslice,IV.nilslice]=some (z6f j)/\Heap.set (((((RsX.g x).push (z6j X)).set ((RsX.g x).next) (z6h G)).set ((RsX.g x).next) (z6n z)).set ((RsX.g x).next) (z6q D)) ((RsX.g x).next) (IObj.cells [iI R])=RsX.g j/\(RsJ j s/\RsZ j)/\(16:Nat)-RsX.i j<=M) (∃(j:RsX),some (Tu s)=some (Tu s)/\some Gf=some Gf/\some Gg=some Gg/\tI (↑((RsX.x x).length):Int)=some (z6i j)/\tI ((RsX.i x):Int)=some (z6k j)/\some (TV.v (.ptr ((RsX.g x).next) 0))=some (z6p j)/\some z6g=some z6g/\some Ge=some Ge/\some [IV.vslice none 0 ((RsX.x x).length) 3 (List.flatMap cN (RsX.x x)),RsX.v x,IV.nilslice,iI 0,iI 2,iI 0,iI 0]=some (z6c j)/\some [iI k,iI L,iI n1,IV.nilslice,IV.nilslice]=some (z6f j)/\Heap.set ((((RsX.g x).push (z6j X)).set ((RsX.g x).next) (z6h G)).set ((RsX.g x).next) (z6n z)) ((RsX.g x).next) (z6q D)=RsX.g j/\(RsJ j s/\RsZ j)/\(16:Nat)-RsX.i j<=M)/\∀(j:RsX)(b:FF),RsJ j s/\RsZ j->(16:Nat)-RsX.i j<=M-> ∃(n:Int),(RsX.g j).get (RsX.id j)=IObj.cells (z6o n)/\(aU n/\(1:Int)<=3/\(3:Int)<=2000)/\∀(k G:Int),0<=k/\k<3/\aU G-> ∃(M:Nat),(∃(x:RsX),some (Tu s)=some (Tu s)/\some Gf=some Gf/\some Gg=some Gg/\some (z6i j)=tI (↑((RsX.x x).length):Int)/\some (z6k j)=tI ((RsX.i x):Int)/\some (z6p j)=some (TV.v (.ptr (RsX.id x) 0))/\some z6g=some z6g/\tI k=tI ((RsX.k x):Int)/\some Ge=some Ge/\some (z6c j)=some [IV.vslice none 0 ((RsX.x x).length) 3 (List.flatMap cN (RsX.x x)),RsX.v x,IV.nilslice,iI 0,iI 2,iI 0,iI 0]/\some (z6f j)=some [iI (RsX.a x),iI (RsX.b x),iI (RsX.y x),RsX.w x,IV.nilslice]/\Heap.set (RsX.g j) (RsX.id j) (z6h G)=RsX.g x/\RsJ x s/\(100:Nat)*((16:Nat)-RsX.i x)+RsX.k x<=M)/\∀(m:RsX)(b:FF),RsJ m s->(100:Nat)*((16:Nat)-RsX.i m)+RsX.k m<=M->aI (decide (((RsX.k m):Int)>0)) (∃(n:Int),(RsX.g m).get (RsX.id m)=IObj.cells (z6o n)/\(aU n/\1<=wW (((z6l m):Int)+2)/\wW (((z6l m):Int)+2)<=2000)/\∀(k G:Int),(0:Int)<=k/\k<wW (((z6l m):Int)+2)/\aU G->gH ((RsX.g m).set (RsX.id m) (z6h G)) 1 8 m.14 1 [iI (wW (k-1))] fun(i2 e3 l4:Nat)(c5:Y14)(g6:Heap)=> ∃(x:RsX),some (Tu s)=some (Tu s)/\some Gf=some Gf/\some Gg=some Gg/\tI ((z6l m):Int)=tI (↑((RsX.x x).length):Int)/\tI ((RsX.i m):Int)=tI ((RsX.i x):Int)/\some (TV.v (.ptr (RsX.id m) 0))=some (TV.v (.ptr (RsX.id x) 0))/\some z6g=some z6g/\tI (wW (((RsX.k m):Int)-1))=tI ((RsX.k x):Int)/\some Ge=some Ge/\some [IV.vslice none 0 (z6l m) 3 (List.flatMap cN (RsX.x m)),RsX.v m,IV.nilslice,iI 0,iI 2,iI 0,iI 0]=some [IV.vslice none 0 ((RsX.x x).length) 3 (List.flatMap cN (RsX.x x)),RsX.v x,IV.nilslice,iI 0,iI 2,iI 0,iI 0]/\some [iI (RsX.a m),iI (RsX.b m),iI (RsX.y m),IV.vslice (some i2) e3 l4 1 c5,IV.nilslice]=some [iI (RsX.a x),iI (RsX.b x),iI (RsX.y x),RsX.w x,IV.nilslice]/\g6=RsX.g x/\RsJ x s/\(100:Nat)*((16:Nat)-RsX.i x)+RsX.k x<100*((16:Nat)-RsX.i m)+RsX.k m) (gH (RsX.g m) 5 72 m.5 1 [iI (RsX.a m),iI (RsX.b m),iI (RsX.y m),B3 (G5 Proofs.Tryz.prog 22) m.14,IV.vslice none 0 0 1 []] fun(i7 e8 l9:Nat)(Y:Y14)(Z:Heap)=> ∃(p:RsX),some (Tu s)=some (Tu s)/\some Gf=some Gf/\some Gg=some Gg/\tI ((z6l m):Int)=tI (↑((RsX.x p).length):Int)/\tI (wW (((RsX.i m):Int)+1))=tI ((RsX.i p):Int)/\some Ge=some Ge/\some [IV.vslice none 0 (z6l m) 3 (List.flatMap cN (RsX.x m)),IV.vslice (some i7) e8 l9 5 Y,IV.nilslice,iI 0,iI 2,iI 0,iI 0]=some [IV.vslice none 0 ((RsX.x p).length) 3 (List.flatMap cN (RsX.x p)),RsX.v p,IV.nilslice,iI 0,iI 2,iI 0,iI 0]/\Z=RsX.g p/\RsI (RsX.x p) (RsX.i p) (RsX.ss p) (RsX.v p) (RsX.t p) (RsX.g p)/\(16:Nat)-RsX.i p<16-RsX.i x)))) ((d4M x) \/d4N x)) ((d4M x) \/d4N x))/\(∀(x:Y15×Heap)(b:FF),RsN x.1-> ∃(l:Y15),(x.1.length=l.length/\List.flatMap cN x.1=List.flatMap cN l)/\l.length<=(1000:Nat)/\∀(r:Int),aU r-> ∃(l:Y15),(x.1.length=l.length/\List.flatMap cN x.1=List.flatMap cN l)/\l.length<=1000/\∀(A:Int),aU A->aC (aP [IV.agg [.vslice none 0 x.1.length 3 (List.flatMap cN x.1),IV.vslice none 0 0 5 [],IV.vslice none 0 0 3 [],iI r,iI A,iI 0,iI 0]]) (Q (.agg [.vslice none 0 x.1.length 3 (List.flatMap cN x.1),IV.vslice none 0 0 5 [],IV.vslice none 0 0 3 [],iI r,iI A,iI 0,iI 0]) h))/\∀(x:RsX)(b:FF),RsO (RsX.x x) (RsX.ss x)-> ∃(l:Y15),((RsX.x x).length=l.length/\List.flatMap cN (RsX.x x)=List.flatMap cN l)/\l.length<=1000/\∀(r:Int),aU r-> ∃(l:Y15),((RsX.x x).length=l.length/\List.flatMap cN (RsX.x x)=List.flatMap cN l)/\l.length<=1000/\∀(A:Int),aU A->aC (aP [IV.agg [.vslice none 0 ((RsX.x x).length) 3 (List.flatMap cN (RsX.x x)),IV.vslice none 0 ((RsX.ss x).length) 5 (List.flatMap iT (RsX.ss x)),IV.vslice none 0 0 3 [],iI r,iI A,iI 0,iI 0]]) (Q (.agg [.vslice none 0 ((RsX.x x).length) 3 (List.flatMap cN (RsX.x x)),IV.vslice none 0 ((RsX.ss x).length) 5 (List.flatMap iT (RsX.ss x)),IV.vslice none 0 0 3 [],iI r,iI A,iI 0,iI 0]) h))):=by kernel_rfl
theorem d7Z: ∀xs h Q,a7P xs h Q->aL env 6 xs h Q:=by
 intro xs h Q G;unfold a7P at G;split at G
 ·rename_i e1 n1 c1 e2 n2 c2 a4 a0;obtain⟨l,s,⟨rfl,rfl,rfl,rfl⟩,hb,G⟩:=G;refine aN (a9G) (d9Q l s a4 a0 e1 e2 h Q) ?_;delta d4L d4M d4N Ge Tu z6c Gf Gg z6f z6g z6h z6i z6j z6k z6l z6m z6n z6o z6p z6q tI wW iI;have tn: ∀x:Nat,(x:Int).toNat=x:=AK
  obtain⟨hl,a2,R,b7,hh,ha⟩:=hb;refine aA (by simp only [aP,bG,bC,AL]) ⟨l,⟨rfl,rfl⟩,⟨hl,a2⟩,fun x K=>⟨⟨⟨JG,JG⟩,aB (fun _=>⟨x,⟨rfl,rfl⟩,⟨fun n O=>?_,by have:=K.1;omega,by have:=K.1;omega⟩,⟨tK _,ha⟩,fun y X h1=>⟨y,JJ,JJ,JJ,JJ,JJ,JJ,⟨fun n O=>?_,h1,X.2⟩,JJ⟩⟩) (fun _=>⟨x,JJ,JJ,JJ,JJ,JJ,JJ,⟨fun n O=>?_,by have:=K.1;omega,by have:=K.1;omega⟩,JJ⟩)⟩,fun x _ hN=>⟨⟨⟨⟨x,0,0,[],.nilslice,0,_,0,0,0,0,0,[],.nilslice,0⟩,JJ,JJ,JJ,JJ,JJ,JJ,JJ,rfl,⟨⟨hN,fun s h=>(by cases h),BE _⟩,rfl,BE _,⟨.inl ⟨rfl,rfl,rfl⟩⟩⟩,JJ⟩,?_⟩,fun p _ D=>⟨p.1,⟨rfl,rfl⟩,D.ln.2,fun r hr=>⟨p.1,⟨rfl,rfl⟩,D.ln.2,fun r2 a5=>aA (by simp only [aP,bG,bR,AL]) (G p.1 [] r r2 ⟨D,fun s h=>(by cases h),BE _⟩)⟩⟩,fun p _ D=>⟨p.x,⟨rfl,rfl⟩,D.n.ln.2,fun r hr=>⟨p.x,⟨rfl,rfl⟩,D.n.ln.2,fun r2 a5=>aA (by simp only [aP,bG,bR,pS,AL]) (G p.x p.ss r r2 D)⟩⟩⟩⟩⟩
  ·have:=K.2.1 n O;exact⟨this.1.1,this.1.2.1,JF,this.1.2.2⟩
  ·have:=X.1 n O;exact⟨⟨this.1,this.2.1,this.2.2.2⟩,this.2.2.1⟩
  ·have:=K.2.1 n O;exact⟨this.1,JF⟩
  clear hN;intro x _ A;refine gO (fun c1=>gO (fun c2=>?_) (fun _=>?_)) (fun _=>?_)
  rotate_left
  ·rcases A.s.e with⟨_,_,e⟩| ⟨_,e,_⟩
   ·exact .inl ⟨(x.x,x.g),JJ,JJ,JJ,by rw [e],rfl,A.o.n,JJ⟩
   ·exact .inr ⟨x,JJ,JJ,JJ,by rw [e],rfl,A.o,JJ⟩
  ·rcases A.s.e with⟨_,_,e⟩| ⟨_,e,_⟩
   ·exact .inl ⟨(x.x,x.g),JJ,JJ,JJ,by rw [e],rfl,A.o.n,JJ⟩
   ·exact .inr ⟨x,JJ,JJ,JJ,by rw [e],rfl,A.o,JJ⟩
  have hi:x.i<s.length:=JF;have a3:aU s[x.i]:=R _ (AH hi);have c0:=A.o.n.ln;have z:IntKind.i64.wrap ((x.x.length:Int)+1)=((x.x.length+1:Nat):Int):=by rw [AF _ JF];rfl
  refine aA (by simp;omega) (bB (n:=s[x.i]) (by rw [tn,AO,BL,AA hi];rfl) ?_);have b0:Bx x.g (x.g.push (.cells [.int .i64 s[x.i]])) s[x.i]:=Bx.push;refine⟨_,b0.ge,⟨a3,JG,JG⟩,?_⟩;rintro k n2 ⟨k0,k5,Y⟩;have b1:=b0.set (m:=n2);obtain⟨y,ey,X⟩:=e5X k0 k5;refine aA (by simp;omega) (bB ey ⟨_,b1.ge,⟨Y,by rw [z];omega,by rw [z];omega⟩,?_⟩);rintro kL n3 ⟨L0,L1,q3⟩;rw [z]at L1;have b2:=b1.set (m:=n3);refine⟨_,b2.ge,⟨q3,by rw [z];omega,by rw [z];omega⟩,?_⟩;rintro kR n4 ⟨R0,R1,q4⟩;rw [z]at R1;have Z:=b2.set (m:=n4);have iL:aU kL:=by unfold aU;omega
  have iR:aU kR:=by unfold aU;omega
  refine⟨16-x.i,aB (fun _=>⟨n4,Z.ge,⟨q4,JG,JG⟩,fun k2 n5 h5=>⟨⟨x.x,x.i,0,x.ss,x.v,x.t,_,x.g.next,n5,_,kR,y,[],.nilslice,0⟩,JJ,JJ,JJ,JJ,JJ,JJ,JJ,JJ,JJ,rfl,rfl,A.box ⟨JF,hi⟩ (Z.set (m:=n5)) h5.2.2 ⟨tK _,iR,X⟩,AG _⟩⟩) (fun _=>⟨⟨x.x,x.i,0,x.ss,x.v,x.t,_,x.g.next,n4,kL,kR,y,[],.nilslice,0⟩,JJ,JJ,JJ,JJ,JJ,JJ,JJ,JJ,JJ,rfl,rfl,A.box ⟨JF,hi⟩ Z q4 ⟨iL,iR,X⟩,AG _⟩),?_⟩;clear b0 b1 b2 Z;rintro x1 _ ⟨hJ,hZ⟩ b5;refine⟨x1.n,hJ.g.1,⟨hJ.g.2.2,JG,JG⟩,?_⟩;rintro k n2 ⟨k0,k3,Y⟩;refine⟨100*(16-x1.i)+2,⟨_,JJ,JJ,JJ,JJ,JJ,JJ,JJ,by rw [GX k0],JJ,JJ,by rw [hZ.w],rfl,(hJ.ks (k:=k.toNat) hZ JF).next Y,JK⟩,?_⟩;intro q _ j b6;have b9:=j.o.n.ln;have a8:=j.i;have b4:=j.l;have a9:=j.k;refine gO (fun c=>?_) (fun c=>?_)
  ·have V:IntKind.i64.wrap ((q.x.length:Int)+2)=((q.x.length+2:Nat):Int):=by rw [AF _ JF];rfl
   have a7:IntKind.i64.wrap ((q.k:Int)-1)=((q.k-1:Nat):Int):=by rw [AF _ JF];omega
   refine⟨q.n,j.g.1,⟨j.g.2.2,by rw [V];omega,by rw [V];omega⟩,?_⟩;rintro k n2 ⟨k0,k1,Y⟩;have L:=j.next Y;exact L.v.app (xs:=[.int .i64 (IntKind.i64.wrap (k-1))]) JK (fun t' g2 ht hp R=>⟨_,JJ,JJ,JJ,JJ,JJ,JJ,JJ,by rw [a7],JJ,JJ,rfl,rfl,L.app JK (tK _) ht hp R,JK⟩)
  ·have a6:IntKind.i64.wrap ((q.i:Int)+1)=((q.i+1:Nat):Int):=by rw [AF _ JF];rfl
   have a1:G5 Proofs.Tryz.prog 22= .slc 1:=by kernel_rfl
   have hw:B3 (G5 Proofs.Tryz.prog 22) q.w= .vslice none 0 q.vs.length 1 (q.vs.map (IV.int .i64)):=by
    rw [a1];rcases j.v.e with⟨e1,e2,e3⟩| ⟨_,e,_⟩
    ·rw [e3,e1,e2];rfl
    ·rw [e];rfl
   rw [hw];exact j.s.app (xs:=iT ⟨q.a,q.b,q.y,q.vs,[]⟩) JF (fun t' g2 ht hp R=>⟨⟨q.x,q.i+1,0,_,_,t',g2,0,0,0,0,0,[],.nilslice,0⟩,JJ,JJ,JJ,JJ,by rw [a6],JJ,rfl,rfl,j.fin R,JK⟩)
 ·exact G.elim
def c4R:=aV 6 a7P a4L
theorem c9Y:aO env c4R:=aF d7Z (a9G)
end Go.Proofs.YthimicfahhgpcaaGreat
end
end
