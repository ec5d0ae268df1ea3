/-
  Texts of this proof, one after the other.
  Conditions: none.
-/
import Derived.Test.YtkonebkblgemkaaGreatX9
set_option linter.unusedVariables false
set_option linter.unusedSimpArgs false
set_option maxRecDepth 100000
set_option maxHeartbeats 4000000
noncomputable section
section
namespace Go.Proofs.YtkonebkblgemkaaGreat
open Go.Pv Go.M15 Go.M10
def lwO(g i:List IV)(h:Heap):Inv':= .or (hJ (Heap) (fun x=>[(1,.l 1 0),(2,.l 2 0),(5,.l 5 0),(6,.v (.int .i64 0))]) (fun x=>[(1,[.vslice none 0 2 2 g,.vslice none 0 2 9 i]),(2,[.nilslice,.nilslice]),(5,[.vslice (some 0) 4 2 2 g,.nilslice])]) (fun x=>x) (fun x=>True) (fun x=>2))
 (hJ (Heap×Nat×Nat×List IV) (fun x=>[(1,.l 1 0),(2,.l 2 0),(5,.l 5 0),(6,.v (.int .i64 (x.2.1:Int)))]) (fun x=>[(1,[.vslice none 0 2 2 g,.vslice none 0 2 9 i]),(2,[.nilslice,.nilslice]),(5,[.vslice (some 0) 4 2 2 g,.vslice (some x.2.2.1) (x.2.1*5) x.2.1 5 x.2.2.2])]) (fun x=>x.1) (fun x=>LwO x.1 x.2.1 x.2.2.1 x.2.2.2) (fun x=>2-x.2.1))
def lwP(g j:List IV)(h:Heap):Inv':=(hJ (Heap×Nat×LwS×FnD) (fun x=>[(1,.l 1 0),(2,.l 2 0),(5,.l 5 0),(6,.v (.int .i64 (x.2.2.2.i:Int))),(7,.l 7 0),(8,.v (.ptr x.2.2.1.id 0)),(9,.v (.int .i64 (x.2.1:Int)))]) (fun x=>[(1,[.vslice none 0 2 2 g,.vslice none 0 2 9 j]),(2,[.nilslice,.nilslice]),(5,[.vslice (some 0) 4 2 2 g,x.2.2.2.F]),(7,[.str x.2.2.2.nm,.vslice none 1 x.2.2.2.pc.length 1 (x.2.2.2.pc.map IV.str),.vslice none 1 x.2.2.2.lc.length 1 (x.2.2.2.lc.map IV.str),.vslice none 0 x.2.2.2.b.length 17 (aX x.2.2.2.b),.int .i64 x.2.2.2.ek,.int .i64 x.2.2.2.en,.str x.2.2.2.enm,.int .i64 x.2.2.2.eop,.vslice none 0 x.2.2.2.eks.length 5 (aW x.2.2.2.eks)])]) (fun x=>x.1) (fun x=>LwP g j x.1 x.2.1 x.2.2.2 x.2.2.1) (fun x=>(2-x.2.2.2.i)*100+50+(x.2.2.2.pc.length-x.2.1)))
def lwQ(g j:List IV)(h:Heap):Inv':=(hJ (Heap×Nat×LwS×FnD) (fun x=>[(1,.l 1 0),(2,.l 2 0),(5,.l 5 0),(6,.v (.int .i64 (x.2.2.2.i:Int))),(7,.l 7 0),(8,.v (.ptr x.2.2.1.id 0)),(10,.v (.int .i64 (x.2.1:Int)))]) (fun x=>[(1,[.vslice none 0 2 2 g,.vslice none 0 2 9 j]),(2,[.nilslice,.nilslice]),(5,[.vslice (some 0) 4 2 2 g,x.2.2.2.F]),(7,[.str x.2.2.2.nm,.vslice none 1 x.2.2.2.pc.length 1 (x.2.2.2.pc.map IV.str),.vslice none 1 x.2.2.2.lc.length 1 (x.2.2.2.lc.map IV.str),.vslice none 0 x.2.2.2.b.length 17 (aX x.2.2.2.b),.int .i64 x.2.2.2.ek,.int .i64 x.2.2.2.en,.str x.2.2.2.enm,.int .i64 x.2.2.2.eop,.vslice none 0 x.2.2.2.eks.length 5 (aW x.2.2.2.eks)])]) (fun x=>x.1) (fun x=>LwQ g j x.1 x.2.1 x.2.2.2 x.2.2.1) (fun x=>(2-x.2.2.2.i)*100+0+(x.2.2.2.lc.length-x.2.1)))
def f5Z(xs:List IV)(h:Heap)(K:KT):Prop:=match xs with
 | [.agg [.vslice none 0 na 2 ac,.vslice none 0 nf 9 fc]]=>qG ac fc/\(na=2/\nf=2)/\∀(g:List IV),c1C g->K (.tuple [.agg [.vslice none 0 2 2 ac,.vslice none 0 2 5 g],.int .i64 0]) h
 |_=>False
def jP(g:Heap×Nat×LwS×FnD):=g.2.2.2
def d2A(g:Heap×Nat×LwS×FnD):=[IV.str (FnD.nm (jP g)),IV.vslice none 1 ((FnD.pc (jP g)).length) 1 (List.map IV.str (FnD.pc (jP g))),IV.vslice none 1 ((FnD.lc (jP g)).length) 1 (List.map IV.str (FnD.lc (jP g))),IV.vslice none 0 ((FnD.b (jP g)).length) 17 (aX (FnD.b (jP g))),iI (FnD.ek
 (jP g)),iI (FnD.en (jP g)),IV.str (FnD.enm (jP g)),iI (FnD.eop (jP g)),IV.vslice none 0 ((FnD.eks (jP g)).length) 5 (aW (FnD.eks (jP g)))]
def eM(g:Heap×Nat×LwS×FnD):=g.2.2.2
def d8O(g:Heap×Nat×LwS×FnD):=[IV.str (FnD.nm (eM g)),IV.vslice none 1 ((FnD.pc (eM g)).length) 1 (List.map IV.str (FnD.pc (eM g))),IV.vslice none 1 ((FnD.lc (eM g)).length) 1 (List.map IV.str (FnD.lc (eM g))),IV.vslice none 0 ((FnD.b (eM g)).length) 17 (aX (FnD.b (eM g))),iI (FnD.ek
 (eM g)),iI (FnD.en (eM g)),IV.str (FnD.enm (eM g)),iI (FnD.eop (eM g)),IV.vslice none 0 ((FnD.eks (eM g)).length) 5 (aW (FnD.eks (eM g)))]
def eA(g:Heap×Nat×LwS×FnD):=LwS.id g.2.2.1
def fZ(g:Heap×Nat×LwS×FnD):=LwS.id g.2.2.1
def qZ(i g:List IV):=[IV.vslice none 0 2 2 i,IV.vslice none 0 2 9 g]
def oF:=IObj.tip 1
def b7H(i:Heap×Nat×LwS×FnD)(j:List UInt8)(g:List IV):=(i.1.push oF).set (fZ i) (IObj.cells (List.take 3 g++ [IV.vslice (some (i.1.next)) 1 1 1 [IV.str j]]++List.drop 4 g))
def b7I(i:Heap×Nat×LwS×FnD)(j:List UInt8)(g:List IV):=(i.1.push oF).set (eA i) (IObj.cells (List.take 3 g++ [IV.vslice (some (i.1.next)) 1 1 1 [IV.str j]]++List.drop 4 g))
def b7J(m:Heap×Nat×LwS×FnD)(i j p:Nat)(r g:List IV)(l:List UInt8):=(m.1.set i (IObj.tip (j+1))).set (fZ m) (IObj.cells (List.take 3 g++ [IV.vslice (some i) (j+1) (p+1) 1 (r++ [IV.str l])]++List.drop 4 g))
def b7K(l:Heap×Nat×LwS×FnD)(j g p:Nat)(m i:List IV)(r:List UInt8):=(l.1.set j (IObj.tip (g+1))).set (eA l) (IObj.cells (List.take 3 i++ [IV.vslice (some j) (g+1) (p+1) 1 (m++ [IV.str r])]++List.drop 4 i))
def b7L(m j p:Nat)(l g:List IV)(i:List UInt8):=IObj.cells (List.take 3 g++ [IV.vslice (some m) (j+1) (p+1) 1 (l++ [IV.str i])]++List.drop 4 g)
def b7M(j p m:Nat)(i g:List IV)(l:List UInt8):=IObj.cells (List.take 3 g++ [IV.vslice (some j) (p+1) (m+1) 1 (i++ [IV.str l])]++List.drop 4 g)
def d8P(i g:List IV):=IObj.cells [IV.vslice none 0 2 2 i,IV.vslice none 0 2 9 g,IV.nilslice,IV.nilslice,IV.nilslice,iI 0,iI 0]
def pH(v:Int):=[iI v]
def sU(v:Int)(h2:Heap):=h2.push (IObj.cells (pH v))
def kI:=some (0:Nat)
def oG:=[IV.nilslice,IV.nilslice]
def sV:=TV.l 1 0
def sW:=TV.l 2 0
def sX:=TV.l 5 0
def b2G(h2:Heap):=[IV.hslice (h2.next) 0 1 1]
def d8Q(g:Heap×Nat×LwS×FnD):=((2:Nat)-FnD.i (jP g))*100+50+((FnD.pc (jP g)).length-g.2.1)
def d8R(g:Heap×Nat×LwS×FnD):=((2:Nat)-FnD.i (eM g))*100+0+((FnD.lc (eM g)).length-g.2.1)
def tW(g:Heap×Nat×LwS×FnD):=g.2.1
def a9G(g:List IV):=[IV.vslice kI 4 2 2 g,IV.nilslice]
def a5J:=TV.v (.int .i64 0)
def b7N(g:Heap×Nat×LwS×FnD):=wW ((g.2.1:Int)+1)
def a9H(i:List IV)(g:Heap×Nat×LwS×FnD):=[IV.vslice kI 4 2 2 i,FnD.F (jP g)]
def a9I(i:List IV)(g:Heap×Nat×LwS×FnD):=[IV.vslice kI 4 2 2 i,FnD.F (eM g)]
def xV:=TV.l 7 0
def b7O(g:Heap×Nat×LwS×FnD):=wW ((↑(FnD.i (eM g)):Int)+1)
def d8S(p l:List IV)(v j:Int)(i:Heap)(g:Heap×Nat×LwS×FnD)(m:Nat):=[IV.vslice kI 4 2 2 p,IV.vslice (some (i.next)) 5 1 5 [IV.str (FnD.nm (eM g)),iI (↑((FnD.pc (eM g)).length):Int),IV.vslice none 0 m 3 l,iI v,iI j]]
def b7P(g:Heap×Nat×LwS×FnD):=wW (((tW g):Int)+1)
abbrev c8B(g:Heap×Nat×LwS×FnD):=(g.2.1:Int)< (↑((FnD.lc (eM g)).length):Int)
def xW(g:Nat):=IObj.tip (g+1)
def xX(g:Nat):=IObj.tip (g+1)
abbrev c8C(g:Heap×Nat×LwS×FnD):=((tW g):Int)< (↑((FnD.pc (jP g)).length):Int)
def d8T(y u m:List IV)(v p:Int)(g:Heap×Nat×LwS×FnD)(j l i r:Nat):=[IV.vslice kI 4 2 2 y,IV.vslice (some j) (l+5) (i+1) 5 (u++ [IV.str (FnD.nm (eM g)),iI (↑((FnD.pc (eM g)).length):Int),IV.vslice none 0 r 3 m,iI v,iI p])]
def b7Q(g:Heap):=g.push (IObj.tip 5)
def d8U:=PT.node PT.nil (some (IObj.tip 4)) PT.nil
def b7R(g i:List IV)(r:Int)(m:List IV)(p:Heap)(j:Nat):Prop:= ∃(l:Heap),some sV=some sV/\some sW=some sW/\some sX=some sX/\tI (r)=some a5J/\some (qZ g i)=some (qZ g i)/\some oG=some oG/\some (m)=some (a9G g)/\p=l/\True/\2<j
def b7S(i j:List IV)(r:Int)(m:List IV)(p:Heap)(l:Nat):Prop:= ∃(g:Heap×Nat×Nat×List IV),some sV=some sV/\some sW=some sW/\some sX=some sX/\tI (r)=tI (g.2.1:Int)/\some (qZ i j)=some (qZ i j)/\some oG=some oG/\some (m)=some [IV.vslice kI 4 2 2 i,IV.vslice (some g.2.2.1) (g.2.1*5) g.2.1 5 g.2.2.2]
 /\p=g.1/\LwO g.1 g.2.1 g.2.2.1 g.2.2.2/\(2:Nat)-g.2.1<l
def d8V(M:Nat)(j l:List IV)(y:Int)(r:IV)(u m:List IV)(p:Heap):Prop:= ∃(g:Heap×Nat×LwS×FnD),some sV=some sV/\some sW=some sW/\some sX=some sX/\tI (y)=tI ((FnD.i g.2.2.2):Int)/\some xV=some xV/\some (TV.v (r))=some (TV.v (.ptr (LwS.id g.2.2.1) 0))/\some a5J=tI (g.2.1:Int)/\some (qZ j l)=some (qZ j l)
 /\some oG=some oG/\some (u)=some [IV.vslice kI 4 2 2 j,FnD.F g.2.2.2]/\some (m)=some [IV.str (FnD.nm g.2.2.2),IV.vslice none 1 ((FnD.pc g.2.2.2).length) 1 (List.map IV.str (FnD.pc g.2.2.2)),IV.vslice none 1 ((FnD.lc g.2.2.2).length) 1 (List.map IV.str (FnD.lc g.2.2.2)),
 IV.vslice none 0 ((FnD.b g.2.2.2).length) 17 (aX (FnD.b g.2.2.2)),iI (FnD.ek g.2.2.2),iI (FnD.en g.2.2.2),IV.str (FnD.enm g.2.2.2),iI (FnD.eop g.2.2.2),IV.vslice none 0 ((FnD.eks g.2.2.2).length) 5 (aW (FnD.eks g.2.2.2))]/\p=g.1/\LwP j l g.1 g.2.1 g.2.2.2 g.2.2.1
 /\((2:Nat)-FnD.i g.2.2.2)*100+50+((FnD.pc g.2.2.2).length-g.2.1)<=M
def xY(j l:List IV)(y u:Int)(r:IV)(m p:List IV)(z:Heap)(A:Nat):Prop:= ∃(g:Heap×Nat×LwS×FnD),some sV=some sV/\some sW=some sW/\some sX=some sX/\tI (y)=tI ((FnD.i g.2.2.2):Int)/\some xV=some xV/\some (TV.v (r))=some (TV.v (.ptr (LwS.id g.2.2.1) 0))/\tI (u)=tI (g.2.1:Int)/\some (qZ j l)=some (qZ j l)
 /\some oG=some oG/\some (m)=some [IV.vslice kI 4 2 2 j,FnD.F g.2.2.2]/\some (p)=some [IV.str (FnD.nm g.2.2.2),IV.vslice none 1 ((FnD.pc g.2.2.2).length) 1 (List.map IV.str (FnD.pc g.2.2.2)),IV.vslice none 1 ((FnD.lc g.2.2.2).length) 1 (List.map IV.str (FnD.lc g.2.2.2)),
 IV.vslice none 0 ((FnD.b g.2.2.2).length) 17 (aX (FnD.b g.2.2.2)),iI (FnD.ek g.2.2.2),iI (FnD.en g.2.2.2),IV.str (FnD.enm g.2.2.2),iI (FnD.eop g.2.2.2),IV.vslice none 0 ((FnD.eks g.2.2.2).length) 5 (aW (FnD.eks g.2.2.2))]/\z=g.1/\LwP j l g.1 g.2.1 g.2.2.2 g.2.2.1
 /\((2:Nat)-FnD.i g.2.2.2)*100+50+((FnD.pc g.2.2.2).length-g.2.1)<A
def d8W(M:Nat)(j l:List IV)(y:Int)(r:IV)(u m:List IV)(p:Heap):Prop:= ∃(g:Heap×Nat×LwS×FnD),some sV=some sV/\some sW=some sW/\some sX=some sX/\tI (y)=tI ((FnD.i g.2.2.2):Int)/\some xV=some xV/\some (TV.v (r))=some (TV.v (.ptr (LwS.id g.2.2.1) 0))/\some a5J=tI (g.2.1:Int)/\some (qZ j l)=some (qZ j l)
 /\some oG=some oG/\some (u)=some [IV.vslice kI 4 2 2 j,FnD.F g.2.2.2]/\some (m)=some [IV.str (FnD.nm g.2.2.2),IV.vslice none 1 ((FnD.pc g.2.2.2).length) 1 (List.map IV.str (FnD.pc g.2.2.2)),IV.vslice none 1 ((FnD.lc g.2.2.2).length) 1 (List.map IV.str (FnD.lc g.2.2.2)),
 IV.vslice none 0 ((FnD.b g.2.2.2).length) 17 (aX (FnD.b g.2.2.2)),iI (FnD.ek g.2.2.2),iI (FnD.en g.2.2.2),IV.str (FnD.enm g.2.2.2),iI (FnD.eop g.2.2.2),IV.vslice none 0 ((FnD.eks g.2.2.2).length) 5 (aW (FnD.eks g.2.2.2))]/\p=g.1/\LwQ j l g.1 g.2.1 g.2.2.2 g.2.2.1
 /\((2:Nat)-FnD.i g.2.2.2)*100+0+((FnD.lc g.2.2.2).length-g.2.1)<=M
def xZ(j l:List IV)(y u:Int)(r:IV)(m p:List IV)(z:Heap)(A:Nat):Prop:= ∃(g:Heap×Nat×LwS×FnD),some sV=some sV/\some sW=some sW/\some sX=some sX/\tI (y)=tI ((FnD.i g.2.2.2):Int)/\some xV=some xV/\some (TV.v (r))=some (TV.v (.ptr (LwS.id g.2.2.1) 0))/\tI (u)=tI (g.2.1:Int)/\some (qZ j l)=some (qZ j l)
 /\some oG=some oG/\some (m)=some [IV.vslice kI 4 2 2 j,FnD.F g.2.2.2]/\some (p)=some [IV.str (FnD.nm g.2.2.2),IV.vslice none 1 ((FnD.pc g.2.2.2).length) 1 (List.map IV.str (FnD.pc g.2.2.2)),IV.vslice none 1 ((FnD.lc g.2.2.2).length) 1 (List.map IV.str (FnD.lc g.2.2.2)),
 IV.vslice none 0 ((FnD.b g.2.2.2).length) 17 (aX (FnD.b g.2.2.2)),iI (FnD.ek g.2.2.2),iI (FnD.en g.2.2.2),IV.str (FnD.enm g.2.2.2),iI (FnD.eop g.2.2.2),IV.vslice none 0 ((FnD.eks g.2.2.2).length) 5 (aW (FnD.eks g.2.2.2))]/\z=g.1/\LwQ j l g.1 g.2.1 g.2.2.2 g.2.2.1
 /\((2:Nat)-FnD.i g.2.2.2)*100+0+((FnD.lc g.2.2.2).length-g.2.1)<A
theorem g8C(r u:List IV)(h:Heap)(Q:KT):dF (aV f5Y) env 33 dV (icA 7 (lwO r u h) (icA 1000013 (lwP r u h) (tK 1000018 (lwQ r u h)))) bT [.agg [.vslice none 0 2 2 r,.vslice none 0 2 9 u]] h Q=(
 aC (aN [IV.agg (qZ r u)]) (qG r u/\((∃(x:Heap),some sV=some sV/\some sW=some sW/\some sX=some sX/\some a5J=some a5J/\some (qZ r u)=some (qZ r u)/\some oG=some oG/\some (a9G r)=some (a9G r)/\Heap.mk d8U ((0:Nat)+1)=x/\True/\True) \/ ∃(x:Heap×Nat×Nat×List IV),some sV=some sV/\some sW=some sW/\some sX=some sX/\some a5J=tI (x.2.1:Int)/\some (qZ r u)=some (qZ r u)/\some oG=some oG/\some (a9G r)=some [IV.vslice kI 4 2 2 r,IV.vslice (some x.2.2.1) (x.2.1*5) x.2.1 5 x.2.2.2]/\Heap.mk d8U ((0:Nat)+1)=x.1/\LwO x.1 x.2.1 (x.2.2.1) x.2.2.2/\True)/\(∀(x:Heap)(b:FF),True->bZ u 0 fun(s0:List UInt8)=>bH 1 u 1 fun(i1:Option Nat)(e2 l3:Nat)(c4:List IV)=>bH 1 u 2 fun(i5:Option Nat)(e6 l7:Nat)(c8:List IV)=>bH 17 u 3 fun(i9:Option Nat)(p3 o8:Nat)(q1:List IV)=>aK .i64 u 4 fun p0=>aK .i64 u 5 fun o5=>bZ u 6 fun(q4:List UInt8)=>aK .i64 u 7 fun p5=>bH 5 u 8 fun(r2:Option Nat)(p6 o4:Nat)(q8:List IV)=> ∃(p:PSt),bI (x.push (d8P r u)) (x.next) p 26 0 0 []/\∀(v:Int)(h2:Heap),aQ (x.push (d8P r u)) (x.next) p 26 0 v h2->aF h2 (x.next) fun(j0:List IV)=>aC (Nat.ble 6 j0.length) (∃(M:Nat),(d8V M r u 0 (IV.ptr (x.next) 0) (a9G r) [IV.str s0,IV.vslice i1 e2 l3 1 c4,IV.vslice i5 e6 l7 1 c8,IV.vslice i9 p3 o8 17 q1,iI p0,iI o5,IV.str q4,iI p5,IV.vslice r2 p6 o4 5 q8] (h2.set (x.next) (IObj.cells (List.take 5 j0++(pH v)++List.drop 6 j0))))/\∀(x:Heap×Nat×LwS×FnD)(b:FF),LwP r u x.1 x.2.1 x.2.2.2 x.2.2.1->((2:Nat)-FnD.i x.2.2.2)*100+50+((FnD.pc x.2.2.2).length-x.2.1)<=M->aM (decide ((x.2.1:Int)< (↑((FnD.pc (((x.2).2).2)).length):Int))) (aF x.1 (LwS.id x.2.2.1) fun r0=>cK 1 r0 3 (aC (decide (0<=(x.2.1:Int)) &&decide ((x.2.1:Int)< (↑((FnD.pc x.2.2.2).length):Int))) (bZ (List.map IV.str (FnD.pc x.2.2.2)) ((x.2.1:Int).toNat*1) fun(b9:List UInt8)=>aF (x.1.push oF) (LwS.id x.2.2.1) fun G=>aC (Nat.ble 4 (G.length)) (aF ((x.1.push oF).set (LwS.id x.2.2.1) (IObj.cells (List.take 3 G++ [IV.vslice (some (x.1.next)) 1 1 1 [IV.str b9]]++List.drop 4 G))) (LwS.id x.2.2.1) fun(p2:List IV)=>cT 1 p2 4 (∃(p:PSt),bI ((x.1.push oF).set (LwS.id x.2.2.1) (IObj.cells (List.take 3 G++ [IV.vslice (some (x.1.next)) 1 1 1 [IV.str b9]]++List.drop 4 G))) (LwS.id x.2.2.1) p 2 (x.2.1:Int) 0 []/\∀(v:Int)(h2:Heap),aQ ((x.1.push oF).set (LwS.id x.2.2.1) (IObj.cells (List.take 3 G++ [IV.vslice (some ((x.1).next)) 1 1 1 [IV.str b9]]++List.drop 4 G))) (LwS.id x.2.2.1) p 2 (x.2.1:Int) v h2->aY h2 (LwS.id x.2.2.1) 4=aY ((x.1.push oF).set (LwS.id (x.2.2.1)) (IObj.cells (List.take 3 G++ [IV.vslice (some (x.1.next)) 1 1 1 [IV.str b9]]++List.drop 4 G))) (LwS.id x.2.2.1) 4/\aF (sU v h2) (LwS.id x.2.2.1) fun i3=>aC (Nat.ble 5 i3.length) (xY r u ((FnD.i x.2.2.2):Int) (wW ((x.2.1:Int)+1)) (IV.ptr (LwS.id x.2.2.1) 0) [IV.vslice kI 4 2 2 r,FnD.F x.2.2.2] [IV.str (FnD.nm x.2.2.2),IV.vslice none 1 ((FnD.pc x.2.2.2).length) 1 (List.map IV.str (FnD.pc x.2.2.2)),IV.vslice none 1 ((FnD.lc x.2.2.2).length) 1 (List.map IV.str (FnD.lc x.2.2.2)),IV.vslice none 0 ((FnD.b x.2.2.2).length) 17 (aX (FnD.b x.2.2.2)),iI (FnD.ek ((x.2.2).2)),iI (FnD.en x.2.2.2),IV.str (FnD.enm x.2.2.2),iI (FnD.eop x.2.2.2),IV.vslice none 0 ((FnD.eks x.2.2.2).length) 5 (aW (FnD.eks x.2.2.2))] ((sU v h2).set (LwS.id x.2.2.1) (IObj.cells (List.take 4 i3++(b2G h2)++List.drop 5 i3))) (((2:Nat)-FnD.i x.2.2.2)*100+50+((FnD.pc ((x.2.2).2)).length-x.2.1)))) fun(i7 p7 d2:Nat)=> ∃(p:PSt),bI ((x.1.push oF).set (LwS.id x.2.2.1) (IObj.cells (List.take 3 G++ [IV.vslice (some (x.1.next)) 1 1 1 [IV.str b9]]++List.drop 4 G))) (LwS.id x.2.2.1) p 2 (x.2.1:Int) 0 []/\∀(v:Int)(h2:Heap),aQ ((x.1.push oF).set (LwS.id x.2.2.1) (IObj.cells (List.take 3 G++ [IV.vslice (some (x.1.next)) 1 1 1 [IV.str b9]]++List.drop 4 G))) (LwS.id x.2.2.1) p 2 (x.2.1:Int) v h2->aY h2 (LwS.id x.2.2.1) 4=aY (((x.1).push oF).set (LwS.id x.2.2.1) (IObj.cells (List.take 3 G++ [IV.vslice (some (x.1.next)) 1 1 1 [IV.str b9]]++List.drop 4 G))) (LwS.id x.2.2.1) 4/\aF h2 i7 fun h9=>aC (Nat.beq p7 0 && (Nat.ble (d2*1) h9.length&&Nat.ble ((d2+1)*8) 140737488355328)) (aF ((h2.set i7 IObj.dead).push (IObj.cells (List.take (d2*1) h9++(pH v)))) (LwS.id x.2.2.1) fun(i4:List IV)=>aC (Nat.ble 5 i4.length) (xY r u ((FnD.i x.2.2.2):Int) (wW ((x.2.1:Int)+1)) (IV.ptr (LwS.id x.2.2.1) 0) [IV.vslice kI 4 2 2 r,FnD.F x.2.2.2] [IV.str (FnD.nm x.2.2.2),IV.vslice none 1 ((FnD.pc x.2.2.2).length) 1 (List.map IV.str (FnD.pc x.2.2.2)),IV.vslice none 1 ((FnD.lc x.2.2.2).length) 1 (List.map IV.str (FnD.lc x.2.2.2)),IV.vslice none 0 ((FnD.b x.2.2.2).length) 17 (aX (FnD.b x.2.2.2)),iI (FnD.ek (((x.2).2).2)),iI (FnD.en x.2.2.2),IV.str (FnD.enm x.2.2.2),iI (FnD.eop x.2.2.2),IV.vslice none 0 ((FnD.eks x.2.2.2).length) 5 (aW (FnD.eks (x.2.2.2)))] (((h2.set i7 IObj.dead).push (IObj.cells (List.take (d2*1) h9++(pH v)))).set (LwS.id x.2.2.1) (IObj.cells (List.take 4 i4++ [IV.hslice (h2.next) 0 (d2+1) 1]++List.drop 5 i4))) (((2:Nat)-FnD.i x.2.2.2)*100+50+((FnD.pc x.2.2.2).length-x.2.1))))))) fun(D A b4:Nat)(c1:List IV)=>aC (decide (0<=(x.2.1:Int)) &&decide ((x.2.1:Int)< (↑((FnD.pc x.2.2.2).length):Int))) (bZ (List.map IV.str (FnD.pc x.2.2.2)) ((x.2.1:Int).toNat*1) fun(c0:List UInt8)=>dG x.1 D fun(q5:Nat)=>aC (Nat.beq q5 A&&Nat.ble ((b4+1)*16) 140737488355328) (aF (x.1.set D (xW A)) (LwS.id x.2.2.1) fun b1=>aC (Nat.ble 4 b1.length) (aF ((x.1.set D (xW A)).set (LwS.id x.2.2.1) (b7L D A b4 c1 b1 c0)) (LwS.id x.2.2.1) fun q7=>cT 1 q7 4 (∃(p:PSt),bI ((x.1.set D (xW A)).set (LwS.id x.2.2.1) (b7L D A b4 c1 b1 c0)) (LwS.id x.2.2.1) p 2 (x.2.1:Int) 0 []/\∀(v:Int)(h2:Heap),aQ ((x.1.set D (xW A)).set (LwS.id x.2.2.1) (b7L D A b4 c1 b1 c0)) (LwS.id ((x.2.2).1)) p 2 (x.2.1:Int) v h2->aY h2 (LwS.id x.2.2.1) 4=aY ((x.1.set D (xW A)).set (LwS.id x.2.2.1) (b7L D A b4 c1 b1 c0)) (LwS.id (((x.2).2).1)) 4/\aF (sU v h2) (LwS.id x.2.2.1) fun g6=>aC (Nat.ble 5 g6.length) (xY r u ((FnD.i x.2.2.2):Int) (wW ((x.2.1:Int)+1)) (IV.ptr (LwS.id x.2.2.1) 0) [IV.vslice kI 4 2 2 r,FnD.F x.2.2.2] [IV.str (FnD.nm x.2.2.2),IV.vslice none 1 ((FnD.pc x.2.2.2).length) 1 (List.map IV.str (FnD.pc x.2.2.2)),IV.vslice none 1 ((FnD.lc x.2.2.2).length) 1 (List.map IV.str (FnD.lc x.2.2.2)),IV.vslice none 0 ((FnD.b x.2.2.2).length) 17 (aX (FnD.b x.2.2.2)),iI (FnD.ek x.2.2.2),iI (FnD.en x.2.2.2),IV.str (FnD.enm x.2.2.2),iI (FnD.eop x.2.2.2),IV.vslice none 0 ((FnD.eks x.2.2.2).length) 5 (aW (FnD.eks x.2.2.2))] ((sU v h2).set (LwS.id x.2.2.1) (IObj.cells (List.take 4 g6++(b2G h2)++List.drop 5 g6))) (((2:Nat)-FnD.i (x.2.2.2))*100+50+((FnD.pc x.2.2.2).length-x.2.1)))) fun(i0 q3 e8:Nat)=> ∃(p:PSt),bI ((x.1.set D (xW A)).set (LwS.id x.2.2.1) (b7L D A b4 c1 b1 c0)) (LwS.id x.2.2.1) p 2 (x.2.1:Int) 0 []/\∀(v:Int)(h2:Heap),aQ ((x.1.set D (xW A)).set (LwS.id x.2.2.1) (b7L D A b4 c1 b1 c0)) (LwS.id ((x.2.2).1)) p 2 (x.2.1:Int) v h2->aY h2 (LwS.id x.2.2.1) 4=aY ((x.1.set D (xW A)).set (LwS.id x.2.2.1) (b7L D A b4 c1 b1 c0)) (LwS.id (((x.2).2).1)) 4/\aF h2 i0 fun g7=>aC (Nat.beq q3 0 && (Nat.ble (e8*1) g7.length&&Nat.ble ((e8+1)*8) 140737488355328)) (aF ((h2.set i0 IObj.dead).push (IObj.cells (List.take (e8*1) g7++(pH v)))) (LwS.id x.2.2.1) fun i2=>aC (Nat.ble 5 i2.length) (xY r u ((FnD.i x.2.2.2):Int) (wW ((x.2.1:Int)+1)) (IV.ptr (LwS.id x.2.2.1) 0) [IV.vslice kI 4 2 2 r,FnD.F x.2.2.2] [IV.str (FnD.nm x.2.2.2),IV.vslice none 1 ((FnD.pc x.2.2.2).length) 1 (List.map IV.str (FnD.pc (((x.2).2).2))),IV.vslice none 1 ((FnD.lc x.2.2.2).length) 1 (List.map IV.str (FnD.lc x.2.2.2)),IV.vslice none 0 ((FnD.b x.2.2.2).length) 17 (aX (FnD.b x.2.2.2)),iI (FnD.ek x.2.2.2),iI (FnD.en x.2.2.2),IV.str (FnD.enm x.2.2.2),iI (FnD.eop x.2.2.2),IV.vslice none 0 ((FnD.eks (x.2.2.2)).length) 5 (aW (FnD.eks x.2.2.2))] (((h2.set i0 IObj.dead).push (IObj.cells (List.take (e8*1) g7++(pH v)))).set (LwS.id x.2.2.1) (IObj.cells (List.take 4 i2++ [IV.hslice (h2.next) 0 (e8+1) 1]++List.drop 5 i2))) (((2:Nat)-FnD.i x.2.2.2)*100+50+((FnD.pc x.2.2.2).length-x.2.1)))))))) (∃(M:Nat),(d8W M r u (↑(FnD.i ((x.2.2).2)):Int) (IV.ptr (LwS.id x.2.2.1) 0) [IV.vslice kI 4 2 2 r,FnD.F x.2.2.2] [IV.str (FnD.nm x.2.2.2),IV.vslice none 1 ((FnD.pc (((x.2).2).2)).length) 1 (List.map IV.str (FnD.pc x.2.2.2)),IV.vslice none 1 ((FnD.lc x.2.2.2).length) 1 (List.map IV.str (FnD.lc x.2.2.2)),IV.vslice none 0 ((FnD.b ((x.2.2).2)).length) 17 (aX (FnD.b x.2.2.2)),iI (FnD.ek x.2.2.2),iI (FnD.en x.2.2.2),IV.str (FnD.enm x.2.2.2),iI (FnD.eop ((x.2.2).2)),IV.vslice none 0 ((FnD.eks x.2.2.2).length) 5 (aW (FnD.eks x.2.2.2))] x.1)/\∀(x:Heap×Nat×LwS×FnD)(b:FF),LwQ r u x.1 x.2.1 x.2.2.2 x.2.2.1->((2:Nat)-FnD.i x.2.2.2)*100+0+((FnD.lc x.2.2.2).length-x.2.1)<=M->aM (decide ((x.2.1:Int)< (↑((FnD.lc (((x.2).2).2)).length):Int))) (aF x.1 (LwS.id x.2.2.1) fun o9=>cK 1 o9 3 (aC (decide (0<=(x.2.1:Int)) &&decide ((x.2.1:Int)< (↑((FnD.lc x.2.2.2).length):Int))) (bZ (List.map IV.str (FnD.lc x.2.2.2)) ((x.2.1:Int).toNat*1) fun(c2:List UInt8)=>aF (x.1.push oF) (LwS.id x.2.2.1) fun K=>aC (Nat.ble 4 (K.length)) (aF ((x.1.push oF).set (LwS.id x.2.2.1) (IObj.cells (List.take 3 K++ [IV.vslice (some (x.1.next)) 1 1 1 [IV.str c2]]++List.drop 4 K))) (LwS.id x.2.2.1) fun(o6:List IV)=>cT 1 o6 4 (∃(p:PSt),bI ((x.1.push oF).set (LwS.id x.2.2.1) (IObj.cells (List.take 3 K++ [IV.vslice (some (x.1.next)) 1 1 1 [IV.str c2]]++List.drop 4 K))) (LwS.id x.2.2.1) p 1 0 0 []/\∀(v:Int)(h2:Heap),aQ ((x.1.push oF).set (LwS.id x.2.2.1) (IObj.cells (List.take 3 K++ [IV.vslice (some (x.1.next)) 1 1 1 [IV.str c2]]++List.drop 4 K))) (LwS.id x.2.2.1) p 1 0 v h2->aY h2 (LwS.id x.2.2.1) 4=aY ((x.1.push oF).set (LwS.id x.2.2.1) (IObj.cells (List.take 3 K++ [IV.vslice (some (x.1.next)) 1 1 1 [IV.str c2]]++List.drop 4 K))) (LwS.id x.2.2.1) 4/\aF (sU v h2) (LwS.id x.2.2.1) fun i8=>aC (Nat.ble 5 i8.length) (xZ r u ((FnD.i x.2.2.2):Int) (wW ((x.2.1:Int)+1)) (IV.ptr (LwS.id x.2.2.1) 0) [IV.vslice kI 4 2 2 r,FnD.F ((x.2.2).2)] [IV.str (FnD.nm x.2.2.2),IV.vslice none 1 ((FnD.pc x.2.2.2).length) 1 (List.map IV.str (FnD.pc x.2.2.2)),IV.vslice none 1 ((FnD.lc (((x.2).2).2)).length) 1 (List.map IV.str (FnD.lc x.2.2.2)),IV.vslice none 0 ((FnD.b x.2.2.2).length) 17 (aX (FnD.b x.2.2.2)),iI (FnD.ek x.2.2.2),iI (FnD.en x.2.2.2),IV.str (FnD.enm x.2.2.2),iI (FnD.eop x.2.2.2),IV.vslice none 0 ((FnD.eks x.2.2.2).length) 5 (aW (FnD.eks (((x.2).2).2)))] ((sU v h2).set (LwS.id x.2.2.1) (IObj.cells (List.take 4 i8++(b2G h2)++List.drop 5 i8))) (((2:Nat)-FnD.i x.2.2.2)*100+0+((FnD.lc x.2.2.2).length-x.2.1)))) fun(i6 r1 f0:Nat)=> ∃(p:PSt),bI ((x.1.push oF).set (LwS.id x.2.2.1) (IObj.cells (List.take 3 K++ [IV.vslice (some (x.1.next)) 1 1 1 [IV.str c2]]++List.drop 4 K))) (LwS.id x.2.2.1) p 1 0 0 []/\∀(v:Int)(h2:Heap),aQ ((x.1.push oF).set (LwS.id x.2.2.1) (IObj.cells (List.take 3 K++ [IV.vslice (some (x.1.next)) 1 1 1 [IV.str c2]]++List.drop 4 K))) (LwS.id x.2.2.1) p 1 0 v h2->aY h2 (LwS.id x.2.2.1) 4=aY ((x.1.push oF).set (LwS.id x.2.2.1) (IObj.cells (List.take 3 K++ [IV.vslice (some (x.1.next)) 1 1 1 [IV.str c2]]++List.drop 4 K))) (LwS.id x.2.2.1) 4/\aF h2 i6 fun h7=>aC (Nat.beq r1 0 && (Nat.ble (f0*1) h7.length&&Nat.ble ((f0+1)*8) 140737488355328)) (aF ((h2.set i6 IObj.dead).push (IObj.cells (List.take (f0*1) h7++(pH v)))) (LwS.id x.2.2.1) fun g8=>aC (Nat.ble 5 g8.length) (xZ r u ((FnD.i x.2.2.2):Int) (wW ((x.2.1:Int)+1)) (IV.ptr (LwS.id x.2.2.1) 0) [IV.vslice kI 4 2 2 r,FnD.F x.2.2.2] [IV.str (FnD.nm ((x.2.2).2)),IV.vslice none 1 ((FnD.pc x.2.2.2).length) 1 (List.map IV.str (FnD.pc x.2.2.2)),IV.vslice none 1 ((FnD.lc x.2.2.2).length) 1 (List.map IV.str (FnD.lc (x.2.2.2))),IV.vslice none 0 ((FnD.b x.2.2.2).length) 17 (aX (FnD.b x.2.2.2)),iI (FnD.ek x.2.2.2),iI (FnD.en x.2.2.2),IV.str (FnD.enm x.2.2.2),iI (FnD.eop x.2.2.2),IV.vslice none 0 ((FnD.eks x.2.2.2).length) 5 (aW (FnD.eks x.2.2.2))] (((h2.set i6 IObj.dead).push (IObj.cells (List.take (f0*1) h7++(pH v)))).set (LwS.id x.2.2.1) (IObj.cells (List.take 4 g8++ [IV.hslice (h2.next) 0 (f0+1) 1]++List.drop 5 g8))) (((2:Nat)-FnD.i x.2.2.2)*(100:Nat)+0+((FnD.lc x.2.2.2).length-x.2.1))))))) fun(y z b2:Nat)(c3:List IV)=>aC (decide (0<=(x.2.1:Int)) &&decide ((x.2.1:Int)< (↑((FnD.lc ((x.2.2).2)).length):Int))) (bZ (List.map IV.str (FnD.lc x.2.2.2)) ((x.2.1:Int).toNat*1) fun(c5:List UInt8)=>dG x.1 y fun(q2:Nat)=>aC (Nat.beq q2 z&&Nat.ble ((b2+1)*16) 140737488355328) (aF (x.1.set y (xX z)) (LwS.id x.2.2.1) fun b0=>aC (Nat.ble 4 b0.length) (aF ((x.1.set y (xX z)).set (LwS.id x.2.2.1) (b7M y z b2 c3 b0 c5)) (LwS.id x.2.2.1) fun p1=>cT 1 p1 4 (∃(p:PSt),bI ((x.1.set y (xX z)).set (LwS.id x.2.2.1) (b7M y z b2 c3 b0 c5)) (LwS.id x.2.2.1) p 1 0 0 []/\∀(v:Int)(h2:Heap),aQ ((x.1.set y (xX z)).set (LwS.id x.2.2.1) (b7M y z b2 c3 b0 c5)) (LwS.id x.2.2.1) p 1 0 v h2->aY h2 (LwS.id x.2.2.1) 4=aY ((x.1.set y (xX z)).set (LwS.id x.2.2.1) (b7M y z b2 c3 b0 c5)) (LwS.id x.2.2.1) 4/\aF (sU v h2) (LwS.id x.2.2.1) fun h0=>aC (Nat.ble 5 h0.length) (xZ r u ((FnD.i x.2.2.2):Int) (wW ((x.2.1:Int)+1)) (IV.ptr (LwS.id x.2.2.1) 0) [IV.vslice kI 4 2 2 r,FnD.F ((x.2.2).2)] [IV.str (FnD.nm x.2.2.2),IV.vslice none 1 ((FnD.pc x.2.2.2).length) 1 (List.map IV.str (FnD.pc x.2.2.2)),IV.vslice none 1 ((FnD.lc (((x.2).2).2)).length) 1 (List.map IV.str (FnD.lc x.2.2.2)),IV.vslice none 0 ((FnD.b x.2.2.2).length) 17 (aX (FnD.b x.2.2.2)),iI (FnD.ek x.2.2.2),iI (FnD.en x.2.2.2),IV.str (FnD.enm x.2.2.2),iI (FnD.eop x.2.2.2),IV.vslice none 0 ((FnD.eks x.2.2.2).length) 5 (aW (FnD.eks (((x.2).2).2)))] ((sU v h2).set (LwS.id x.2.2.1) (IObj.cells (List.take 4 h0++(b2G h2)++List.drop 5 h0))) (((2:Nat)-FnD.i x.2.2.2)*100+0+((FnD.lc x.2.2.2).length-x.2.1)))) fun(h5 q9 c7:Nat)=> ∃(p:PSt),bI ((x.1.set y (xX z)).set (LwS.id x.2.2.1) (b7M y z b2 c3 b0 c5)) (LwS.id x.2.2.1) p 1 0 0 []/\∀(v:Int)(h2:Heap),aQ ((x.1.set y (xX z)).set (LwS.id x.2.2.1) (b7M y z b2 c3 b0 c5)) (LwS.id x.2.2.1) p 1 0 v h2->aY h2 (LwS.id x.2.2.1) 4=aY (((x.1).set y (xX z)).set (LwS.id x.2.2.1) (b7M y z b2 c3 b0 c5)) (LwS.id x.2.2.1) 4/\aF h2 h5 fun g9=>aC (Nat.beq q9 0 && (Nat.ble (c7*1) g9.length&&Nat.ble ((c7+1)*(8:Nat)) 140737488355328)) (aF ((h2.set h5 IObj.dead).push (IObj.cells (List.take (c7*1) g9++(pH v)))) (LwS.id x.2.2.1) fun h8=>aC (Nat.ble 5 h8.length) (xZ r u (↑(FnD.i (((x.2).2).2)):Int) (wW ((x.2.1:Int)+1)) (IV.ptr (LwS.id x.2.2.1) 0) [IV.vslice kI 4 2 2 r,FnD.F x.2.2.2] [IV.str (FnD.nm x.2.2.2),IV.vslice none 1 ((FnD.pc x.2.2.2).length) 1 (List.map IV.str (FnD.pc x.2.2.2)),IV.vslice none 1 ((FnD.lc x.2.2.2).length) 1 (List.map IV.str (FnD.lc x.2.2.2)),IV.vslice none 0 ((FnD.b x.2.2.2).length) 17 (aX (FnD.b x.2.2.2)),iI (FnD.ek x.2.2.2),iI (FnD.en x.2.2.2),IV.str (FnD.enm ((x.2.2).2)),iI (FnD.eop x.2.2.2),IV.vslice none 0 ((FnD.eks x.2.2.2).length) 5 (aW (FnD.eks x.2.2.2))] (((h2.set h5 IObj.dead).push (IObj.cells (List.take (c7*(1:Nat)) g9++(pH v)))).set (LwS.id x.2.2.1) (IObj.cells (List.take 4 h8++ [IV.hslice (h2.next) 0 (c7+1) 1]++List.drop 5 h8))) (((2:Nat)-FnD.i x.2.2.2)*100+0+((FnD.lc x.2.2.2).length-x.2.1)))))))) (∃(d:Nat),∃(l:List M10.S),∃(s:BSt),((FnD.b x.2.2.2).length=l.length/\aX (FnD.b x.2.2.2)=aX l)/\(StPre x.1 (LwS.id ((x.2.2).1)) s l/\(3:Nat)*Ss.cnt l+2<d)/\∀(s2:BSt)(h2:Heap),BW x.1 (LwS.id x.2.2.1) s h2 s2 (Ss.cost l) (Ss.whl l)-> ∃(d:Nat),∃(ks:List E),∃(s:BSt),((FnD.eks x.2.2.2).length=ks.length/\aW (FnD.eks x.2.2.2)=aW ks)/\ExPre h2 (LwS.id x.2.2.1) s d (FnD.ek x.2.2.2) (FnD.en x.2.2.2) (FnD.enm x.2.2.2) (FnD.eop x.2.2.2) ks/\∀(v:Int)(m:Heap),dR h2 (LwS.id x.2.2.1) s (E.mk (FnD.ek x.2.2.2) (FnD.en x.2.2.2) (FnD.enm x.2.2.2) (FnD.eop x.2.2.2) ks) v m->aF m (LwS.id (x.2.2.1)) fun p8=>bH 3 p8 2 fun(t0:Option Nat)(t1 p9:Nat)(s9:List IV)=>aM (decide ((p9:Int)>2000)) (bH 2 oG 0 fun(t5:Option Nat)(t2 m3:Nat)(k1:List IV)=>bH 5 oG 1 fun(t6:Option Nat)(s8 k8:Nat)(m4:List IV)=>aC (aN [IV.agg [.vslice none 0 m3 2 k1,IV.vslice none 0 k8 5 m4],iI 6]) (Q (.tuple [.agg [.vslice none 0 m3 2 k1,IV.vslice none 0 k8 5 m4],iI 6]) h)) (cK 5 [IV.vslice kI 4 2 2 r,FnD.F x.2.2.2] 1 (aF m (LwS.id x.2.2.1) fun q6=>bH 3 q6 2 fun(t3:Option Nat)(s6 j6:Nat)(j7:List IV)=>aF m (LwS.id x.2.2.1) fun q0=>aK .i64 q0 5 fun m5=>(b7R r u (wW (((FnD.i x.2.2.2):Int)+1)) [IV.vslice kI 4 2 2 r,IV.vslice (some (m.next)) 5 1 5 [IV.str (FnD.nm x.2.2.2),iI (↑((FnD.pc x.2.2.2).length):Int),IV.vslice none 0 j6 3 j7,iI v,iI m5]] (b7Q m) 2) \/b7S r u (wW (((FnD.i x.2.2.2):Int)+1)) [IV.vslice kI 4 2 2 r,IV.vslice (some (m.next)) 5 1 5 [IV.str (FnD.nm x.2.2.2),iI (↑((FnD.pc x.2.2.2).length):Int),IV.vslice none 0 j6 3 j7,iI v,iI m5]] (b7Q m) 2) fun(d8 f2 h6:Nat)(l8:List IV)=>aF m (LwS.id x.2.2.1) fun(o7:List IV)=>bH 3 o7 2 fun(s7:Option Nat)(t4 m9:Nat)(n3:List IV)=>aF m (LwS.id x.2.2.1) fun p4=>aK .i64 p4 5 fun f5=>dG m d8 fun(k7:Nat)=>aC (Nat.beq k7 f2&&Nat.ble ((h6+(1:Nat))*64) 140737488355328) ((b7R r u (wW (((FnD.i x.2.2.2):Int)+1)) [IV.vslice kI 4 2 2 r,IV.vslice (some d8) (f2+5) (h6+1) 5 (l8++ [IV.str (FnD.nm (x.2.2.2)),iI (↑((FnD.pc x.2.2.2).length):Int),IV.vslice none 0 m9 3 n3,iI v,iI f5])] (m.set d8 (IObj.tip (f2+5))) 2) \/b7S r u (wW (((FnD.i x.2.2.2):Int)+1)) [IV.vslice kI 4 2 2 r,IV.vslice (some d8) (f2+5) (h6+1) 5 (l8++ [IV.str (FnD.nm x.2.2.2),iI (↑((FnD.pc ((x.2.2).2)).length):Int),IV.vslice none 0 m9 3 n3,iI v,iI f5])] (m.set d8 (IObj.tip (f2+5))) 2))))))/\∀(x:Heap×Nat×Nat×List IV)(b:FF),LwO x.1 x.2.1 (((x.2).2).1) x.2.2.2->aM (decide ((x.2.1:Int)<2)) (aC (decide (0<=(x.2.1:Int)) &&decide ((x.2.1:Int)<2)) (bZ u ((x.2.1:Int).toNat*9) fun(m7:List UInt8)=>bH 1 u ((x.2.1:Int).toNat*9+1) fun(j4:Option Nat)(k4 m6:Nat)(n2:List IV)=>bH 1 u ((x.2.1:Int).toNat*9+1+1) fun(k2:Option Nat)(j2 j9:Nat)(k6:List IV)=>bH 17 u ((x.2.1:Int).toNat*9+1+1+1) fun(j5:Option Nat)(j8 n8:Nat)(j3:List IV)=>aK .i64 u ((x.2.1:Int).toNat*9+1+1+1+(1:Nat)) fun m8=>aK .i64 u ((x.2.1:Int).toNat*9+1+1+1+1+1) fun l2=>bZ u ((x.2.1:Int).toNat*9+1+1+1+1+(1:Nat)+1) fun(k9:List UInt8)=>aK .i64 u ((x.2.1:Int).toNat*9+1+1+1+1+1+1+1) fun l1=>bH 5 u ((x.2.1:Int).toNat*9+(1:Nat)+1+1+1+1+1+1+1) fun(n0:Option Nat)(l6 o0:Nat)(l0:List IV)=> ∃(p:PSt),bI (x.1.push (d8P r u)) (x.1.next) p 26 0 0 []/\∀(v:Int)(h2:Heap),aQ (x.1.push (d8P r u)) (x.1.next) p 26 0 v h2->aF h2 (x.1.next) fun d4=>aC (Nat.ble 6 d4.length) (∃(M:Nat),(d8V M r u (x.2.1:Int) (IV.ptr (x.1.next) 0) [IV.vslice kI 4 2 2 r,IV.vslice (some x.2.2.1) (x.2.1*5) x.2.1 5 x.2.2.2] [IV.str m7,IV.vslice j4 k4 m6 1 n2,IV.vslice k2 j2 j9 1 k6,IV.vslice j5 j8 n8 17 j3,iI m8,iI l2,IV.str k9,iI l1,IV.vslice n0 l6 o0 5 l0] (h2.set (x.1.next) (IObj.cells (List.take 5 d4++(pH v)++List.drop 6 d4))))/\∀(j:Heap×Nat×LwS×FnD)(b:FF),LwP r u j.1 (tW j) (jP j) j.2.2.1->((2:Nat)-FnD.i (jP j))*100+50+((FnD.pc (jP j)).length-j.2.1)<=M->aM (decide (c8C j)) (aF j.1 (fZ j) fun k3=>cK 1 k3 3 (aC (decide (0<=((tW j):Int)) &&decide (c8C j)) (bZ (List.map IV.str (FnD.pc (jP j))) (((tW j):Int).toNat*1) fun(a8:List UInt8)=>aF (j.1.push oF) (fZ j) fun a1=>aC (Nat.ble 4 a1.length) (aF (b7H j a8 a1) (fZ j) fun l4=>cT 1 l4 4 (∃(p:PSt),bI (b7H j a8 a1) (fZ j) p 2 ((tW j):Int) 0 []/\∀(v:Int)(h2:Heap),aQ (b7H j a8 a1) (fZ j) p 2 ((tW j):Int) v h2->aY h2 (fZ j) 4=aY (b7H j a8 a1) (fZ j) 4/\aF (sU v h2) (fZ j) fun d1=>aC (Nat.ble 5 d1.length) (xY r u (↑(FnD.i (jP j)):Int) (b7P j) (IV.ptr (fZ j) 0) (a9H r j) (d2A j) ((sU v h2).set (fZ j) (IObj.cells (List.take 4 d1++(b2G h2)++List.drop 5 d1))) (d8Q j))) fun(e3 j1 b7:Nat)=> ∃(p:PSt),bI (b7H j a8 a1) (fZ j) p 2 ((tW j):Int) 0 []/\∀(v:Int)(h2:Heap),aQ (b7H j a8 a1) (fZ j) p 2 ((tW j):Int) v h2->aY h2 (fZ j) 4=aY (b7H j a8 a1) (fZ j) 4/\aF h2 e3 fun d5=>aC (Nat.beq j1 0 && (Nat.ble (b7*1) (d5.length) &&Nat.ble ((b7+1)*8) 140737488355328)) (aF ((h2.set e3 IObj.dead).push (IObj.cells (List.take (b7*1) d5++(pH v)))) (fZ j) fun d6=>aC (Nat.ble 5 d6.length) (xY r u (↑(FnD.i (jP j)):Int) (b7P j) (IV.ptr (fZ j) 0) (a9H r j) (d2A j) (((h2.set e3 IObj.dead).push (IObj.cells (List.take (b7*1) d5++(pH v)))).set (fZ j) (IObj.cells (List.take 4 d6++ [IV.hslice (h2.next) 0 (b7+1) 1]++List.drop 5 d6))) (d8Q j)))))) fun(O V Z:Nat)(a4:List IV)=>aC (decide (0<=((tW j):Int)) &&decide (c8C j)) (bZ (List.map IV.str (FnD.pc (jP j))) (((tW j):Int).toNat*1) fun(a5:List UInt8)=>dG j.1 O fun(o3:Nat)=>aC (Nat.beq o3 V&&Nat.ble ((Z+1)*16) 140737488355328) (aF (j.1.set O (IObj.tip (V+1))) (fZ j) fun a2=>aC (Nat.ble 4 a2.length) (aF (b7J j O V Z a4 a2 a5) (fZ j) fun k5=>cT 1 k5 4 (∃(p:PSt),bI (b7J j O V Z a4 a2 a5) (fZ j) p 2 ((tW j):Int) 0 []/\∀(v:Int)(h2:Heap),aQ (b7J j O V Z a4 a2 a5) (fZ j) p 2 ((tW j):Int) v h2->aY h2 (fZ j) 4=aY (b7J j O V Z a4 a2 a5) (fZ j) 4/\aF (sU v h2) (fZ j) fun e9=>aC (Nat.ble 5 e9.length) (xY r u (↑(FnD.i (jP j)):Int) (b7P j) (IV.ptr (fZ j) 0) (a9H r j) (d2A j) ((sU v h2).set (fZ j) (IObj.cells (List.take 4 e9++(b2G h2)++List.drop 5 e9))) (d8Q j))) fun(e7 m1 a9:Nat)=> ∃(p:PSt),bI (b7J j O V Z a4 a2 a5) (fZ j) p 2 ((tW j):Int) 0 []/\∀(v:Int)(h2:Heap),aQ (b7J j O V Z a4 a2 a5) (fZ j) p 2 ((tW j):Int) v h2->aY h2 (fZ j) 4=aY (b7J j O V Z a4 a2 a5) (fZ j) 4/\aF h2 e7 fun d0=>aC (Nat.beq m1 0 && (Nat.ble (a9*1) d0.length&&Nat.ble ((a9+1)*8) 140737488355328)) (aF ((h2.set e7 IObj.dead).push (IObj.cells (List.take (a9*1) d0++(pH v)))) (fZ j) fun d3=>aC (Nat.ble 5 d3.length) (xY r u (↑(FnD.i (jP j)):Int) (b7P j) (IV.ptr (fZ j) 0) (a9H r j) (d2A j) (((h2.set e7 IObj.dead).push (IObj.cells (List.take (a9*1) d0++(pH v)))).set (fZ j) (IObj.cells (List.take 4 d3++ [IV.hslice (h2.next) 0 (a9+1) 1]++List.drop 5 d3))) (d8Q j))))))) (∃(M:Nat),(d8W M r u (↑(FnD.i (jP j)):Int) (IV.ptr (fZ j) 0) (a9H r j) (d2A j) j.1)/\∀(g:Heap×Nat×LwS×FnD)(b:FF),LwQ r u g.1 g.2.1 (eM g) g.2.2.1->((2:Nat)-FnD.i (eM g))*100+0+((FnD.lc (eM g)).length-g.2.1)<=M->aM (decide (c8B g)) (aF g.1 (eA g) fun o2=>cK 1 o2 3 (aC (decide (0<=(g.2.1:Int)) &&decide (c8B g)) (bZ (List.map IV.str (FnD.lc (eM g))) ((g.2.1:Int).toNat*1) fun(a7:List UInt8)=>aF (g.1.push oF) (eA g) fun X=>aC (Nat.ble 4 (X.length)) (aF (b7I g a7 X) (eA g) fun l9=>cT 1 l9 4 (∃(p:PSt),bI (b7I g a7 X) (eA g) p 1 0 0 []/\∀(v:Int)(h2:Heap),aQ (b7I g a7 X) (eA g) p 1 0 v h2->aY h2 (eA g) 4=aY (b7I g a7 X) (eA g) 4/\aF (sU v h2) (eA g) fun c6=>aC (Nat.ble 5 c6.length) (xZ r u (↑(FnD.i (eM g)):Int) (b7N g) (IV.ptr (eA g) 0) (a9I r g) (d8O g) ((sU v h2).set (eA g) (IObj.cells (List.take 4 c6++(b2G h2)++List.drop 5 c6))) (d8R g))) fun(d9 n4 b3:Nat)=> ∃(p:PSt),bI (b7I g a7 X) (eA g) p 1 0 0 []/\∀(v:Int)(h2:Heap),aQ (b7I g a7 X) (eA g) p 1 0 v h2->aY h2 (eA g) 4=aY (b7I g a7 X) (eA g) 4/\aF h2 d9 fun d7=>aC (Nat.beq n4 0 && (Nat.ble (b3*1) d7.length&&Nat.ble ((b3+1)*8) 140737488355328)) (aF ((h2.set d9 IObj.dead).push (IObj.cells (List.take (b3*1) d7++(pH v)))) (eA g) fun e1=>aC (Nat.ble 5 e1.length) (xZ r u (↑(FnD.i (eM g)):Int) (b7N g) (IV.ptr (eA g) 0) (a9I r g) (d8O g) (((h2.set d9 IObj.dead).push (IObj.cells (List.take (b3*1) d7++(pH v)))).set (eA g) (IObj.cells (List.take 4 e1++ [IV.hslice (h2.next) 0 (b3+1) 1]++List.drop 5 e1))) (d8R g)))))) fun(T L Y:Nat)(a6:List IV)=>aC (decide (0<=(g.2.1:Int)) &&decide (c8B g)) (bZ (List.map IV.str (FnD.lc (eM g))) ((g.2.1:Int).toNat*1) fun(a3:List UInt8)=>dG g.1 T fun(n6:Nat)=>aC (Nat.beq n6 L&&Nat.ble ((Y+(1:Nat))*16) 140737488355328) (aF (g.1.set T (IObj.tip (L+1))) (eA g) fun a0=>aC (Nat.ble 4 a0.length) (aF (b7K g T L Y a6 a0 a3) (eA g) fun n9=>cT 1 n9 4 (∃(p:PSt),bI (b7K g T L Y a6 a0 a3) (eA g) p 1 0 0 []/\∀(v:Int)(h2:Heap),aQ (b7K g T L Y a6 a0 a3) (eA g) p 1 0 v h2->aY h2 (eA g) 4=aY (b7K g T L Y a6 a0 a3) (eA g) 4/\aF (sU v h2) (eA g) fun e5=>aC (Nat.ble 5 e5.length) (xZ r u (↑(FnD.i (eM g)):Int) (b7N g) (IV.ptr (eA g) 0) (a9I r g) (d8O g) ((sU v h2).set (eA g) (IObj.cells (List.take 4 e5++(b2G h2)++List.drop 5 e5))) (d8R g))) fun(c9 n7 b5:Nat)=> ∃(p:PSt),bI (b7K g T L Y a6 a0 a3) (eA g) p 1 0 0 []/\∀(v:Int)(h2:Heap),aQ (b7K g T L Y a6 a0 a3) (eA g) p 1 0 v h2->aY h2 (eA g) 4=aY (b7K g T L Y a6 a0 a3) (eA g) 4/\aF h2 c9 fun e4=>aC (Nat.beq n7 0 && (Nat.ble (b5*1) e4.length&&Nat.ble ((b5+1)*8) 140737488355328)) (aF ((h2.set c9 IObj.dead).push (IObj.cells (List.take (b5*1) e4++(pH v)))) (eA g) fun f3=>aC (Nat.ble 5 f3.length) (xZ r u (↑(FnD.i (eM g)):Int) (b7N g) (IV.ptr (eA g) 0) (a9I r g) (d8O g) (((h2.set c9 IObj.dead).push (IObj.cells (List.take (b5*1) e4++(pH v)))).set (eA g) (IObj.cells (List.take 4 f3++ [IV.hslice (h2.next) 0 (b5+1) 1]++List.drop 5 f3))) (d8R g))))))) (∃(d:Nat),∃(l:List M10.S),∃(s:BSt),((FnD.b (eM g)).length=l.length/\aX (FnD.b (eM g))=aX l)/\(StPre g.1 (eA g) s l/\(3:Nat)*Ss.cnt l+2<d)/\∀(s2:BSt)(h2:Heap),BW g.1 (eA g) s h2 s2 (Ss.cost l) (Ss.whl l)-> ∃(d:Nat),∃(ks:List E),∃(s:BSt),((FnD.eks (eM g)).length=ks.length/\aW (FnD.eks (eM g))=aW ks)/\ExPre h2 (eA g) s d (FnD.ek (eM g)) (FnD.en (eM g)) (FnD.enm (eM g)) (FnD.eop (eM g)) ks/\∀(v:Int)(m:Heap),dR h2 (eA g) s (E.mk (FnD.ek (eM g)) (FnD.en (eM g)) (FnD.enm (eM g)) (FnD.eop (eM g)) ks) v m->aF m (eA g) fun m0=>bH 3 m0 2 fun(r5:Option Nat)(r7 k0:Nat)(s5:List IV)=>aM (decide ((k0:Int)>2000)) (bH 2 oG 0 fun(r9:Option Nat)(r3 f7:Nat)(f4:List IV)=>bH 5 oG 1 fun(r6:Option Nat)(r8 g0:Nat)(g2:List IV)=>aC (aN [IV.agg [.vslice none 0 f7 2 f4,IV.vslice none 0 g0 5 g2],iI 6]) (Q (.tuple [.agg [.vslice none 0 f7 2 f4,IV.vslice none 0 g0 5 g2],iI 6]) h)) (cK 5 (a9I r g) 1 (aF m (eA g) fun o1=>bH 3 o1 2 fun(s4:Option Nat)(s3 f9:Nat)(g5:List IV)=>aF m (eA g) fun l5=>aK .i64 l5 5 fun g1=>(b7R r u (b7O g) (d8S r g5 v g1 m g f9) (b7Q m) ((2:Nat)-x.2.1)) \/b7S r u (b7O g) (d8S r g5 v g1 m g f9) (b7Q m) ((2:Nat)-x.2.1)) fun(b8 b6 f1:Nat)(g3:List IV)=>aF m (eA g) fun n5=>bH 3 n5 2 fun(s1:Option Nat)(r4 f6:Nat)(f8:List IV)=>aF m (eA g) fun m2=>aK .i64 m2 5 fun g4=>dG m b8 fun(n1:Nat)=>aC (Nat.beq n1 b6&&Nat.ble ((f1+1)*64) 140737488355328) ((b7R r u (b7O g) (d8T r g3 f8 v g4 g b8 b6 f1 f6) (m.set b8 (IObj.tip (b6+5))) ((2:Nat)-x.2.1)) \/b7S r u (b7O g) (d8T r g3 f8 v g4 g b8 b6 f1 f6) (m.set b8 (IObj.tip (b6+5))) ((2:Nat)-x.2.1)))))))) (aC (aN [IV.agg [.vslice none 0 2 2 r,IV.vslice none 0 x.2.1 5 (x.2.2.2)],iI 0]) (Q (.tuple [.agg [.vslice none 0 2 2 r,IV.vslice none 0 x.2.1 5 x.2.2.2],iI 0]) h)))):=by kernel_rfl
theorem g8D: ∀xs h Q,f5Z xs h Q->aU env 33 xs h Q:=by
 intro xs h Q hk;unfold f5Z at hk;split at hk
 ·rename_i na Y nf T;obtain⟨hx,⟨rfl,rfl⟩,hk⟩:=hk;refine aS (f0H) (g8C Y T h Q) ?_;delta b7R b7S d8V xY d8W xZ d2A d8O eA fZ qZ b7H b7I eM b7J b7K b7L b7M jP d8P sU kI oG sV sW sX b2G d8Q d8R oF tW pH a9G a5J b7N a9H a9I xV b7O d8S b7P c8B xW xX c8C d8T b7Q d8U tI wW iI;have hq:=hx.q.pure;have d9:=hx;obtain⟨la,lb,b0,⟨uk,un,c6,d1,c8⟩,b1,⟨wk,wn,d0,d3,d2⟩,⟨e6,e4,d8⟩,e5,d5⟩:=d9;have hF: ∀o:Nat,T[o]?=(fnC b0 (.mk uk un c6 d1 c8) b1 (.mk wk wn d0 d3 d2))[o]?:=fun o=>by rw [d5]
  refine aA (by simp only [aN,bL,hq.1,hq.2,h1L]) ⟨hx,.inl ⟨_,rfl,rfl,rfl,rfl,rfl,rfl,rfl,rfl,True.intro,True.intro⟩,?_,?_⟩
  ·rintro g _ _;refine hZ ((hF _).trans rfl) (dY ((hF _).trans rfl) (dY ((hF _).trans rfl) (dY ((hF _).trans rfl) (bV ((hF _).trans rfl) (bV ((hF _).trans rfl) (hZ ((hF _).trans rfl) (bV ((hF _).trans rfl) (dY ((hF _).trans rfl) ?_))))))));refine⟨(lw0 g.next).pst Y T,c6K,fun v h2 p=>?_⟩;obtain⟨e1,d7,c5,W0⟩:=LW.init (f:=(0:Nat)) (R:=none) p (fun j hj=>by cases hj);refine aB c5 (aA rfl ⟨252,⟨(_,0,_,⟨0,.nilslice,0,⟨[],0,0,0⟩,[102],[[120],[121]],[[105],[106]],b0,uk,un,c6,d1,c8⟩),(by rfl),(by rfl),(by rfl),(by rfl),(by rfl),(by rfl),(by rfl),(by rfl),(by rfl),(by rfl),(by rfl),(by rfl),⟨⟨rfl,e4,.inl ⟨rfl,rfl,rfl,rfl⟩⟩,h1N _,W0⟩,h1D _⟩,?_⟩);rintro⟨g,k,y,x⟩ _ ⟨fn,X,w⟩ hM;dsimp only at fn X w hM⊢;have n4:=nR x.i;have a1:x.pc.length+x.lc.length=(bN x.i).length:=by rw [<-List.length_append,fn.p]
   refine dW (fun ci=>?_) (fun ci=>?_)
   ·have r:k<x.pc.length:=by omega
    have hs: ∃h:k< (bN x.i).length,x.pc[k]=(bN x.i)[k]:=e9A fn.p r
    obtain⟨lv,z,hl⟩:=w.hg;refine aB z ?_;have V:bR (k:Int):=by unfold bR;omega
    rcases w.nm with⟨a5,Z⟩| ⟨io,Z,A,b8,b5⟩
    ·have u:=w.nm0' a5 hs z;refine fC (congrArg some Z) (aP (by omega) (hZ (b:=x.pc[k]) (by rw [h0Z,h1W,h2A,h0U r];rfl) (aB ((aJ w.hid).trans z) (aA rfl (aB aH ?_)))));rcases u.vr with⟨G,hd⟩| ⟨iv,hd,hv,a4,a3⟩
     ·refine kW (congrArg some hd) ?_;refine⟨_,u.pre (op:=2) (im:=(k:Int)) ⟨by decide,V⟩ (by omega),fun v h2 p=>?_⟩;obtain⟨D,m,K⟩:=u.put p ⟨by decide,by decide⟩ ⟨by decide,V⟩ (kX (by omega)) (by decide);obtain⟨lv2,l,_⟩:=m.hg;refine⟨(cA l).trans (cA (x:=LwS.pst _ Y T) aH).symm,?_⟩;refine aB ((aJ m.hid).trans l) (aA rfl ?_);have L:=m.vr0' G K l;refine⟨(_,k+1,_,x),(by rfl),(by rfl),(by rfl),(by rfl),(by rfl),(by rfl),(by(try dsimp only);rw [h0X _ (by omega)];rfl),(by rfl),(by rfl),(by rfl),(by rfl),(by rfl),⟨fn,r,L⟩,by(try dsimp only);omega⟩
     ·refine cZ (congrArg some hd) ?_;refine⟨_,u.pre (op:=2) (im:=(k:Int)) ⟨by decide,V⟩ (by omega),fun v h2 p=>?_⟩;obtain⟨D,m,K⟩:=u.put p ⟨by decide,by decide⟩ ⟨by decide,V⟩ (kX (by omega)) (by decide);obtain⟨lv2,l,_⟩:=m.hg;refine⟨(cA l).trans (cA (x:=LwS.pst _ Y T) aH).symm,?_⟩;obtain⟨v2,v4,L⟩:=m.vr1 hd K l;refine aB v2 (aA (by simp only [h0Y,bY,h1S,true_and,h1P,m.vl];omega) ?_);refine aB ((aJ (show y.id< (h2.set iv .dead).next from m.hid)).trans ((aE v4.symm).trans l)) (aA rfl ?_);refine⟨(_,k+1,_,x),(by rfl),(by rfl),(by rfl),(by rfl),(by rfl),(by rfl),(by(try dsimp only);rw [h0X _ (by omega)];rfl),(by rfl),(by rfl),(by rfl),(by rfl),(by rfl),⟨fn,r,L⟩,by(try dsimp only);omega⟩
    ·have u:=w.nm1 hs.1 Z hs.2 z;have a2:io≠y.id:=fun q=>by
      rw [q,z]at A
      cases A
     refine dI (congrArg some Z) (aP (by omega) (hZ (b:=x.pc[k]) (by rw [h0Z,h1W,h2A,h0U r];rfl) (bE A (aA (by simp only [h0Y,bY,h1S,true_and];omega) (aB ((aE a2.symm).trans z) (aA rfl (aB aH ?_)))))));rcases u.vr with⟨G,hd⟩| ⟨iv,hd,hv,a4,a3⟩
     ·refine kW (congrArg some hd) ?_;refine⟨_,u.pre (op:=2) (im:=(k:Int)) ⟨by decide,V⟩ (by omega),fun v h2 p=>?_⟩;obtain⟨D,m,K⟩:=u.put p ⟨by decide,by decide⟩ ⟨by decide,V⟩ (kX (by omega)) (by decide);obtain⟨lv2,l,_⟩:=m.hg;refine⟨(cA l).trans (cA (x:=LwS.pst _ Y T) aH).symm,?_⟩;refine aB ((aJ m.hid).trans l) (aA rfl ?_);have L:=m.vr0' G K l;refine⟨(_,k+1,_,x),(by rfl),(by rfl),(by rfl),(by rfl),(by rfl),(by rfl),(by(try dsimp only);rw [h0X _ (by omega)];rfl),(by rfl),(by rfl),(by rfl),(by rfl),(by rfl),⟨fn,r,L⟩,by(try dsimp only);omega⟩
     ·refine cZ (congrArg some hd) ?_;refine⟨_,u.pre (op:=2) (im:=(k:Int)) ⟨by decide,V⟩ (by omega),fun v h2 p=>?_⟩;obtain⟨D,m,K⟩:=u.put p ⟨by decide,by decide⟩ ⟨by decide,V⟩ (kX (by omega)) (by decide);obtain⟨lv2,l,_⟩:=m.hg;refine⟨(cA l).trans (cA (x:=LwS.pst _ Y T) aH).symm,?_⟩;obtain⟨v2,v4,L⟩:=m.vr1 hd K l;refine aB v2 (aA (by simp only [h0Y,bY,h1S,true_and,h1P,m.vl];omega) ?_);refine aB ((aJ (show y.id< (h2.set iv .dead).next from m.hid)).trans ((aE v4.symm).trans l)) (aA rfl ?_);refine⟨(_,k+1,_,x),(by rfl),(by rfl),(by rfl),(by rfl),(by rfl),(by rfl),(by(try dsimp only);rw [h0X _ (by omega)];rfl),(by rfl),(by rfl),(by rfl),(by rfl),(by rfl),⟨fn,r,L⟩,by(try dsimp only);omega⟩
   ·have hk:k=x.pc.length:=by omega
    subst hk;refine⟨(2-x.i)*100+x.lc.length,⟨(g,0,y,x),rfl,rfl,rfl,rfl,rfl,rfl,rfl,rfl,rfl,rfl,rfl,rfl,⟨fn,h1N _,w⟩,by(try dsimp only);omega⟩,?_⟩;have e3:0<=x.i:=by omega
    have d4:x.lc.length<=4:=by omega
    clear w fn a1 n4 X;generalize hMq:(2-x.i)*100+x.lc.length=MQ;rintro⟨g,k,y,x⟩ _ ⟨fn,X,w⟩ c0;dsimp only at fn X w c0⊢;have n4:=nR x.i;have a1:x.pc.length+x.lc.length=(bN x.i).length:=by rw [<-List.length_append,fn.p]
    refine dW (fun ci=>?_) (fun ci=>?_)
    ·have r:k<x.lc.length:=by omega
     have hs: ∃h:x.pc.length+k< (bN x.i).length,x.lc[k]=(bN x.i)[x.pc.length+k]:=e9B fn.p r
     obtain⟨lv,z,hl⟩:=w.hg;refine aB z ?_;have V:bR (k:Int):=by unfold bR;omega
     rcases w.nm with⟨a5,Z⟩| ⟨io,Z,A,b8,b5⟩
     ·have u:=w.nm0' a5 hs z;refine fC (congrArg some Z) (aP (by omega) (hZ (b:=x.lc[k]) (by rw [h0Z,h1W,h2A,h0U r];rfl) (aB ((aJ w.hid).trans z) (aA rfl (aB aH ?_)))));rcases u.vr with⟨G,hd⟩| ⟨iv,hd,hv,a4,a3⟩
      ·refine kW (congrArg some hd) ?_;refine⟨_,u.pre (op:=1) (im:=0) ⟨by decide,by decide⟩ (by omega),fun v h2 p=>?_⟩;obtain⟨D,m,K⟩:=u.put p ⟨by decide,by decide⟩ ⟨by decide,by decide⟩ eJ (by decide);obtain⟨lv2,l,_⟩:=m.hg;refine⟨(cA l).trans (cA (x:=LwS.pst _ Y T) aH).symm,?_⟩;refine aB ((aJ m.hid).trans l) (aA rfl ?_);have L:=m.vr0' G K l;refine⟨(_,k+1,_,x),(by rfl),(by rfl),(by rfl),(by rfl),(by rfl),(by rfl),(by(try dsimp only);rw [h0X _ (by omega)];rfl),(by rfl),(by rfl),(by rfl),(by rfl),(by rfl),⟨fn,r,L⟩,by(try dsimp only);omega⟩
      ·refine cZ (congrArg some hd) ?_;refine⟨_,u.pre (op:=1) (im:=0) ⟨by decide,by decide⟩ (by omega),fun v h2 p=>?_⟩;obtain⟨D,m,K⟩:=u.put p ⟨by decide,by decide⟩ ⟨by decide,by decide⟩ eJ (by decide);obtain⟨lv2,l,_⟩:=m.hg;refine⟨(cA l).trans (cA (x:=LwS.pst _ Y T) aH).symm,?_⟩;obtain⟨v2,v4,L⟩:=m.vr1 hd K l;refine aB v2 (aA (by simp only [h0Y,bY,h1S,true_and,h1P,m.vl];omega) ?_);refine aB ((aJ (show y.id< (h2.set iv .dead).next from m.hid)).trans ((aE v4.symm).trans l)) (aA rfl ?_);refine⟨(_,k+1,_,x),(by rfl),(by rfl),(by rfl),(by rfl),(by rfl),(by rfl),(by(try dsimp only);rw [h0X _ (by omega)];rfl),(by rfl),(by rfl),(by rfl),(by rfl),(by rfl),⟨fn,r,L⟩,by(try dsimp only);omega⟩
     ·have u:=w.nm1 hs.1 Z hs.2 z;have a2:io≠y.id:=fun q=>by
       rw [q,z]at A
       cases A
      refine dI (congrArg some Z) (aP (by omega) (hZ (b:=x.lc[k]) (by rw [h0Z,h1W,h2A,h0U r];rfl) (bE A (aA (by simp only [h0Y,bY,h1S,true_and];omega) (aB ((aE a2.symm).trans z) (aA rfl (aB aH ?_)))))));rcases u.vr with⟨G,hd⟩| ⟨iv,hd,hv,a4,a3⟩
      ·refine kW (congrArg some hd) ?_;refine⟨_,u.pre (op:=1) (im:=0) ⟨by decide,by decide⟩ (by omega),fun v h2 p=>?_⟩;obtain⟨D,m,K⟩:=u.put p ⟨by decide,by decide⟩ ⟨by decide,by decide⟩ eJ (by decide);obtain⟨lv2,l,_⟩:=m.hg;refine⟨(cA l).trans (cA (x:=LwS.pst _ Y T) aH).symm,?_⟩;refine aB ((aJ m.hid).trans l) (aA rfl ?_);have L:=m.vr0' G K l;refine⟨(_,k+1,_,x),(by rfl),(by rfl),(by rfl),(by rfl),(by rfl),(by rfl),(by(try dsimp only);rw [h0X _ (by omega)];rfl),(by rfl),(by rfl),(by rfl),(by rfl),(by rfl),⟨fn,r,L⟩,by(try dsimp only);omega⟩
      ·refine cZ (congrArg some hd) ?_;refine⟨_,u.pre (op:=1) (im:=0) ⟨by decide,by decide⟩ (by omega),fun v h2 p=>?_⟩;obtain⟨D,m,K⟩:=u.put p ⟨by decide,by decide⟩ ⟨by decide,by decide⟩ eJ (by decide);obtain⟨lv2,l,_⟩:=m.hg;refine⟨(cA l).trans (cA (x:=LwS.pst _ Y T) aH).symm,?_⟩;obtain⟨v2,v4,L⟩:=m.vr1 hd K l;refine aB v2 (aA (by simp only [h0Y,bY,h1S,true_and,h1P,m.vl];omega) ?_);refine aB ((aJ (show y.id< (h2.set iv .dead).next from m.hid)).trans ((aE v4.symm).trans l)) (aA rfl ?_);refine⟨(_,k+1,_,x),(by rfl),(by rfl),(by rfl),(by rfl),(by rfl),(by rfl),(by(try dsimp only);rw [h0X _ (by omega)];rfl),(by rfl),(by rfl),(by rfl),(by rfl),(by rfl),⟨fn,r,L⟩,by(try dsimp only);omega⟩
    ·have hk:k=x.lc.length:=by omega
     subst hk;have b2:(x.i:Int)=0\/ (x.i:Int)=1:=by
      rcases fn.fr with h|h
      ·exact .inl (by rw [h.1];rfl)
      ·exact .inr (by rw [h.1];rfl)
     obtain⟨s,sf,b7,a9,c1,c3⟩:=w.fin a1 hx b2 (by omega);have gc:=fn.gb.cost;have gn:=fn.gb.cnt;have gw:=fn.gb.whl;have wl:=w.ln;refine⟨3*Ss.cnt x.b+3,x.b,s,⟨rfl,rfl⟩,⟨⟨c1,c3,by rw [sf];exact fn.gb.wf,by omega,by rw [a9];omega,by rw [b7];omega⟩,by omega⟩,fun s2 h2 xb=>?_⟩;have bl:=xb.len;rw [a9]at bl;refine⟨Es.dp x.eks+1,x.eks,s2,⟨rfl,rfl⟩,⟨xb.bh,xb.gs,by rw [xb.f,sf];exact fn.gb.vw,h1G _,by omega⟩,fun v h3 p=>?_⟩;obtain⟨O,a0,xA,kA⟩:=p;have nA:=xA.len;obtain⟨_,⟨lv,z,b9⟩,_⟩:=xA.bh;have kb:=kA.kb;rcases b9 with⟨b3,_⟩| ⟨io,l1,l2,l3,l4⟩
     ·have hz:O.length=0:=by
       have e:O=[]:=b3;rw [e];rfl
      omega
     subst l1;have b4:GrOk ⟨O,s2.lo,v,a0⟩:=⟨xA.gs.gl,xA.gs.hl,kA,xA.gs.sk,by show O.length<=2000;omega⟩;refine aB z (dY rfl (dW (fun c9=>absurd c9 (by dsimp only;omega)) (fun _=>?_)));rcases fn.fr with⟨hi,a8,a6,a7⟩| ⟨hi,a8,c2,a6,a7⟩
     ·refine fC (congrArg some a8) (aB z (dY rfl (aB z (bV (n:=a0) rfl (.inr ⟨(_,1,h3.next,gC [102] 2 ⟨O,s2.lo,v,a0⟩),(by rfl),(by rfl),(by rfl),(by(try dsimp only);rw [hi];rfl),(by rfl),(by rfl),(by(try dsimp only);rw [a6,a7];rfl),(by rfl),⟨.inl ⟨rfl,⟨_,b4,rfl⟩,aR,h1G _⟩⟩,by(try dsimp only);omega⟩)))))
     ·have hR:x.R=some x.jr:=by
       unfold FnD.R
       rw [if_neg (by omega)]
      obtain⟨r1,r2,r3⟩:=w.fr _ hR;obtain⟨t1,t2⟩:=xb.fv.tp _ _ r2 r1 r3;obtain⟨t3,t4⟩:=xA.fc.tp _ _ (h1C r2 xb.fv.nx) t1 t2;refine dI (congrArg some a8) (aB z (dY rfl (aB z (bV (n:=a0) rfl (bE t3 (aA rfl (.inr ⟨(_,2,x.jr,gC [102] 2 x.gr++gC [103] 1 ⟨O,s2.lo,v,a0⟩),(by rfl),(by rfl),(by rfl),(by(try dsimp only);rw [hi];rfl),(by rfl),(by rfl),(by(try dsimp only);rw [a6,a7];rfl),(by rfl),⟨.inr ⟨rfl,_,_,c2,b4,rfl⟩⟩,by(try dsimp only);omega⟩)))))))
  ·rintro⟨g,i,jr,c⟩ _ ⟨hO⟩;dsimp only at hO⊢;refine dW (fun ci=>?_) (fun ci=>?_)
   ·obtain⟨rfl,⟨g0,b6,rfl⟩,c7,e2⟩:i=1/\(∃g0,GrOk g0/\c=gC [102] 2 g0)/\g.get jr= .tip 5/\jr<g.next:=by
     rcases hO with hO|hO
     ·exact hO
     ·omega
    refine aP (by decide) ?_;refine hZ ((hF _).trans rfl) (dY ((hF _).trans rfl) (dY ((hF _).trans rfl) (dY ((hF _).trans rfl) (bV ((hF _).trans rfl) (bV ((hF _).trans rfl) (hZ ((hF _).trans rfl) (bV ((hF _).trans rfl) (dY ((hF _).trans rfl) ?_))))))));refine⟨(lw0 g.next).pst Y T,c6K,fun v h2 p=>?_⟩;obtain⟨e1,d7,c5,W0⟩:=LW.init (f:=(1:Nat)) (R:=(some jr)) p (fun j hj=>by cases hj;exact⟨c7,e2⟩);refine aB c5 (aA rfl ⟨151,⟨(_,0,_,⟨1,.vslice (some jr) 5 1 5 (gC [102] 2 g0),jr,g0,[103],[[110]],[[105]],b1,wk,wn,d0,d3,d2⟩),(by rfl),(by rfl),(by rfl),(by rfl),(by rfl),(by rfl),(by rfl),(by rfl),(by rfl),(by rfl),(by rfl),(by rfl),⟨⟨rfl,d8,.inr ⟨rfl,rfl,b6,rfl,rfl⟩⟩,h1N _,W0⟩,h1D _⟩,?_⟩);rintro⟨g,k,y,x⟩ _ ⟨fn,X,w⟩ hM;dsimp only at fn X w hM⊢;have n4:=nR x.i;have a1:x.pc.length+x.lc.length=(bN x.i).length:=by rw [<-List.length_append,fn.p]
    refine dW (fun ci=>?_) (fun ci=>?_)
    ·have r:k<x.pc.length:=by omega
     have hs: ∃h:k< (bN x.i).length,x.pc[k]=(bN x.i)[k]:=e9A fn.p r
     obtain⟨lv,z,hl⟩:=w.hg;refine aB z ?_;have V:bR (k:Int):=by unfold bR;omega
     rcases w.nm with⟨a5,Z⟩| ⟨io,Z,A,b8,b5⟩
     ·have u:=w.nm0' a5 hs z;refine fC (congrArg some Z) (aP (by omega) (hZ (b:=x.pc[k]) (by rw [h0Z,h1W,h2A,h0U r];rfl) (aB ((aJ w.hid).trans z) (aA rfl (aB aH ?_)))));rcases u.vr with⟨G,hd⟩| ⟨iv,hd,hv,a4,a3⟩
      ·refine kW (congrArg some hd) ?_;refine⟨_,u.pre (op:=2) (im:=(k:Int)) ⟨by decide,V⟩ (by omega),fun v h2 p=>?_⟩;obtain⟨D,m,K⟩:=u.put p ⟨by decide,by decide⟩ ⟨by decide,V⟩ (kX (by omega)) (by decide);obtain⟨lv2,l,_⟩:=m.hg;refine⟨(cA l).trans (cA (x:=LwS.pst _ Y T) aH).symm,?_⟩;refine aB ((aJ m.hid).trans l) (aA rfl ?_);have L:=m.vr0' G K l;refine⟨(_,k+1,_,x),(by rfl),(by rfl),(by rfl),(by rfl),(by rfl),(by rfl),(by(try dsimp only);rw [h0X _ (by omega)];rfl),(by rfl),(by rfl),(by rfl),(by rfl),(by rfl),⟨fn,r,L⟩,by(try dsimp only);omega⟩
      ·refine cZ (congrArg some hd) ?_;refine⟨_,u.pre (op:=2) (im:=(k:Int)) ⟨by decide,V⟩ (by omega),fun v h2 p=>?_⟩;obtain⟨D,m,K⟩:=u.put p ⟨by decide,by decide⟩ ⟨by decide,V⟩ (kX (by omega)) (by decide);obtain⟨lv2,l,_⟩:=m.hg;refine⟨(cA l).trans (cA (x:=LwS.pst _ Y T) aH).symm,?_⟩;obtain⟨v2,v4,L⟩:=m.vr1 hd K l;refine aB v2 (aA (by simp only [h0Y,bY,h1S,true_and,h1P,m.vl];omega) ?_);refine aB ((aJ (show y.id< (h2.set iv .dead).next from m.hid)).trans ((aE v4.symm).trans l)) (aA rfl ?_);refine⟨(_,k+1,_,x),(by rfl),(by rfl),(by rfl),(by rfl),(by rfl),(by rfl),(by(try dsimp only);rw [h0X _ (by omega)];rfl),(by rfl),(by rfl),(by rfl),(by rfl),(by rfl),⟨fn,r,L⟩,by(try dsimp only);omega⟩
     ·have u:=w.nm1 hs.1 Z hs.2 z;have a2:io≠y.id:=fun q=>by
       rw [q,z]at A
       cases A
      refine dI (congrArg some Z) (aP (by omega) (hZ (b:=x.pc[k]) (by rw [h0Z,h1W,h2A,h0U r];rfl) (bE A (aA (by simp only [h0Y,bY,h1S,true_and];omega) (aB ((aE a2.symm).trans z) (aA rfl (aB aH ?_)))))));rcases u.vr with⟨G,hd⟩| ⟨iv,hd,hv,a4,a3⟩
      ·refine kW (congrArg some hd) ?_;refine⟨_,u.pre (op:=2) (im:=(k:Int)) ⟨by decide,V⟩ (by omega),fun v h2 p=>?_⟩;obtain⟨D,m,K⟩:=u.put p ⟨by decide,by decide⟩ ⟨by decide,V⟩ (kX (by omega)) (by decide);obtain⟨lv2,l,_⟩:=m.hg;refine⟨(cA l).trans (cA (x:=LwS.pst _ Y T) aH).symm,?_⟩;refine aB ((aJ m.hid).trans l) (aA rfl ?_);have L:=m.vr0' G K l;refine⟨(_,k+1,_,x),(by rfl),(by rfl),(by rfl),(by rfl),(by rfl),(by rfl),(by(try dsimp only);rw [h0X _ (by omega)];rfl),(by rfl),(by rfl),(by rfl),(by rfl),(by rfl),⟨fn,r,L⟩,by(try dsimp only);omega⟩
      ·refine cZ (congrArg some hd) ?_;refine⟨_,u.pre (op:=2) (im:=(k:Int)) ⟨by decide,V⟩ (by omega),fun v h2 p=>?_⟩;obtain⟨D,m,K⟩:=u.put p ⟨by decide,by decide⟩ ⟨by decide,V⟩ (kX (by omega)) (by decide);obtain⟨lv2,l,_⟩:=m.hg;refine⟨(cA l).trans (cA (x:=LwS.pst _ Y T) aH).symm,?_⟩;obtain⟨v2,v4,L⟩:=m.vr1 hd K l;refine aB v2 (aA (by simp only [h0Y,bY,h1S,true_and,h1P,m.vl];omega) ?_);refine aB ((aJ (show y.id< (h2.set iv .dead).next from m.hid)).trans ((aE v4.symm).trans l)) (aA rfl ?_);refine⟨(_,k+1,_,x),(by rfl),(by rfl),(by rfl),(by rfl),(by rfl),(by rfl),(by(try dsimp only);rw [h0X _ (by omega)];rfl),(by rfl),(by rfl),(by rfl),(by rfl),(by rfl),⟨fn,r,L⟩,by(try dsimp only);omega⟩
    ·have hk:k=x.pc.length:=by omega
     subst hk;refine⟨(2-x.i)*100+x.lc.length,⟨(g,0,y,x),rfl,rfl,rfl,rfl,rfl,rfl,rfl,rfl,rfl,rfl,rfl,rfl,⟨fn,h1N _,w⟩,by(try dsimp only);omega⟩,?_⟩;have e3:1<=x.i:=by omega
     have d4:x.lc.length<=4:=by omega
     clear w fn a1 n4 X;generalize hMq:(2-x.i)*100+x.lc.length=MQ;rintro⟨g,k,y,x⟩ _ ⟨fn,X,w⟩ c0;dsimp only at fn X w c0⊢;have n4:=nR x.i;have a1:x.pc.length+x.lc.length=(bN x.i).length:=by rw [<-List.length_append,fn.p]
     refine dW (fun ci=>?_) (fun ci=>?_)
     ·have r:k<x.lc.length:=by omega
      have hs: ∃h:x.pc.length+k< (bN x.i).length,x.lc[k]=(bN x.i)[x.pc.length+k]:=e9B fn.p r
      obtain⟨lv,z,hl⟩:=w.hg;refine aB z ?_;have V:bR (k:Int):=by unfold bR;omega
      rcases w.nm with⟨a5,Z⟩| ⟨io,Z,A,b8,b5⟩
      ·have u:=w.nm0' a5 hs z;refine fC (congrArg some Z) (aP (by omega) (hZ (b:=x.lc[k]) (by rw [h0Z,h1W,h2A,h0U r];rfl) (aB ((aJ w.hid).trans z) (aA rfl (aB aH ?_)))));rcases u.vr with⟨G,hd⟩| ⟨iv,hd,hv,a4,a3⟩
       ·refine kW (congrArg some hd) ?_;refine⟨_,u.pre (op:=1) (im:=0) ⟨by decide,by decide⟩ (by omega),fun v h2 p=>?_⟩;obtain⟨D,m,K⟩:=u.put p ⟨by decide,by decide⟩ ⟨by decide,by decide⟩ eJ (by decide);obtain⟨lv2,l,_⟩:=m.hg;refine⟨(cA l).trans (cA (x:=LwS.pst _ Y T) aH).symm,?_⟩;refine aB ((aJ m.hid).trans l) (aA rfl ?_);have L:=m.vr0' G K l;refine⟨(_,k+1,_,x),(by rfl),(by rfl),(by rfl),(by rfl),(by rfl),(by rfl),(by(try dsimp only);rw [h0X _ (by omega)];rfl),(by rfl),(by rfl),(by rfl),(by rfl),(by rfl),⟨fn,r,L⟩,by(try dsimp only);omega⟩
       ·refine cZ (congrArg some hd) ?_;refine⟨_,u.pre (op:=1) (im:=0) ⟨by decide,by decide⟩ (by omega),fun v h2 p=>?_⟩;obtain⟨D,m,K⟩:=u.put p ⟨by decide,by decide⟩ ⟨by decide,by decide⟩ eJ (by decide);obtain⟨lv2,l,_⟩:=m.hg;refine⟨(cA l).trans (cA (x:=LwS.pst _ Y T) aH).symm,?_⟩;obtain⟨v2,v4,L⟩:=m.vr1 hd K l;refine aB v2 (aA (by simp only [h0Y,bY,h1S,true_and,h1P,m.vl];omega) ?_);refine aB ((aJ (show y.id< (h2.set iv .dead).next from m.hid)).trans ((aE v4.symm).trans l)) (aA rfl ?_);refine⟨(_,k+1,_,x),(by rfl),(by rfl),(by rfl),(by rfl),(by rfl),(by rfl),(by(try dsimp only);rw [h0X _ (by omega)];rfl),(by rfl),(by rfl),(by rfl),(by rfl),(by rfl),⟨fn,r,L⟩,by(try dsimp only);omega⟩
      ·have u:=w.nm1 hs.1 Z hs.2 z;have a2:io≠y.id:=fun q=>by
        rw [q,z]at A
        cases A
       refine dI (congrArg some Z) (aP (by omega) (hZ (b:=x.lc[k]) (by rw [h0Z,h1W,h2A,h0U r];rfl) (bE A (aA (by simp only [h0Y,bY,h1S,true_and];omega) (aB ((aE a2.symm).trans z) (aA rfl (aB aH ?_)))))));rcases u.vr with⟨G,hd⟩| ⟨iv,hd,hv,a4,a3⟩
       ·refine kW (congrArg some hd) ?_;refine⟨_,u.pre (op:=1) (im:=0) ⟨by decide,by decide⟩ (by omega),fun v h2 p=>?_⟩;obtain⟨D,m,K⟩:=u.put p ⟨by decide,by decide⟩ ⟨by decide,by decide⟩ eJ (by decide);obtain⟨lv2,l,_⟩:=m.hg;refine⟨(cA l).trans (cA (x:=LwS.pst _ Y T) aH).symm,?_⟩;refine aB ((aJ m.hid).trans l) (aA rfl ?_);have L:=m.vr0' G K l;refine⟨(_,k+1,_,x),(by rfl),(by rfl),(by rfl),(by rfl),(by rfl),(by rfl),(by(try dsimp only);rw [h0X _ (by omega)];rfl),(by rfl),(by rfl),(by rfl),(by rfl),(by rfl),⟨fn,r,L⟩,by(try dsimp only);omega⟩
       ·refine cZ (congrArg some hd) ?_;refine⟨_,u.pre (op:=1) (im:=0) ⟨by decide,by decide⟩ (by omega),fun v h2 p=>?_⟩;obtain⟨D,m,K⟩:=u.put p ⟨by decide,by decide⟩ ⟨by decide,by decide⟩ eJ (by decide);obtain⟨lv2,l,_⟩:=m.hg;refine⟨(cA l).trans (cA (x:=LwS.pst _ Y T) aH).symm,?_⟩;obtain⟨v2,v4,L⟩:=m.vr1 hd K l;refine aB v2 (aA (by simp only [h0Y,bY,h1S,true_and,h1P,m.vl];omega) ?_);refine aB ((aJ (show y.id< (h2.set iv .dead).next from m.hid)).trans ((aE v4.symm).trans l)) (aA rfl ?_);refine⟨(_,k+1,_,x),(by rfl),(by rfl),(by rfl),(by rfl),(by rfl),(by rfl),(by(try dsimp only);rw [h0X _ (by omega)];rfl),(by rfl),(by rfl),(by rfl),(by rfl),(by rfl),⟨fn,r,L⟩,by(try dsimp only);omega⟩
     ·have hk:k=x.lc.length:=by omega
      subst hk;have b2:(x.i:Int)=0\/ (x.i:Int)=1:=by
       rcases fn.fr with h|h
       ·exact .inl (by rw [h.1];rfl)
       ·exact .inr (by rw [h.1];rfl)
      obtain⟨s,sf,b7,a9,c1,c3⟩:=w.fin a1 hx b2 (by omega);have gc:=fn.gb.cost;have gn:=fn.gb.cnt;have gw:=fn.gb.whl;have wl:=w.ln;refine⟨3*Ss.cnt x.b+3,x.b,s,⟨rfl,rfl⟩,⟨⟨c1,c3,by rw [sf];exact fn.gb.wf,by omega,by rw [a9];omega,by rw [b7];omega⟩,by omega⟩,fun s2 h2 xb=>?_⟩;have bl:=xb.len;rw [a9]at bl;refine⟨Es.dp x.eks+1,x.eks,s2,⟨rfl,rfl⟩,⟨xb.bh,xb.gs,by rw [xb.f,sf];exact fn.gb.vw,h1G _,by omega⟩,fun v h3 p=>?_⟩;obtain⟨O,a0,xA,kA⟩:=p;have nA:=xA.len;obtain⟨_,⟨lv,z,b9⟩,_⟩:=xA.bh;have kb:=kA.kb;rcases b9 with⟨b3,_⟩| ⟨io,l1,l2,l3,l4⟩
      ·have hz:O.length=0:=by
        have e:O=[]:=b3;rw [e];rfl
       omega
      subst l1;have b4:GrOk ⟨O,s2.lo,v,a0⟩:=⟨xA.gs.gl,xA.gs.hl,kA,xA.gs.sk,by show O.length<=2000;omega⟩;refine aB z (dY rfl (dW (fun c9=>absurd c9 (by dsimp only;omega)) (fun _=>?_)));rcases fn.fr with⟨hi,a8,a6,a7⟩| ⟨hi,a8,c2,a6,a7⟩
      ·exfalso;omega
      ·have hR:x.R=some x.jr:=by
        unfold FnD.R
        rw [if_neg (by omega)]
       obtain⟨r1,r2,r3⟩:=w.fr _ hR;obtain⟨t1,t2⟩:=xb.fv.tp _ _ r2 r1 r3;obtain⟨t3,t4⟩:=xA.fc.tp _ _ (h1C r2 xb.fv.nx) t1 t2;refine dI (congrArg some a8) (aB z (dY rfl (aB z (bV (n:=a0) rfl (bE t3 (aA rfl (.inr ⟨(_,2,x.jr,gC [102] 2 x.gr++gC [103] 1 ⟨O,s2.lo,v,a0⟩),(by rfl),(by rfl),(by rfl),(by(try dsimp only);rw [hi];rfl),(by rfl),(by rfl),(by(try dsimp only);rw [a6,a7];rfl),(by rfl),⟨.inr ⟨rfl,_,_,c2,b4,rfl⟩⟩,by(try dsimp only);omega⟩)))))))
   ·obtain⟨rfl,g0,g1,b6,d6,rfl⟩:i=2/\∃g0 g1,GrOk g0/\GrOk g1/\c=gC [102] 2 g0++gC [103] 1 g1:=by
     rcases hO with hO|hO
     ·omega
     ·exact hO
    exact aA (by simp only [aN,bL,gC,bG,gI,hq.1,h1L]) (hk _ ⟨g0,g1,b6,d6,rfl⟩)
 ·exact hk.elim
def g2N:=bB 33 f5Z f5Y
theorem g2O:aT env g2N:=aI g8D (f0H)
def f6A(xs:List IV)(h:Heap)(K:IV->Heap->Prop):Prop:=match xs with
 | [.vslice none e0 n0 1 c0]=> ∃l:List Int,(n0=l.length/\c0=l.map (IV.int .i64))/\(∀x∈l,bR x)/\∀(i g:List IV),qG i g->K (.agg [.vslice none 0 2 2 i,.vslice none 0 2 9 g]) h
 |_=>False
theorem g8E: ∀xs h Q,f6A xs h Q->aU env 34 xs h Q:=by
 intro xs h Q g;refine g1R xs h Q ?_;unfold f6A at g;split at g
 ·rename_i e0 D G;obtain⟨l,y,m,g⟩:=g;exact⟨l,y,m,fun i A j u p r z=>g _ _ ⟨i,A,j,u,p,r,z,rfl,rfl⟩⟩
 ·exact g.elim
def g2P:=bB 34 f6A g2N
theorem g2Q:aT env g2P:=aI g8E g2O
def f6B(xs:List IV)(h:Heap)(K:KT):Prop:=match xs with
 | [.vslice none e0 n0 1 c0]=> ∃l:List Int,(n0=l.length/\c0=l.map (IV.int .i64))/\(∀x∈l,bR x)/\∀(g j i:List IV),qG g j->c1C i->K (.agg [.vslice none 0 2 2 g,.vslice none 0 2 5 i]) h
 |_=>False
theorem g8F(l:List Int)(e0:Nat)(h:Heap)(Q:KT):dF (aV g2P) env 9 dV bT bT [.vslice none e0 l.length 1 (l.map (IV.int .i64))] h Q=(
 aC (aN [IV.vslice none 0 l.length 1 (List.map (IV.int .i64) l)]) (∃(g:List Int),(l.length=g.length/\List.map (IV.int .i64) l=List.map (IV.int .i64) g)/\(∀(x:Int),x∈g->bR x)/\∀(i m:List IV),qG i m->qG i m/\((2:Nat)=2/\(2:Nat)=2)/\∀(j:List IV),c1C j->aC (aN [IV.agg [.vslice none 0 2 2 i,IV.vslice none 0 2 5 j]]) (Q (.agg [.vslice none 0 2 2 i,IV.vslice none 0 2 5 j]) h))):=by kernel_rfl
theorem g8G: ∀xs h Q,f6B xs h Q->aU env 9 xs h Q:=by
 intro xs h Q g;unfold f6B at g;split at g
 ·rename_i e0 y z;obtain⟨l,⟨rfl,rfl⟩,u,g⟩:=g;refine aS (g2Q) (g8F l e0 h Q) ?_;refine aA (by simp only [aN,bL,cH,h1L]) ⟨l,⟨rfl,rfl⟩,u,fun m p i=>⟨i,⟨rfl,rfl⟩,fun r j=>aA ?_ (g m p r i j)⟩⟩;simp only [aN,bL,i.q.pure.1,j.pure,h1L]
 ·exact g.elim
theorem e7A{l:List Nd}{i o:Nat}{K:Option Nat->Nat->Nat->List IV->Prop}(h:i<l.length)(p:o=i*3+2)(m:K none 0 l[i].ks.length (l[i].ks.map (IV.int .i64))):bH 1 (l.flatMap cN) o K:=by
 subst p;have g:=a8J (j:=2) h (by omega);unfold bH
 simp only [g];exact m
theorem c8D: ∀{l:List Nd}{n:Nat},(l.flatMap cN).take (n*3)=(l.take n).flatMap cN
 | [],n=>by simp
 |x::l,0=>by simp
 |x::l,n+1=>by
  rw [h2P,h8W,h2P,h5O,show(n+1)*3- (cN x).length=n*3 by show(n+1)*3-3=_;omega,c8D,h1H (by show 3<=_;omega)]
theorem jM{k:IntKind}{l:List Int}{i o:Nat}{K:Int->Prop}(h:i<l.length)(j:o=i)(g:K l[i]):aK k (l.map (IV.int k)) o K:=by
 subst j;exact gH h g
def c3B(xs:List IV)(h:Heap)(K:KT):Prop:=match xs with
 | [.int .i64 n,.int .i64 m]=>(0<m/\m<4611686018427387904)/\K (.int .i64 (n%m)) h
 |_=>False
theorem f6C(n m:Int)(h:Heap)(Q:KT):dF (aV noC) env 12 dV bT bT [.int .i64 n,.int .i64 m] h Q=(
 aC (!m==0) (aM (decide (Int.tmod n m<0)) (Q (.int .i64 (wW (Int.tmod n m+m))) h) (Q (.int .i64 (Int.tmod n m)) h))):=by kernel_rfl
theorem f6D: ∀xs h Q,c3B xs h Q->aU env 12 xs h Q:=by
 intro xs h Q g;unfold c3B at g;split at g
 ·rename_i n m;refine aS (rW env) (f6C n m h Q) ?_;delta wW;obtain⟨j,g⟩:=g;have h1:=h8R n (Int.dvd_refl m);have l:=Go.M13.a2X n m j.1;refine aA (by simp;omega) (aD (fun i=>cO g ?_) (fun i=>cO g ?_))
  ·simp only [decide_eq_true_eq]at i;rw [h0X _ (by omega)];congr 1;omega
  ·simp only [decide_eq_false_iff_not]at i;congr 1;omega
 ·exact g.elim
def d8X:=bB 12 c3B noC
theorem e7B:aT env d8X:=aI f6D (rW env)
def d8Y:=d8X
theorem e7C:aT env d8Y:=e7B
def c8E:=d8Y
theorem d8Z:aT env c8E:=e7C
def d9A:=c8E
theorem e7D:aT env d9A:=d8Z
def c8F:=d9A
theorem d9B:aT env c8F:=e7D
def f0I:=c8F
theorem f6E:aT env f0I:=d9B
def d9C:=f0I
theorem e7E:aT env d9C:=f6E
def b7T:=d9C
theorem d2B:aT env b7T:=e7E
def b7U:=b7T
theorem d2C:aT env b7U:=d2B
def b7V:=b7U
theorem d2D:aT env b7V:=d2C
def c8G:=b7V
theorem d9D:aT env c8G:=d2D
def d9E:=c8G
theorem e7F:aT env d9E:=d9D
def b2H:=d9E
theorem b7W:aT env b2H:=e7F
def b2I(xs:List IV)(h:Heap)(K:KT):Prop:=match xs with
 | [.int .i64 op]=>K (.tuple [.int .i64 (ar op),.bool (oU op)]) h
 |_=>False
def b7X:=IV.tuple [.int .i64 0,IV.bool true]
def b7Y:=IV.tuple [.int .i64 1,IV.bool true]
def b7Z:=IV.tuple [.int .i64 2,IV.bool true]
def d9F:=IV.tuple [.int .i64 (-1),IV.bool true]
def d9G:=IV.tuple [.int .i64 0,IV.bool false]
def d9H:=IV.tuple [.int .i64 3,IV.bool true]
theorem e7G(op:Int)(h:Heap)(Q:KT):dF (aV b2H) env 222 dV bT bT [.int .i64 op] h Q=(
 aM (op==1) (Q b7X h) (aM (op==2) (Q b7X h) (aM (op==3) (Q b7X h) (aM (op==26) (Q b7X h) (aM (op==20) (Q b7Y h) (aM (op==21) (Q b7Y h) (aM (op==24) (Q b7Y h) (aM (op==25) (Q b7Y h) (aM (op==(23:Int)) (Q b7Z h) (aM (op==27) (Q b7Z h) (aM (op==29) (Q b7Z h) (aM (op==22) (Q d9H h) (aM (op==28) (Q d9H h) (aM (op==30) (Q d9F h) (aM (op==31) (Q d9F h) (aM (decide (op>=4)) (aM (decide (op<=19)) (Q b7Z h) (Q d9G h)) (Q d9G h))))))))))))))))):=by kernel_rfl
theorem e7H: ∀xs h Q,b2I xs h Q->aU env 222 xs h Q:=by
 intro xs h Q g;unfold b2I at g;split at g
 ·rename_i op;refine aS (b7W) (e7G op h Q) ?_;delta b7X b7Y b7Z d9F d9G d9H
  repeat' (first|refine aA ?_ ?_|refine aD (fun _=>?_) (fun _=>?_)|refine And.intro ?_ ?_)
  all_goals first|assumption|omega| (refine cO g ?_;simp only [IV.agg.injEq,IV.tuple.injEq,IV.int.injEq,IV.bool.injEq,h2I,true_and,and_true];grind [ar,oU])
 ·exact g.elim
def b2J:=bB 222 b2I b2H
theorem b8A:aT env b2J:=aI e7H (b7W)
def d9I(xs:List IV)(h:Heap)(K:KT):Prop:=match xs with
 | [.int .i64 op]=>K (.vslice none 0 (tS op).length 1 ((tS op).map (IV.int .i64))) h
 |_=>False
theorem g2R(op:Int)(h:Heap)(Q:KT):dF (aV b2J) env 226 dV bT bT [.int .i64 op] h Q=(
 aM (op==22) (Q (.vslice none 0 3 1 [iI 1,iI 1,iI 1]) h) (aM (op==23) (Q (.vslice none 0 2 1 [iI 2,iI 1]) h) (aM (op==27) (Q (.vslice none 0 2 1 [iI 2,iI 1]) h) (aM (op==29) (Q (.vslice none 0 2 1 [iI 2,iI 1]) h) (aM (op==28) (Q (.vslice none 0 3 1 [iI 2,iI 1,iI 1]) h) (aM (op==24) (Q (.vslice none 0 1 1 [iI 2]) h) (aM (op==25) (Q (.vslice none 0 1 1 [iI 3]) h) (Q (.vslice none 0 2 1 [iI 1,iI 1]) h)))))))):=by kernel_rfl
theorem g2S: ∀xs h Q,d9I xs h Q->aU env 226 xs h Q:=by
 intro xs h Q g;unfold d9I at g;split at g
 ·rename_i op;refine aS (b8A) (g2R op h Q) ?_;delta iI;have fin: ∀w:List Int,tS op=w->Q (.vslice none 0 (w).length 1 ((w).map (IV.int .i64))) h:=by
   rintro _ rfl;exact g
  repeat' (refine aD (fun _=>?_) (fun _=>?_))
  all_goals simp only [beq_iff_eq,beq_eq_false_iff_ne]at*
  all_goals first|exact fin [1,1,1] (by simp [tS, *])|exact fin [2,1] (by simp [tS, *])|exact fin [2,1,1] (by simp [tS, *])|exact fin [2] (by simp [tS, *])|exact fin [3] (by simp [tS, *])|exact fin [1,1] (by simp [tS, *])
 ·exact g.elim
def d9J:=bB 226 d9I b2J
theorem d9K:aT env d9J:=aI g2S (b8A)
def g2T(s w:List Int):Inv':=hJ Nat (fun i=>[(0,.v (.vslice none 0 (s).length 1 ((s).map (IV.int .i64)))),(1,.v (.vslice none 0 (w).length 1 ((w).map (IV.int .i64)))),(5,.v (.int .i64 i))]) (fun _=>[]) (fun _=>Heap.empty)
 (fun i=>i<=s.length/\∀j,j<i->s[j]?=w[j]?) (fun i=>s.length-i)
def c3C(xs:List IV)(h:Heap)(K:KT):Prop:=match xs with
 | [.vslice none e1 n1 1 c1,.vslice none e2 n2 1 c2]=> ∃s w:List Int,(n1=s.length/\c1=s.map (IV.int .i64))/\(n2=w.length/\c2=w.map (IV.int .i64))/\(s.length<=w.length/\s.length<=1000000000)/\K (.bool (decide (s=w.take s.length))) h
 |_=>False
def a5K:=IV.int .i64
def b8B(s:List Int):=TV.v (.vslice none 0 s.length 1 (List.map a5K s))
def b8C(w:List Int):=TV.v (.vslice none 0 w.length 1 (List.map a5K w))
theorem f6F(s w:List Int)(m l:Nat)(h:Heap)(Q:KT):dF (aV d9J) env 224 dV (tK 3 (g2T s w)) bT [.vslice none m (s).length 1 ((s).map (IV.int .i64)),.vslice none l (w).length 1 ((w).map (IV.int .i64))] h Q=(
 aC (aN [IV.vslice none 0 s.length 1 (List.map a5K s),IV.vslice none 0 w.length 1 (List.map a5K w)]) ((∃(x:Nat),some (b8B s)=some (b8B s)/\some (b8C w)=some (b8C w)/\tI 0=tI (x:Int)/\Heap.mk PT.nil 0=Heap.mk PT.nil 0/\(x<=s.length/\∀(j:Nat),j<x->s[j]?=w[j]?)/\True)/\∀(x:Nat)(b:FF),(x<=s.length/\∀(j:Nat),j<x->s[j]?=w[j]?)->aM (decide ((x:Int)< (s.length:Int))) (aC (decide ((0:Int)<=(x:Int)) &&decide ((x:Int)< (s.length:Int))) (aK .i64 (List.map a5K s) ((x:Int).toNat*1) fun i=>aC (decide (0<=(x:Int)) &&decide ((x:Int)< (w.length:Int))) (aK .i64 (List.map a5K w) ((x:Int).toNat*1) fun p=>aM (i !=p) (Q (.bool false) h) (∃(g:Nat),some (b8B s)=some (b8B s)/\some (b8C w)=some (b8C w)/\tI (wW ((x:Int)+1))=tI (g:Int)/\Heap.mk PT.nil 0=Heap.mk PT.nil 0/\(g<=s.length/\∀(j:Nat),j<g->s[j]?=w[j]?)/\s.length-g<s.length-x)))) (Q (.bool true) h))):=by kernel_rfl
theorem f6G: ∀xs h Q,c3C xs h Q->aU env 224 xs h Q:=by
 intro xs h Q m;unfold c3C at m;split at m
 ·rename_i A T p G K L;obtain⟨s,w,⟨rfl,rfl⟩,⟨rfl,rfl⟩,u,m⟩:=m;refine aS (d9K) (f6F s w A G h Q) ?_;delta b8B b8C a5K tI wW;have z: ∀x:Nat,(x:Int).toNat=x:=h0Z
  obtain⟨O,u⟩:=u;refine aA (by simp only [aN,bL,cH,h1L]) ⟨⟨0,rfl,rfl,rfl,rfl,⟨h1N _,fun j D=>by omega⟩,trivial⟩,?_⟩;rintro i _ ⟨y,r⟩
  try dsimp only at y r⊢
  refine aD (fun c=>?_) (fun c=>?_)
  ·rw [decide_eq_true_eq]at c;have l:i<s.length:=by omega
   have g:i<w.length:=by omega
   simp only [z];rw [h1W];refine aA (by simp;omega) (gH l (aA (by simp;omega) (gH g (aD (fun p=>?_) (fun p=>⟨i+1,.intro,.intro,?_,.intro,⟨l,fun j D=>?_⟩,by(try dsimp only);omega⟩)))))
   ·rw [decide_eq_false (fun e=>?_)]at m
    ·exact m
    ·have:s[i]?=(w.take s.length)[i]?:=by rw [<-e]
     rw [h3L l,h0U l,h0U g,h0V]at this;rw [this]at p;simp at p
   ·rw [h0X _ (by omega)];rfl
   ·rcases h2D j i with q|q
    ·exact r j q
    ·obtain rfl:j=i:=by omega
     rw [bne_eq_false_iff_eq]at p;rw [h0U l,h0U g,p]
  ·rw [decide_eq_false_iff_not]at c;rw [decide_eq_true (h3T fun j=>?_)]at m
   ·exact m
   ·rcases h2D j s.length with q|q
    ·rw [h3L q,r j (by omega)]
    ·rw [h2E q,h2E (by simp;omega)]
 ·exact m.elim
def c3D:=bB 224 c3C d9J
theorem c8H:aT env c3D:=aI f6G (d9K)
def c3E(xs:List IV)(h:Heap)(K:KT):Prop:=match xs with
 | [.int .i64 k]=>(1<=k/\k<=1000000)/\K (.int .i64 ((k-1)/2)) h
 |_=>False
theorem f6H(k:Int)(h:Heap)(Q:KT):dF (aV c3D) env 223 dV bT bT [.int .i64 k] h Q=(
 Q (.int .i64 (wW (Int.tdiv (wW (k-1)) 2))) h):=by kernel_rfl
theorem f6I: ∀xs h Q,c3E xs h Q->aU env 223 xs h Q:=by
 intro xs h Q g;unfold c3E at g;split at g
 ·rename_i k;obtain⟨i,g⟩:=g;refine aS (c8H) (f6H k h Q) ?_;delta wW;refine cO g ?_
  congr 1
  rw [h0X (k-1) (by omega),h4U (by omega),h0X _ (by omega)]
 ·exact g.elim
def d9L:=bB 223 c3E c3D
theorem e7I:aT env d9L:=aI f6I (c8H)
def b2K(xs:List IV)(h:Heap)(K:KT):Prop:=match xs with
 | [.int .i64 k]=> ∃m:Nat,(1<=m/\m<=16)/\k=2*(m:Int)+1/\∀w:List Int,w=lsL m->K (.vslice none 0 (w).length 1 ((w).map (IV.int .i64))) h
 |_=>False
theorem e7J: ∀xs h Q,b2K xs h Q->aU env 225 xs h Q:=by
 intro xs h Q g;unfold b2K at g;split at g
 ·rename_i k;obtain⟨m,i,rfl,g⟩:=g;have h2:m=1\/m=2\/m=3\/m=4\/m=5\/m=6\/m=7\/m=8\/m=9\/m=10\/m=11\/m=12\/m=13\/m=14\/m=15\/m=16:=by omega
  rcases h2 with rfl|rfl|rfl|rfl|rfl|rfl|rfl|rfl|rfl|rfl|rfl|rfl|rfl|rfl|rfl|rfl
  all_goals exact⟨400,_,h,by kernel_rfl,g _ rfl⟩
 ·exact g.elim
def b2L:=bB 225 b2K d9L
theorem b8D:aT env b2L:=aI e7J (e7I)
def d9M(xs:List IV)(h:Heap)(K:KT):Prop:=match xs with
 | [.vslice none e0 n0 3 c0,.agg [.int .i64 op,.int .i64 im,.vslice none e1 n1 1 c1]]=> ∃(l:List Nd)(ks:List Int),(n0=l.length/\c0=l.flatMap cN)/\(n1=ks.length/\c1=ks.map (IV.int .i64))/\op≠25/\K (.bool (lB op im)) h
 |_=>False
def yD(im:Int):=decide (im>=0)
def uJ:=IV.bool false
theorem g2U(l:List Nd)(op im:Int)(ks:List Int)(e0 j:Nat)(h:Heap)(Q:KT):dF (aV b2L) env 206 dV bT bT [.vslice none e0 (l).length 3 ((l).flatMap cN),.agg [.int .i64 op,.int .i64 im,.vslice none j ks.length 1 (ks.map (IV.int .i64))]] h Q=(
 aC (aN [IV.vslice none 0 l.length 3 (List.flatMap cN l),IV.agg [.int .i64 op,iI im,IV.vslice none 0 ks.length 1 (List.map (IV.int .i64) ks)]]) (aM (op==1) (Q (.bool true) h) (aM (op==2) (aM (yD im) (Q (.bool (decide (im<=5))) h) (Q uJ h)) (aM (op==3) (aM (yD im) (Q (.bool (decide (im<=255))) h) (Q uJ h)) (aM (op==23) (aM (yD im) (Q (.bool (decide (im<=3))) h) (Q uJ h)) (aM (op==28) (aM (yD im) (Q (.bool (decide (im<=3))) h) (Q uJ h)) (aM (op==27) (aM (decide (im>=1)) (Q (.bool (decide (im<=1000016))) h) (Q uJ h)) (aM (op==30) (aM (yD im) (Q (.bool (decide (im<=7))) h) (Q uJ h)) (aM (op==31) (aM (yD im) (Q (.bool (decide (im<=15))) h) (Q uJ h)) (aM (op==25) (aC (true&&decide (0< (ks.length:Int))) (aK .i64 (List.map (IV.int .i64) ks) 0 fun g=>aC (decide (0<=g) &&decide (g< (l.length:Int))) (bH 1 (List.flatMap cN l) (g.toNat*3+2) fun(m:Option Nat)(p i:Nat)(c4:List IV)=>(1<=(i:Int)/\(i:Int)<=1000000)/\aM (yD im) (Q (.bool (decide (im<=wW (((i:Int)-1)/ (2:Int)-1)))) h) (Q uJ h)))) (aM (yD im) (Q (.bool (decide (im<=0))) h) (Q uJ h)))))))))))):=by kernel_rfl
theorem f0J: ∀xs h Q,d9M xs h Q->aU env 206 xs h Q:=by
 intro xs h Q i;unfold d9M at i;split at i
 ·rename_i e0 K L op im D T j;obtain⟨l,ks,⟨rfl,rfl⟩,⟨rfl,rfl⟩,y,i⟩:=i;refine aS (b8D) (g2U l op im ks e0 D h Q) ?_;delta yD uJ wW iI;have fin: ∀b:Bool,(b=true ↔ lB op im=true)->Q (.bool b) h:=fun b e=>by
   rw [<-Bool.eq_iff_iff]at e;rw [e];exact i
  have O:mxI 2=5/\mxI 3=255/\mxI 23=3/\mxI 28=3/\mxI 27=1000016/\mxI 30=7/\mxI 31=15:=by decide
  refine aA (by simp only [aN,bL,cH,gI,h1L]) ?_;unfold lB at fin;simp only [decide_eq_true_eq]at fin;refine aD (fun j=>?_) (fun j=>?_)
  ·exact fin _ (by rw [beq_iff_eq]at j;simp [j])
  refine aD (fun g=>?_) (fun g=>?_)
  ·rw [beq_iff_eq]at g;subst g;refine aD (fun d=>fin _ ?_) (fun d=>fin _ ?_)
   ·rw [decide_eq_true_eq]at d⊢;omega
   ·rw [decide_eq_false_iff_not]at d;simp only [h1X,false_iff];omega
  refine aD (fun g=>?_) (fun z=>?_)
  ·rw [beq_iff_eq]at g;subst g;refine aD (fun d=>fin _ ?_) (fun d=>fin _ ?_)
   ·rw [decide_eq_true_eq]at d⊢;omega
   ·rw [decide_eq_false_iff_not]at d;simp only [h1X,false_iff];omega
  refine aD (fun g=>?_) (fun c4=>?_)
  ·rw [beq_iff_eq]at g;subst g;refine aD (fun d=>fin _ ?_) (fun d=>fin _ ?_)
   ·rw [decide_eq_true_eq]at d⊢;omega
   ·rw [decide_eq_false_iff_not]at d;simp only [h1X,false_iff];omega
  refine aD (fun g=>?_) (fun r=>?_)
  ·rw [beq_iff_eq]at g;subst g;refine aD (fun d=>fin _ ?_) (fun d=>fin _ ?_)
   ·rw [decide_eq_true_eq]at d⊢;omega
   ·rw [decide_eq_false_iff_not]at d;simp only [h1X,false_iff];omega
  refine aD (fun g=>?_) (fun u=>?_)
  ·rw [beq_iff_eq]at g;subst g;refine aD (fun d=>fin _ ?_) (fun d=>fin _ ?_)
   ·rw [decide_eq_true_eq]at d⊢;omega
   ·rw [decide_eq_false_iff_not]at d;simp only [h1X,false_iff];omega
  refine aD (fun g=>?_) (fun A=>?_)
  ·rw [beq_iff_eq]at g;subst g;refine aD (fun d=>fin _ ?_) (fun d=>fin _ ?_)
   ·rw [decide_eq_true_eq]at d⊢;omega
   ·rw [decide_eq_false_iff_not]at d;simp only [h1X,false_iff];omega
  refine aD (fun g=>?_) (fun p=>?_)
  ·rw [beq_iff_eq]at g;subst g;refine aD (fun d=>fin _ ?_) (fun d=>fin _ ?_)
   ·rw [decide_eq_true_eq]at d⊢;omega
   ·rw [decide_eq_false_iff_not]at d;simp only [h1X,false_iff];omega
  refine aD (fun m=>absurd (beq_iff_eq.1 m) y) (fun m=>?_);rw [beq_eq_false_iff_ne]at j g z c4 r u A p m;have G:mxI op= -1:=by unfold mxI;rw [if_neg (by omega),if_neg (by omega),if_neg (by omega),if_neg (by omega),if_neg (by omega),if_neg (by omega)]
  rw [G]at fin;refine aD (fun d=>fin _ ?_) (fun d=>fin _ ?_)
  ·rw [decide_eq_true_eq]at d⊢;omega
  ·rw [decide_eq_false_iff_not]at d;simp only [h1X,false_iff];omega
 ·exact i.elim
def d9N:=bB 206 d9M b2L
theorem d9O:aT env d9N:=aI f0J (b8D)
def d9P(xs:List IV)(h:Heap)(K:KT):Prop:=match xs with
 | [.agg [.int .i64 op,.int .i64 im,.vslice none e1 n1 1 c1],.vslice none e2 n2 1 c2]=> ∃(ks s:List Int),(n1=ks.length/\c1=ks.map (IV.int .i64))/\(n2=s.length/\c2=s.map (IV.int .i64))/\((op≠25/\op≠30/\op≠31)/\s.length<=1000000)/\K (.bool (vC op s)) h
 |_=>False
def b8E(op:Int)(s:List Int)(h:Heap)(Q:KT):=(∃(g w:List Int),(s.length=g.length/\List.map (IV.int .i64) s=List.map (IV.int .i64) g)/\((tS op).length=w.length/\List.map (IV.int .i64) (tS op)=List.map (IV.int .i64) w)/\(g.length<=w.length/\g.length<=1000000000)/\Q (.bool (decide (g=List.take g.length w)))
 h)
def nV:=IV.bool false
def d9Q(s:List Int)(h:Heap)(Q:KT):=aM (decide ((s.length:Int)>=3)) (aM (Int.tmod (s.length:Int) 2==1) ((1<=(s.length:Int)/\(s.length:Int)<=1000000)/\aM (decide (((s.length:Int)-1)/ (2:Int)<=16)) (∃(m:Nat),(1<=m/\m<=16)/\(s.length:Int)=2*(m:Int)+1/\∀(w:List Int),w=2::(List.replicate
 m 1++(2:Int)::List.replicate (m-1) 1)-> ∃(g i:List Int),(s.length=g.length/\List.map (IV.int .i64) s=List.map (IV.int .i64) g)/\(w.length=i.length/\List.map (IV.int .i64) w=List.map (IV.int .i64) i)/\(g.length<=i.length/\g.length<=1000000000)
 /\Q (.bool (decide (g=List.take g.length i))) h) (Q nV h)) (Q nV h)) (Q nV h)
def uK(s:List Int):=List.map (IV.int .i64) s
def b8F(s:List Int):=true&&decide (0< (s.length:Int))
def d9R(s:List Int):=aC (true&& (decide (1<=(s.length:Int)) &&decide ((s.length:Int)<=(s.length:Int)))) False
theorem g2V(op im:Int)(ks s:List Int)(r u:Nat)(h:Heap)(Q:KT):dF (aV d9N) env 205 dV bT bT [.agg [.int .i64 op,.int .i64 im,.vslice none r ks.length 1 (ks.map (IV.int .i64))],.vslice none u (s).length 1 ((s).map (IV.int .i64))] h Q=(
 aC (aN [IV.agg [.int .i64 op,iI im,IV.vslice none 0 ks.length 1 (List.map (IV.int .i64) ks)],IV.vslice none 0 s.length 1 (uK s)]) (aM (!oU op) (Q nV h) (aM (decide (ar op>=0)) (aM (ar op !=((s.length):Int)) (Q nV h) (aM (op==31) (d9Q s h Q) (aM (op==30) (aM (decide ((s.length:Int)<1)) (Q nV h) (aM (decide ((s.length:Int)>7)) (Q nV h) (aC (b8F s) (aK .i64 (uK s) 0 fun g=>aM (g !=(2:Int)) (Q nV h) (d9R s))))) (aM (op==22) (aC (true&&decide (1< (s.length:Int))) (aK .i64 (uK s) 1 fun z=>aM (z==2) (aC (b8F s) (aK .i64 (uK s) 0 fun j=>aM (j==1) (aC (true&&decide (2< (s.length:Int))) (aK .i64 (uK s) 2 fun i=>Q (.bool (i==2)) h)) (Q nV h))) (b8E op s h Q))) (b8E op s h Q))))) (aM (op==31) (d9Q s h Q) (aM (op==30) (aM (decide ((s.length:Int)< (1:Int))) (Q nV h) (aM (decide ((s.length:Int)>7)) (Q nV h) (aC (b8F s) (aK .i64 (uK s) 0 fun y=>aM (y !=2) (Q nV h) (d9R s))))) (aM (op==22) (aC (true&&decide (1< (s.length:Int))) (aK .i64 (uK s) 1 fun l=>aM (l==2) (aC (b8F s) (aK .i64 (uK s) 0 fun p=>aM (p==1) (aC (true&&decide (2< (s.length:Int))) (aK .i64 (uK s) 2 fun m=>Q (.bool (m==(2:Int))) h)) (Q nV h))) (b8E op s h Q))) (b8E op s h Q))))))):=by kernel_rfl
theorem f0K: ∀xs h Q,d9P xs h Q->aU env 205 xs h Q:=by
 intro xs h Q g;unfold d9P at g;split at g
 ·rename_i op im y K j p A D;obtain⟨ks,s,⟨rfl,rfl⟩,⟨rfl,rfl⟩,u,g⟩:=g;refine aS (d9O) (g2V op im ks s y p h Q) ?_;delta b8E d9Q uK b8F d9R nV iI;obtain⟨h3,G⟩:=u;refine aA (by simp only [aN,bL,cH,h1L]) (aD (fun c=>?_) (fun c=>?_))
  ·have e:vC op s=false:=by unfold vC;simp at c;simp [c]
   rw [e]at g;exact g
  rw [h3A]at c;have z:=f2V c h3;refine aD (fun _=>?_) (fun d=>by rw [decide_eq_false_iff_not]at d;omega);refine aD (fun j=>?_) (fun j=>?_)
  ·have e:vC op s=false:=by unfold vC;rw [bne_iff_ne]at j;simp [Ne.symm j]
   rw [e]at g;exact g
  rw [bne_eq_false_iff_eq]at j;have r:vC op s=(if op=22/\s.getD 1 0=2 then decide (s=[1,2,2])else decide (s=(tS op).take s.length)):=by
   unfold vC
   rw [c,decide_eq_true j.symm];rfl
  rw [r]at g;refine aD (fun d=>absurd (beq_iff_eq.1 d) h3.2.2) (fun _=>aD (fun d=>absurd (beq_iff_eq.1 d) h3.2.1) (fun _=>aD (fun d=>?_) (fun d=>?_)))
  ·rw [beq_iff_eq]at d;subst d;obtain⟨a,b,e,rfl⟩:=f2U (j.symm.trans (by decide));refine aA (by simp) (gH (l:=[a,b,e]) (i:=1) (by simp) (aD (fun f=>aA (by simp) (gH (l:=[a,b,e]) (i:=0) (by simp) (aD (fun m=>aA (by simp) (gH (l:=[a,b,e]) (i:=2) (by simp) ?_)) (fun m=>?_)))) (fun f=>⟨[a,b,e],tS 22,⟨rfl,rfl⟩,⟨rfl,rfl⟩,⟨by show 3<=(tS 22).length;decide,by simp⟩,?_⟩)))
   ·simp at f m;subst f m;simp at g;simp only [h6M,h6L];have p:(e==2)=decide (e=2):=rfl;rw [p];exact g
   ·simp at f m;subst f;simp [m]at g;exact g
   ·simp at f;rw [if_neg (by simp [f])]at g;exact g
  ·rw [beq_eq_false_iff_ne]at d;rw [if_neg (fun q=>d q.1)]at g;exact⟨s,tS op,⟨rfl,rfl⟩,⟨rfl,rfl⟩,⟨by omega,by omega⟩,g⟩
 ·exact g.elim
def d9S:=bB 205 d9P d9N
theorem d9T:aT env d9S:=aI f0K (d9O)
def b2M(xs:List IV)(h:Heap)(K:KT):Prop:=match xs with
 | [.vslice none e0 n0 3 c0,.agg [.int .i64 25,.int .i64 im,.vslice none e1 n1 1 c1]]=> ∃(l:List Nd)(ks:List Int),(n0=l.length/\c0=l.flatMap cN)/\(n1=ks.length/\c1=ks.map (IV.int .i64))/\(∃q:Int,ks=[q]/\(0<=q/\q<l.length)/\3<=(l.getD q.toNat default).ks.length/\(l.getD q.toNat default).ks.length<=33)/\K (.bool (decide (0<=im/\2*im+3<=(l.getD (ks.getD 0 0).toNat default).ks.length))) h
 |_=>False
theorem e7K(l:List Nd)(im:Int)(ks:List Int)(e0 j:Nat)(h:Heap)(Q:KT):dF (aV d9S) env 206 dV bT bT [.vslice none e0 (l).length 3 ((l).flatMap cN),.agg [.int .i64 25,.int .i64 im,.vslice none j ks.length 1 (ks.map (IV.int .i64))]] h Q=(
 aC (aN [IV.vslice none 0 l.length 3 (List.flatMap cN l),IV.agg [.int .i64 25,iI im,IV.vslice none 0 ks.length 1 (List.map (IV.int .i64) ks)]]) (aC (true&&decide (0< (ks.length:Int))) (aK .i64 (List.map (IV.int .i64) ks) 0 fun g=>aC (decide (0<=g) &&decide (g< (l.length:Int))) (bH 1 (List.flatMap cN l) (g.toNat*3+2) fun(m:Option Nat)(p i:Nat)(c4:List IV)=>(1<=(i:Int)/\(i:Int)<=1000000)/\aM (decide (im>=0)) (Q (.bool (decide (im<=wW (((i:Int)-1)/ (2:Int)-1)))) h) (Q (.bool false) h))))):=by kernel_rfl
theorem c8I: ∀xs h Q,b2M xs h Q->aU env 206 xs h Q:=by
 intro xs h Q g;unfold b2M at g;split at g
 ·rename_i e0 z G im y K A;obtain⟨l,ks,⟨rfl,rfl⟩,⟨rfl,rfl⟩,r,g⟩:=g;refine aS (d9T) (e7K l im ks e0 y h Q) ?_;delta wW iI;obtain⟨q,rfl,D,h3,m⟩:=r;have j:q.toNat<l.length:=by omega
  have u:(l.getD q.toNat default).ks.length=(l[q.toNat]).ks.length:=by rw [h1A,h0U j];rfl
  replace g:=(show Q (.bool (decide (0<=im/\2*im+3<=((l.getD q.toNat default).ks.length:Int)))) h from g);rw [u]at h3 m g;refine aA (by simp only [aN,bL,cH,gI,h1L]) (aA (by simp) (gH (l:=[q]) (i:=0) (by simp) (aA (by simp;omega) (e7A j rfl ⟨⟨by omega,by omega⟩,?_⟩))));have p:IntKind.i64.wrap ((((l[q.toNat]).ks.length:Int)-1)/2-1)=(((l[q.toNat]).ks.length:Int)-1)/2-1:=h0X _ (by omega);rw [p];refine aD (fun c=>?_) (fun c=>?_)
  ·rw [decide_eq_true_eq]at c;refine cO g ?_
   congr 1
   rw [h5Z,decide_eq_true_eq,decide_eq_true_eq];omega
  ·rw [decide_eq_false_iff_not]at c;refine cO g ?_
   congr 1
   rw [decide_eq_false_iff_not];omega
 ·exact g.elim
def c8J:=bB 206 b2M d9S
theorem d9U:aT env c8J:=aI c8I (d9T)
def c3F(xs:List IV)(h:Heap)(K:KT):Prop:=match xs with
 | [.vslice none e0 n0 3 c0,.agg [.int .i64 op,.int .i64 im,.vslice none e1 n1 1 c1]]=> ∃(l:List Nd)(ks:List Int),(n0=l.length/\c0=l.flatMap cN)/\(n1=ks.length/\c1=ks.map (IV.int .i64))/\(op=25-> ∃q:Int,ks=[q]/\(0<=q/\q<l.length)/\3<=(l.getD q.toNat default).ks.length/\(l.getD q.toNat default).ks.length<=33)/\K (.bool (wZ (eK l ⟨op,im,ks⟩) op im)) h
 |_=>False
theorem f6J: ∀xs h Q,c3F xs h Q->aU env 206 xs h Q:=by
 intro xs h Q g;unfold c3F at g;split at g
 ·rename_i e0 j p op im r u m;obtain⟨l,ks,⟨rfl,rfl⟩,⟨rfl,rfl⟩,i,g⟩:=g;unfold wZ at g
  by_cases o25:op=25
  ·subst o25;rw [if_pos rfl]at g;exact c8I _ _ _ ⟨l,ks,⟨rfl,rfl⟩,⟨rfl,rfl⟩,i rfl,g⟩
  ·rw [if_neg o25]at g;exact f0J _ _ _ ⟨l,ks,⟨rfl,rfl⟩,⟨rfl,rfl⟩,o25,g⟩
 ·exact g.elim
def c3G:=bB 206 c3F c8J
theorem c8K:aT env c3G:=aI f6J (d9U)
def b2N(xs:List IV)(h:Heap)(K:KT):Prop:=match xs with
 | [.agg [.int .i64 31,.int .i64 im,.vslice none e1 n1 1 c1],.vslice none e2 n2 1 c2]=> ∃(ks s:List Int),(n1=ks.length/\c1=ks.map (IV.int .i64))/\(n2=s.length/\c2=s.map (IV.int .i64))/\s.length<=1000000/\K (.bool (a3G s)) h
 |_=>False
theorem e7L(im:Int)(ks s:List Int)(l j:Nat)(h:Heap)(Q:KT):dF (aV c3G) env 205 dV bT bT [.agg [.int .i64 31,.int .i64 im,.vslice none l ks.length 1 (ks.map (IV.int .i64))],.vslice none j (s).length 1 ((s).map (IV.int .i64))] h Q=(
 aC (aN [IV.agg [.int .i64 31,iI im,IV.vslice none 0 ks.length 1 (List.map (IV.int .i64) ks)],IV.vslice none 0 s.length 1 (List.map (IV.int .i64) s)]) (aM (decide ((s.length:Int)>=3)) (aM (Int.tmod (s.length:Int) 2==1) ((1<=(s.length:Int)/\(s.length:Int)<=1000000)/\aM (decide (((s.length:Int)-1)/ (2:Int)<=16)) (∃(m:Nat),(1<=m/\m<=16)/\(s.length:Int)=2*(m:Int)+1/\∀(w:List Int),w=2::(List.replicate m 1++(2:Int)::List.replicate (m-1) 1)-> ∃(g:List Int),∃(i:List Int),(s.length=g.length/\List.map (IV.int .i64) s=List.map (IV.int .i64) g)/\(w.length=i.length/\List.map (IV.int .i64) w=List.map (IV.int .i64) i)/\(g.length<=i.length/\g.length<=1000000000)/\Q (.bool (decide (g=List.take g.length i))) h) (Q (.bool false) h)) (Q (.bool false) h)) (Q (.bool false) h))):=by kernel_rfl
theorem c8L: ∀xs h Q,b2N xs h Q->aU env 205 xs h Q:=by
 intro xs h Q g;unfold b2N at g;split at g
 ·rename_i im z K m A D r;obtain⟨ks,s,⟨rfl,rfl⟩,⟨rfl,rfl⟩,G,g⟩:=g;refine aS (c8K) (e7L im ks s z A h Q) ?_;delta iI;have j: ¬a3G s=true->Q (.bool false) h:=fun e=>by
   rw [h7R]at e;rw [e]at g;exact g
  have i:=fun q:a3G s=true=>sD q
  refine aA (by simp only [aN,bL,cH,h1L]) (aD (fun m=>?_) (fun c=>j (fun q=>by rw [decide_eq_false_iff_not]at c;have:=i q;omega)));rw [decide_eq_true_eq]at m;rw [h3N (by omega)];refine aD (fun r=>⟨⟨by omega,by omega⟩,?_⟩) (fun c=>j (fun q=>by rw [beq_eq_false_iff_ne]at c;have:=i q;omega));rw [beq_iff_eq]at r;refine aD (fun u=>?_) (fun c=>j (fun q=>by rw [decide_eq_false_iff_not]at c;have:=i q;omega));rw [decide_eq_true_eq]at u;refine⟨s.length/2,⟨by omega,by omega⟩,by omega,fun w l=>?_⟩;have p:w=lsL (s.length/2):=l;have y:w.length=s.length:=by rw [p,c6C (by omega)];omega
  refine⟨s,w,⟨rfl,rfl⟩,⟨rfl,rfl⟩,⟨by omega,by omega⟩,cO g ?_⟩
  congr 1
  rw [h1H (by omega),p,h5Z,decide_eq_true_eq];exact⟨fun q=>(i q).2.2.2,fun q=>by unfold a3G;simp only [h0Y,decide_eq_true_eq];exact⟨by omega,by omega,by omega,q⟩⟩
 ·exact g.elim
def b2O:=bB 205 b2N c3G
theorem b8G:aT env b2O:=aI c8L (c8K)
def b2P(xs:List IV)(h:Heap)(K:KT):Prop:=match xs with
 | [.agg [.int .i64 25,.int .i64 im,.vslice none e1 n1 1 c1],.vslice none e2 n2 1 c2]=> ∃(ks s:List Int),(n1=ks.length/\c1=ks.map (IV.int .i64))/\(n2=s.length/\c2=s.map (IV.int .i64))/\s.length<=1000000/\K (.bool (decide (s=[3]))) h
 |_=>False
theorem e7M(im:Int)(ks s:List Int)(j i:Nat)(h:Heap)(Q:KT):dF (aV b2O) env 205 dV bT bT [.agg [.int .i64 25,.int .i64 im,.vslice none j ks.length 1 (ks.map (IV.int .i64))],.vslice none i (s).length 1 ((s).map (IV.int .i64))] h Q=(
 aC (aN [IV.agg [.int .i64 25,iI im,IV.vslice none 0 ks.length 1 (List.map (IV.int .i64) ks)],IV.vslice none 0 s.length 1 (List.map (IV.int .i64) s)]) (aM ((1:Int) !=(s.length:Int)) (Q (.bool false) h) (∃(g:List Int),∃(w:List Int),(s.length=g.length/\List.map (IV.int .i64) s=List.map (IV.int .i64) g)/\((1:Nat)=w.length/\[iI 3]=List.map (IV.int .i64) w)/\(g.length<=w.length/\g.length<=1000000000)/\Q (.bool (decide (g=List.take g.length w))) h))):=by kernel_rfl
theorem c8M: ∀xs h Q,b2P xs h Q->aU env 205 xs h Q:=by
 intro xs h Q g;unfold b2P at g;split at g
 ·rename_i im j p m l y r;obtain⟨ks,s,⟨rfl,rfl⟩,⟨rfl,rfl⟩,u,g⟩:=g;refine aS (b8G) (e7M im ks s j l h Q) ?_;delta iI;refine aA (by simp only [aN,bL,cH,h1L]) (aD (fun c=>?_) (fun c=>?_))
  ·rw [decide_eq_false (fun e=>by rw [e]at c;simp at c)]at g;exact g
  ·rw [bne_eq_false_iff_eq]at c;have i:s.length=1:=by omega
   refine⟨s,[3],⟨rfl,rfl⟩,⟨rfl,rfl⟩,⟨by simp [i],by omega⟩,?_⟩;rw [i];exact g
 ·exact g.elim
def b2Q:=bB 205 b2P b2O
theorem b8H:aT env b2Q:=aI c8M (b8G)
def g8H(s:List Int):Inv':=hJ (Nat×Nat×List Int) (fun x=>[(72,.v (.vslice none x.2.1 x.2.2.length 1 (x.2.2.map (IV.int .i64)))),(73,.v (.int .i64 (x.2.2.length:Int))),(74,.v (.int .i64 (x.1:Int)))]) (fun _=>[]) (fun _=>Heap.empty)
 (fun x=>x.2.2=s.drop 1/\x.1<=x.2.2.length/\∀j,j<x.1->x.2.2[j]?=some 1) (fun x=>x.2.2.length-x.1)
def b2R(xs:List IV)(h:Heap)(K:KT):Prop:=match xs with
 | [.agg [.int .i64 30,.int .i64 im,.vslice none e1 n1 1 c1],.vslice none e2 n2 1 c2]=> ∃(ks s:List Int),(n1=ks.length/\c1=ks.map (IV.int .i64))/\(n2=s.length/\c2=s.map (IV.int .i64))/\s.length<=1000000/\K (.bool (a1H s)) h
 |_=>False
def sY(x:Nat×Nat×List Int):=x.2.2
def a0Y:=IV.int .i64
def d9V(s:List Int)(x:Nat×Nat×List Int):=(x.2.2=List.drop 1 s/\x.1<=List.length (sY x)/\∀(j:Nat),j<x.1->(sY x)[j]?=some (1:Int))
def d9W(x:Nat×Nat×List Int):=TV.v (.vslice none x.2.1 ((sY x).length) 1 (List.map a0Y (sY x)))
def c8N(s:List Int):=(s.length:Int).toNat-1
theorem e7N(im:Int)(ks s:List Int)(m l:Nat)(h:Heap)(Q:KT):dF (aV b2Q) env 205 dV (tK 11 (g8H s)) bT [.agg [.int .i64 30,.int .i64 im,.vslice none m ks.length 1 (ks.map (IV.int .i64))],.vslice none l (s).length 1 ((s).map (IV.int .i64))] h Q=(
 aC (aN [IV.agg [.int .i64 30,iI im,IV.vslice none 0 ks.length 1 (List.map a0Y ks)],IV.vslice none 0 s.length 1 (List.map a0Y s)]) (aM (decide ((s.length:Int)<1)) (Q (.bool false) h) (aM (decide ((s.length:Int)>7)) (Q (.bool false) h) (aC (true&&decide (0< (s.length:Int))) (aK .i64 (List.map a0Y s) 0 fun i=>aM (i !=2) (Q (.bool false) h) (aC (true&& (decide (1<=(s.length:Int)) &&decide ((s.length:Int)<=(s.length:Int)))) ((∃(x:Nat×Nat×List Int),some (TV.v (.vslice none ((0:Nat)- (s.length- (s.length:Int).toNat)*1) (c8N s) 1 (List.take ((c8N s)*1) (List.drop 1 (List.map a0Y s)))))=some (d9W x)/\tI ((c8N s):Int)=tI (↑((sY x).length):Int)/\tI 0=tI (x.1:Int)/\Heap.mk PT.nil 0=Heap.mk PT.nil 0/\(d9V s x)/\True)/\∀(x:Nat×Nat×List Int)(b:FF),(d9V s x)->aM (decide ((x.1:Int)< (↑((sY x).length):Int))) (aC (decide (0<=(x.1:Int)) &&decide ((x.1:Int)< (↑((sY x).length):Int))) (aK .i64 (List.map a0Y (sY x)) ((x.1:Int).toNat*1) fun p=>aM (p !=1) (Q (.bool false) h) (∃(g:Nat×Nat×List Int),some (d9W x)=some (TV.v (.vslice none g.2.1 g.2.2.length 1 (List.map a0Y ((g.2).2))))/\tI (↑((sY x).length):Int)=tI (g.2.2.length:Int)/\tI (wW ((x.1:Int)+1))=tI ((g.1):Int)/\Heap.mk PT.nil 0=Heap.mk PT.nil 0/\(g.2.2=List.drop 1 s/\g.1<=g.2.2.length/\∀(j:Nat),j<g.1->g.2.2[j]?=some (1:Int))/\g.2.2.length-g.1< (sY x).length-x.1))) (Q (.bool true) h)))))))):=by kernel_rfl
theorem c8O: ∀xs h Q,b2R xs h Q->aU env 205 xs h Q:=by
 intro xs h Q l;unfold b2R at l;split at l
 ·rename_i im L n1 c1 e2 n2 D;obtain⟨ks,s,⟨rfl,rfl⟩,⟨rfl,rfl⟩,hl,l⟩:=l;refine aS (b8H) (e7N im ks s L e2 h Q) ?_;delta sY a0Y d9V d9W c8N tI wW iI;have A:a1H s=false->Q (.bool false) h:=fun e=>by rw [e]at l;exact l
  have ht:a1H s=true->Q (.bool true) h:=fun e=>by rw [e]at l;exact l
  have K: ∀{p:Prop},(a1H s=true->p)-> ¬p->a1H s=false:=fun f n=>by
   cases e:a1H s
   ·rfl
   ·exact absurd (f e) n
  refine aA (by simp only [aN,bL,cH,h1L]) ?_
  cases s with
  |nil=>exact dW (fun c=>A rfl) (fun c=>absurd (show(([]:List Int).length:Int)<1 by simp) c)
  |cons a r=>
   have g:(a::r).length=r.length+1:=h1O;have O:a1H (a::r)=true->r.length<=6/\a=2/\(r.all fun x=>decide (x=1))=true:=fun e=>by
    simp only [a1H,h0Y,decide_eq_true_eq]at e;exact e
   refine dW (fun c=>absurd c (by rw [g];omega)) (fun _=>dW (fun c=>A (K O (fun q=>by have:=q.1;rw [g]at c;omega))) (fun c6=>aA (by rw [h2G,decide_eq_true_eq,g];omega) (bV (n:=a) rfl (aD (fun c=>A (K O (fun q=>?_))) (fun D=>aA (by simp only [h2G,h0Y,decide_eq_true_eq,g];omega) ?_)))))
   ·rw [bne_iff_ne]at c;exact c q.2.1
   rw [bne_eq_false_iff_eq]at D;have L:(((a::r).length:Nat):Int).toNat-1=r.length:=by rw [h0Z,g];rfl
   rw [L,h2H,List.drop_succ_cons,h4J,h1H (by rw [h1P];omega)];refine⟨⟨(0,_,r),rfl,rfl,rfl,rfl,⟨rfl,h1N _,fun j u=>absurd u (h4Q _)⟩,True.intro⟩,?_⟩;rintro⟨i,e,y⟩ _ ⟨G,Z,u⟩;have G:y=r:=G;subst G;dsimp only at Z u⊢;refine dW (fun ci=>?_) (fun ci=>ht ?_)
   ·have m:i<y.length:=by omega
    refine aP (by omega) (bV (n:=y[i]) (by rw [h0Z,h1W,h2A,h0U m];rfl) (aD (fun c=>A (K O (fun q=>?_))) (fun c=>⟨(i+1,e,y),rfl,rfl,(by(try dsimp only);rw [h0X _ (by omega)];rfl),rfl,⟨rfl,m,fun j V=>?_⟩,by dsimp only;omega⟩)))
    ·rw [bne_iff_ne]at c;exact c (by simpa using h2L.1 q.2.2 _ (h1B m))
    ·rw [bne_eq_false_iff_eq]at c;rcases h2D j i with z|z
     ·exact u j z
     ·have T:j=i:=by
       have:j<i+1:=V;omega
      subst T;rw [h0U m,c]
   ·have Y:y.length<=6:=by rw [g]at c6;omega
    simp only [a1H,h0Y,decide_eq_true_eq];refine⟨Y,D,h2L.2 fun x hx=>?_⟩;obtain⟨j,X,rfl⟩:=h4L.1 hx;have:=u j (by omega);rw [h0U X,h0V]at this;simpa using this
 ·exact l.elim
def c8P:=bB 205 b2R b2Q
theorem d9X:aT env c8P:=aI c8O (b8H)
def c3H(xs:List IV)(h:Heap)(K:KT):Prop:=match xs with
 | [.agg [.int .i64 op,.int .i64 im,.vslice none e1 n1 1 c1],.vslice none e2 n2 1 c2]=> ∃(ks s:List Int),(n1=ks.length/\c1=ks.map (IV.int .i64))/\(n2=s.length/\c2=s.map (IV.int .i64))/\(True/\True/\s.length<=1000000)/\K (.bool (qV op s)) h
 |_=>False
theorem f6K: ∀xs h Q,c3H xs h Q->aU env 205 xs h Q:=by
 intro xs h Q g;unfold c3H at g;split at g
 ·rename_i op im p l j r u m;obtain⟨ks,s,⟨rfl,rfl⟩,⟨rfl,rfl⟩,⟨_,_,i⟩,g⟩:=g;unfold qV at g
  by_cases h30:op=30
  ·subst h30;rw [if_pos rfl]at g;exact c8O _ _ _ ⟨ks,s,⟨rfl,rfl⟩,⟨rfl,rfl⟩,i,g⟩
  rw [if_neg h30]at g;unfold a3P at g
  by_cases o31:op=31
  ·subst o31;rw [if_pos rfl]at g;exact c8L _ _ _ ⟨ks,s,⟨rfl,rfl⟩,⟨rfl,rfl⟩,i,g⟩
  rw [if_neg o31]at g
  by_cases o25:op=25
  ·subst o25;rw [if_pos rfl]at g;exact c8M _ _ _ ⟨ks,s,⟨rfl,rfl⟩,⟨rfl,rfl⟩,i,g⟩
  rw [if_neg o25]at g;exact f0K _ _ _ ⟨ks,s,⟨rfl,rfl⟩,⟨rfl,rfl⟩,⟨⟨o25,h30,o31⟩,i⟩,g⟩
 ·exact g.elim
def c3I:=bB 205 c3H c8P
theorem c8Q:aT env c3I:=aI f6K (d9X)
def g2W(l:List Nd)(i e0 id:Nat)(g:List Int)(h:Heap):Inv':= .or
 (hJ (Nat×Nd) (fun x=>[(0,.v (.vslice none e0 (l).length 3 ((l).flatMap cN))),(1,.v (.int .i64 i)),(2,.v (.hslice id 0 g.length 1)),(7,.l 7 0),(16,.v (.vslice none 0 (x.2.ks).length 1 ((x.2.ks).map (IV.int .i64)))),(17,.v (.int .i64 x.2.ks.length)),(18,.v (.int .i64 x.1)),(8,.v .nilslice)]) (fun x=>[(7,[.int .i64 x.2.op,.int .i64 x.2.im,.vslice none 0 (x.2.ks).length 1 ((x.2.ks).map (IV.int .i64))])]) (fun _=>h) (fun x=>l[i]?=some x.2/\x.1=0) (fun x=>x.2.ks.length-x.1))
 (hJ (Nat×Nd×List Int×Nat×Heap) (fun x=>[(0,.v (.vslice none e0 (l).length 3 ((l).flatMap cN))),(1,.v (.int .i64 i)),(2,.v (.hslice id 0 g.length 1)),(7,.l 7 0),(16,.v (.vslice none 0 (x.2.1.ks).length 1 ((x.2.1.ks).map (IV.int .i64)))),(17,.v (.int .i64 x.2.1.ks.length)),(18,.v (.int .i64 x.1)),(8,.v (.vslice (some x.2.2.2.1) x.2.2.1.length x.2.2.1.length 1 (x.2.2.1.map (IV.int .i64))))]) (fun x=>[(7,[.int .i64 x.2.1.op,.int .i64 x.2.1.im,.vslice none 0 (x.2.1.ks).length 1 ((x.2.1.ks).map (IV.int .i64))])]) (fun x=>x.2.2.2.2) (fun x=>l[i]?=some x.2.1/\SIG l i x.1 x.2.2.1/\(0<x.1/\x.2.2.2.2.get x.2.2.2.1= .tip x.2.2.1.length/\x.2.2.2.1≠id)/\(x.2.2.2.2.get id=h.get id/\h.next<=x.2.2.2.2.next)) (fun x=>x.2.1.ks.length-x.1))
def f6L(xs:List IV)(h:Heap)(K:KT):Prop:=match xs with
 | [.vslice none e0 n0 3 c0,.int .i64 q,.hslice id 0 n2 1]=> ∃(l:List Nd)(i:Nat)(g:List Int),(n0=l.length/\c0=l.flatMap cN/\q=(i:Int)/\n2=g.length)/\SPH h id l i g/\∀h2:Heap,h2.get id=h.get id/\h.next<=h2.next->K (.int .i64 (cC (l.take i) (aG (l.take i)) (l.getD i default))) h2
 |_=>False
def pI(l:List Nd)(e0:Nat):=TV.v (.vslice none e0 l.length 3 (List.flatMap cN l))
def cU:=IV.int .i64
def pJ(id:Nat)(g:List Int):=TV.v (.hslice id 0 g.length 1)
def pK(i:Nat):=TV.v (.int .i64 (i:Int))
def mZ:=iI 2
def pL:=iI 0
def pM:=TV.l 7 0
def a5L:=iI 1
def b8I(g:List Nd)(q:Int):=Nd.ks (List.getD g q.toNat default)
def d9Y(h:Heap)(g:Int):=TV.v (.vslice (some (h.next)) 1 1 1 [iI g])
def a9J:=TV.v IV.nilslice
theorem g8I(l:List Nd)(i:Nat)(e0 id:Nat)(m:List Int)(h:Heap)(Q:KT):dF (aV c3I) env 154 dV (tK 5 (g2W l i e0 id m h)) bT [.vslice none e0 (l).length 3 ((l).flatMap cN),.int .i64 i,.hslice id 0 m.length 1] h Q=(
 aC (decide (0<=(i:Int)) &&decide ((i:Int)< (l.length:Int))) (aK .i64 (List.flatMap cN l) ((i:Int).toNat*3) fun Y=>aK .i64 (List.flatMap cN l) ((i:Int).toNat*3+1) fun X=>bH 1 (List.flatMap cN l) ((i:Int).toNat*3+1+1) fun(G:Option Nat)(A u:Nat)(D:List IV)=>((∃(x:Nat×Nd),some (pI l e0)=some (pI l e0)/\some (pK i)=some (pK i)/\some (pJ id m)=some (pJ id m)/\some pM=some pM/\some (TV.v (.vslice G A u 1 D))=some (TV.v (.vslice none 0 ((Nd.ks x.2).length) 1 (List.map cU (Nd.ks x.2))))/\tI (u:Int)=tI (↑((Nd.ks x.2).length):Int)/\some (TV.v pL)=tI (x.1:Int)/\some a9J=some a9J/\some [iI Y,iI X,IV.vslice G A u 1 D]=some [iI (Nd.op x.2),iI (Nd.im x.2),IV.vslice none 0 ((Nd.ks (x.2)).length) 1 (List.map cU (Nd.ks x.2))]/\h=h/\(l[i]?=some x.2/\x.1=0)/\True) \/ ∃(x:Nat×Nd×List Int×Nat×Heap),some (pI l e0)=some (pI l e0)/\some (pK i)=some (pK i)/\some (pJ id m)=some (pJ id m)/\some pM=some pM/\some (TV.v (.vslice G A u 1 D))=some (TV.v (.vslice none 0 ((Nd.ks x.2.1).length) 1 (List.map cU (Nd.ks x.2.1))))/\tI (u:Int)=tI (↑((Nd.ks x.2.1).length):Int)/\some (TV.v pL)=tI (x.1:Int)/\some a9J=some (TV.v (.vslice (some x.2.2.2.1) x.2.2.1.length x.2.2.1.length 1 (List.map cU x.2.2.1)))/\some [iI Y,iI X,IV.vslice G A u 1 D]=some [iI (Nd.op x.2.1),iI (Nd.im x.2.1),IV.vslice none 0 ((Nd.ks x.2.1).length) 1 (List.map cU (Nd.ks x.2.1))]/\h=x.2.2.2.2/\(l[i]?=some x.2.1/\SIG l i x.1 x.2.2.1/\(0<x.1/\Heap.get (((x.2.2).2).2) x.2.2.2.1=IObj.tip x.2.2.1.length/\x.2.2.2.1≠id)/\Heap.get x.2.2.2.2 id=h.get id/\Heap.next h<=Heap.next (((x.2.2).2).2))/\True)/\(∀(x:Nat×Nd)(b:FF),l[i]?=some x.2/\x.1=0->aM (decide ((x.1:Int)< (↑((Nd.ks x.2).length):Int))) (aC (decide (0<=(x.1:Int)) &&decide ((x.1:Int)< (↑((Nd.ks (x.2)).length):Int))) (aK .i64 (List.map cU (Nd.ks x.2)) ((x.1:Int).toNat*1) fun r=>aM (decide (r<0)) (Q pL h) (aM (decide (r>=(i:Int))) (Q pL h) (aC (decide (0<=r) &&decide (r< (m.length:Int))) (aF h id fun r7=>aK .i64 r7 ((0:Nat)+r.toNat*1) fun Z=>aM (Z==0) (Q pL h) (aC (decide (0<=r) &&decide (r< (m.length:Int))) (aF h id fun r9=>aK .i64 r9 ((0:Nat)+r.toNat*(1:Nat)) fun y=>(∃(g:Nat×Nd),some (pI l e0)=some (pI l e0)/\some (pK i)=some (pK i)/\some (pJ id m)=some (pJ id m)/\some pM=some pM/\some (TV.v (.vslice none 0 ((Nd.ks x.2).length) 1 (List.map cU (Nd.ks (x.2)))))=some (TV.v (.vslice none 0 ((Nd.ks g.2).length) 1 (List.map cU (Nd.ks g.2))))/\tI (↑((Nd.ks x.2).length):Int)=tI (↑((Nd.ks g.2).length):Int)/\tI (wW ((x.1:Int)+1))=tI (g.1:Int)/\some (d9Y h y)=some a9J/\some [iI (Nd.op x.2),iI (Nd.im x.2),IV.vslice none 0 ((Nd.ks x.2).length) 1 (List.map cU (Nd.ks x.2))]=some [iI (Nd.op g.2),iI (Nd.im g.2),IV.vslice none 0 ((Nd.ks g.2).length) 1 (List.map cU (Nd.ks g.2))]/\Heap.push h (IObj.tip 1)=h/\(l[i]?=some g.2/\g.1=0)/\List.length (Nd.ks g.2)-g.1< (Nd.ks x.2).length-x.1) \/ ∃(g:Nat×Nd×List Int×Nat×Heap),some (pI l e0)=some (pI l e0)/\some (pK i)=some (pK i)/\some (pJ id m)=some (pJ id m)/\some pM=some pM/\some (TV.v (.vslice none 0 ((Nd.ks x.2).length) 1 (List.map cU (Nd.ks x.2))))=some (TV.v (.vslice none 0 ((Nd.ks g.2.1).length) 1 (List.map cU (Nd.ks (g.2.1)))))/\tI (↑((Nd.ks x.2).length):Int)=tI (↑((Nd.ks g.2.1).length):Int)/\tI (wW ((x.1:Int)+1))=some (TV.v (iI (g.1:Int)))/\some (d9Y h y)=some (TV.v (.vslice (some g.2.2.2.1) g.2.2.1.length g.2.2.1.length 1 (List.map cU (((g.2).2).1))))/\some [iI (Nd.op x.2),iI (Nd.im x.2),IV.vslice none 0 ((Nd.ks x.2).length) 1 (List.map cU (Nd.ks x.2))]=some [iI (Nd.op g.2.1),iI (Nd.im (g.2.1)),IV.vslice none 0 ((Nd.ks g.2.1).length) 1 (List.map cU (Nd.ks g.2.1))]/\Heap.push h (IObj.tip 1)=g.2.2.2.2/\(l[i]?=some g.2.1/\SIG l i g.1 g.2.2.1/\(0<g.1/\Heap.get g.2.2.2.2 g.2.2.2.1=IObj.tip g.2.2.1.length/\g.2.2.2.1≠id)/\Heap.get (g.2.2.2.2) id=h.get id/\Heap.next h<=Heap.next g.2.2.2.2)/\List.length (Nd.ks g.2.1)-g.1< (Nd.ks x.2).length-x.1))))))) (∃(ks s:List Int),((Nd.ks x.2).length=ks.length/\List.map cU (Nd.ks x.2)=List.map cU ks)/\((0:Nat)=s.length/\[]=List.map cU s)/\(True/\True/\s.length<=1000000)/\aM (!qV (Nd.op x.2) s) (Q pL h) (∃(j:List Nd),∃(ks:List Int),(l.length=j.length/\List.flatMap cN l=List.flatMap cN j)/\((Nd.ks x.2).length=ks.length/\List.map cU (Nd.ks x.2)=List.map cU ks)/\(Nd.op x.2=25-> ∃(q:Int),ks=[q]/\(0<=q/\q< (j.length:Int))/\3<=List.length (b8I j q)/\List.length (b8I j q)<=33)/\aM (!wZ (eK j (Nd.mk (Nd.op x.2) (Nd.im x.2) ks)) (Nd.op x.2) (Nd.im x.2)) (Q pL h) (aM (Nd.op x.2==31) (Q (.int .i64 3) h) (aM (Nd.op x.2==26) (Q mZ h) (aM (Nd.op x.2==27) (Q mZ h) (aM (Nd.op x.2==28) (Q mZ h) (aM (Nd.op x.2==29) (Q mZ h) (aM (Nd.op x.2==30) (Q mZ h) (aM (Nd.op x.2==22) False (aM (Nd.op x.2==3) (aM (Int.tmod (Nd.im x.2) 16==0) (Q mZ h) (Q a5L h)) (aM (Nd.op x.2==25) (aM (Nd.im x.2==0) (Q mZ h) (Q a5L h)) (Q a5L h)))))))))))))/\∀(x:Nat×Nd×List Int×Nat×Heap)(b:FF),l[i]?=some x.2.1/\SIG l i x.1 x.2.2.1/\(0<x.1/\Heap.get x.2.2.2.2 x.2.2.2.1=IObj.tip x.2.2.1.length/\x.2.2.2.1≠id)/\Heap.get x.2.2.2.2 id=h.get id/\Heap.next h<=Heap.next x.2.2.2.2->aM (decide ((x.1:Int)< (↑((Nd.ks x.2.1).length):Int))) (aC (decide (0<=(x.1:Int)) &&decide ((x.1:Int)< (↑((Nd.ks x.2.1).length):Int))) (aK .i64 (List.map cU (Nd.ks x.2.1)) ((x.1:Int).toNat*1) fun p=>aM (decide (p<0)) (Q pL x.2.2.2.2) (aM (decide (p>=(i:Int))) (Q pL x.2.2.2.2) (aC (decide (0<=p) &&decide (p< (m.length:Int))) (aF x.2.2.2.2 id fun O=>aK .i64 O ((0:Nat)+p.toNat*(1:Nat)) fun K=>aM (K==0) (Q pL x.2.2.2.2) (aC (decide (0<=p) &&decide (p< (m.length:Int))) (aF x.2.2.2.2 id fun L=>aK .i64 L ((0:Nat)+p.toNat*1) fun z=>dG x.2.2.2.2 x.2.2.2.1 fun(V:Nat)=>aC (Nat.beq V x.2.2.1.length&&Nat.ble ((x.2.2.1.length+1)*8) 140737488355328) ((∃(g:Nat×Nd),some (pI l e0)=some (pI l e0)/\some (pK i)=some (pK i)/\some (pJ id m)=some (pJ id m)/\some pM=some pM/\some (TV.v (.vslice none 0 ((Nd.ks x.2.1).length) 1 (List.map cU (Nd.ks x.2.1))))=some (TV.v (.vslice none 0 ((Nd.ks g.2).length) 1 (List.map cU (Nd.ks g.2))))/\tI (↑((Nd.ks x.2.1).length):Int)=tI (↑((Nd.ks g.2).length):Int)/\tI (wW ((x.1:Int)+1))=tI (g.1:Int)/\some (TV.v (.vslice (some x.2.2.2.1) ((((x.2).2).1).length+1) (x.2.2.1.length+1) 1 (List.map cU x.2.2.1++ [iI z])))=some a9J/\some [iI (Nd.op x.2.1),iI (Nd.im x.2.1),IV.vslice none 0 ((Nd.ks x.2.1).length) 1 (List.map cU (Nd.ks x.2.1))]=some [iI (Nd.op g.2),iI (Nd.im g.2),IV.vslice none 0 ((Nd.ks g.2).length) 1 (List.map cU (Nd.ks g.2))]/\Heap.set x.2.2.2.2 x.2.2.2.1 (IObj.tip (x.2.2.1.length+1))=h/\(l[i]?=some g.2/\g.1=0)/\List.length (Nd.ks g.2)-g.1< (Nd.ks x.2.1).length-x.1) \/ ∃(g:Nat×Nd×List Int×Nat×Heap),some (pI l e0)=some (pI l e0)/\some (pK i)=some (pK i)/\some (pJ id m)=some (pJ id m)/\some pM=some pM/\some (TV.v (.vslice none 0 ((Nd.ks x.2.1).length) 1 (List.map cU (Nd.ks x.2.1))))=some (TV.v (.vslice none 0 ((Nd.ks g.2.1).length) 1 (List.map cU (Nd.ks g.2.1))))/\tI (↑((Nd.ks (x.2.1)).length):Int)=tI (↑((Nd.ks g.2.1).length):Int)/\tI (wW ((x.1:Int)+1))=tI (g.1:Int)/\some (TV.v (.vslice (some x.2.2.2.1) (x.2.2.1.length+1) (x.2.2.1.length+1) 1 (List.map cU x.2.2.1++ [iI z])))=some (TV.v (.vslice (some (g.2.2.2.1)) g.2.2.1.length g.2.2.1.length 1 (List.map cU g.2.2.1)))/\some [iI (Nd.op x.2.1),iI (Nd.im (x.2.1)),IV.vslice none 0 ((Nd.ks x.2.1).length) 1 (List.map cU (Nd.ks x.2.1))]=some [iI (Nd.op g.2.1),iI (Nd.im g.2.1),IV.vslice none 0 ((Nd.ks g.2.1).length) 1 (List.map cU (Nd.ks g.2.1))]/\Heap.set x.2.2.2.2 x.2.2.2.1 (IObj.tip (x.2.2.1.length+1))=((g.2.2).2).2/\(l[i]?=some g.2.1/\SIG l i g.1 g.2.2.1/\(0<g.1/\Heap.get g.2.2.2.2 g.2.2.2.1=IObj.tip ((((g.2).2).1).length)/\g.2.2.2.1≠id)/\Heap.get g.2.2.2.2 id=h.get id/\Heap.next h<=Heap.next g.2.2.2.2)/\List.length (Nd.ks g.2.1)-g.1< (Nd.ks (x.2.1)).length-x.1)))))))) (∃(ks s:List Int),((Nd.ks x.2.1).length=ks.length/\List.map cU (Nd.ks x.2.1)=List.map cU ks)/\(x.2.2.1.length=s.length/\List.map cU ((x.2.2).1)=List.map cU s)/\(True/\True/\s.length<=1000000)/\aM (!qV (Nd.op x.2.1) s) (Q pL x.2.2.2.2) (∃(j:List Nd),∃(ks:List Int),(l.length=j.length/\List.flatMap cN l=List.flatMap cN j)/\((Nd.ks x.2.1).length=ks.length/\List.map cU (Nd.ks x.2.1)=List.map cU ks)/\(Nd.op x.2.1=25-> ∃(q:Int),ks=[q]/\(0<=q/\q< (j.length:Int))/\3<=List.length (b8I j q)/\List.length (b8I j q)<=33)/\aM (!wZ (eK j (Nd.mk (Nd.op x.2.1) (Nd.im x.2.1) ks)) (Nd.op x.2.1) (Nd.im x.2.1)) (Q pL x.2.2.2.2) (aM (Nd.op x.2.1==31) (Q (iI 3) x.2.2.2.2) (aM (Nd.op x.2.1==26) (Q mZ x.2.2.2.2) (aM (Nd.op x.2.1==27) (Q mZ x.2.2.2.2) (aM (Nd.op x.2.1==28) (Q mZ x.2.2.2.2) (aM (Nd.op x.2.1==29) (Q mZ x.2.2.2.2) (aM (Nd.op x.2.1==30) (Q mZ ((((x.2).2).2).2)) (aM (Nd.op x.2.1==22) (aC (true&&decide (1< (x.2.2.1.length:Int))) (aK .i64 (List.map cU x.2.2.1) 1 fun T=>Q (.int .i64 T) (((x.2.2).2).2))) (aM (Nd.op x.2.1==3) (aM (Int.tmod (Nd.im x.2.1) 16==0) (Q mZ x.2.2.2.2) (Q a5L x.2.2.2.2)) (aM (Nd.op x.2.1==25) (aM (Nd.im x.2.1==0) (Q mZ x.2.2.2.2) (Q a5L x.2.2.2.2)) (Q a5L x.2.2.2.2)))))))))))))):=by kernel_rfl
theorem g8J: ∀xs h Q,f6L xs h Q->aU env 154 xs h Q:=by
 intro xs h Q Z;unfold f6L at Z;split at Z
 ·rename_i e0 n0 c0 q id n2;obtain⟨l,i,k0,⟨rfl,rfl,rfl,rfl⟩,hb,Z⟩:=Z;refine aS (c8Q) (g8I l i e0 id k0 h Q) ?_;delta pI cU pJ pK mZ pL pM a5L b8I d9Y a9J tI wW iI;have tn: ∀x:Nat,(x:Int).toNat=x:=h0Z
  obtain⟨⟨G,T,b3⟩,hg,a4,b4,a8⟩:=hb;have a6:=(T _ (h1B G)).2;have b5:=(T _ (h1B G)).1;have eD:l.getD i default=l[i]:=by rw [h1A,h0U G];rfl
  rw [eD]at Z;have fin: ∀(v:Int)(h2:Heap),v=cC (l.take i) (aG (l.take i)) l[i]->h2.get id=h.get id/\h.next<=h2.next->Q (.int .i64 v) h2:=by
   rintro _ h2 rfl e;exact Z h2 e
  have b1:(aG (l.take i)).length=i:=by rw [bD,h1Y];omega
  have a3: ∀q,(hq:q<i)-> ∃h2:q<k0.length,∃h3:q< (aG (l.take i)).length,k0[q]=(aG (l.take i))[q]:=fun q hq=>by
   refine⟨by omega,by omega,?_⟩;have e:(k0.take i)[q]?=(aG (l.take i))[q]?:=by rw [a8]
   rw [h3L hq,h0U (by omega),h0U (by omega),h0V]at e;exact e
  have V:=fun(k:List Int)(h:SIG l i l[i].ks.length k)=>Go.M10.SIG.finH h G (h1D _)
  refine aA (by simp;omega) (a6X G (by rw [tn]) ⟨.inl ⟨(0,l[i]),rfl,rfl,rfl,rfl,rfl,rfl,rfl,rfl,rfl,rfl,⟨h0U G,rfl⟩,trivial⟩,?_,?_⟩)
  ·rintro⟨j,n⟩ _ ⟨K,hj⟩;dsimp only at K hj⊢;obtain rfl:l[i]=n:=by rw [h0U G]at K;exact h1M K
   subst hj;refine aD (fun c=>?_) (fun c=>?_)
   ·rw [decide_eq_true_eq]at c;have z:0<l[i].ks.length:=by omega
    have hm:l[i].ks[0] ∈l[i].ks:=h1B z;refine aA (by simp;omega) (jM z rfl (aD (fun u=>?_) (fun u=>aD (fun X=>?_) (fun X=>?_))))
    ·rw [decide_eq_true_eq]at u;exact fin _ _ (kF hm (a8K u)).symm ⟨rfl,h1D _⟩
    ·rw [decide_eq_true_eq]at X;exact fin _ _ (kF hm (a8L (by omega))).symm ⟨rfl,h1D _⟩
    rw [decide_eq_false_iff_not]at u X;obtain⟨q1,q2,q3⟩:=a3 (l[i].ks[0]).toNat (by omega);refine aA (by simp;omega) (aB hg (jM q1 (by omega) (aD (fun c4=>?_) (fun c4=>?_))))
    ·rw [beq_iff_eq,q3]at c4;exact fin _ _ (kF hm (a3F q2 c4)).symm ⟨rfl,h1D _⟩
    rw [beq_eq_false_iff_ne,q3]at c4;obtain⟨k1,k2⟩:=a0R (by omega) q2 c4;have hs:=(SIG.zero G).step G z k1;rw [k2]at hs;refine aA (by simp;omega) (aB hg (jM q1 (by omega) (.inr ⟨(1,l[i],[(aG (l.take i))[(l[i].ks[0]).toNat]],h.next,h.push (.tip 1)),rfl,rfl,rfl,rfl,rfl,rfl,rfl,(by rw [q3];rfl),rfl,rfl,⟨K,hs,⟨Nat.one_pos,aR,h3H a4⟩,aJ a4,h4E _⟩,by dsimp only;omega⟩)))
   ·rw [decide_eq_false_iff_not]at c;have hz:l[i].ks.length=0:=by omega
    obtain⟨O,t2⟩:=V [] (by rw [hz];exact SIG.zero G);refine⟨l[i].ks,[],⟨rfl,rfl⟩,⟨rfl,rfl⟩,⟨a6,trivial,by simp⟩,?_⟩;refine aD (fun r=>fin _ _ ?_ ⟨rfl,h1D _⟩) (fun r=>⟨l,l[i].ks,⟨rfl,rfl⟩,⟨rfl,rfl⟩,t2.2 (by simpa using r),aD (fun u=>fin _ _ ?_ ⟨rfl,h1D _⟩) (fun u=>?_)⟩)
    ·rw [h2K]at r;rw [O,if_neg (fun e=>by rw [r]at e;exact h6F e.1)]
    ·rw [h2K]at u;rw [O,if_neg (fun e=>by rw [u]at e;exact h6F e.2)]
    rw [h3A]at r u;rw [if_pos ⟨r,u⟩]at O;have m: ∀{a o:Int},(a==o)=false-> ¬a=o:=fun c=>by simpa using c
    have D: ∀v:Int,c1D l[i].op l[i].im []=v->Q (.int .i64 v) h:=fun v e=>fin v _ (by rw [O,e]) ⟨rfl,h1D _⟩
    by_cases o30:l[i].op=30
    ·simp only [o30];exact aD (fun d=>absurd d (by decide)) (fun _=>aD (fun d=>absurd d (by decide)) (fun _=>aD (fun d=>absurd d (by decide)) (fun _=>aD (fun d=>absurd d (by decide)) (fun _=>aD (fun d=>absurd d (by decide)) (fun _=>aD (fun _=>D 2 (if_pos o30)) (fun d=>absurd d (by decide)))))))
    have A: ∀v:Int,a1I l[i].op l[i].im []=v->Q (.int .i64 v) h:=fun v e=>D v ((c6L o30).trans e)
    have p:l[i].op≠31->l[i].op≠25-> ∀v:Int,svo l[i].op l[i].im []=v->Q (.int .i64 v) h:=fun h1 h2 v e=>A v (by unfold a1I;rw [if_neg h1,if_neg h2];exact e)
    refine aD (fun d=>A 3 (if_pos (beq_iff_eq.1 d))) (fun a0=>?_)
    by_cases o25:l[i].op=25
    ·simp only [o25];refine aD (fun d=>absurd d (by decide)) (fun _=>aD (fun d=>absurd d (by decide)) (fun _=>aD (fun d=>absurd d (by decide)) (fun _=>aD (fun d=>absurd d (by decide)) (fun _=>aD (fun d=>absurd d (by decide)) (fun _=>aD (fun d=>absurd d (by decide)) (fun _=>aD (fun d=>absurd d (by decide)) (fun _=>aD (fun _=>?_) (fun d=>absurd d (by decide)))))))));refine aD (fun e=>A 2 ?_) (fun e=>A 1 ?_)
     ·unfold a1I;rw [o25,if_neg (by decide),if_pos rfl,if_pos (beq_iff_eq.1 e)]
     ·unfold a1I;rw [o25,if_neg (by decide),if_pos rfl,if_neg (m e)]
    replace p:=p (m a0) o25;unfold svo at p;refine aD (fun d=>p _ (if_pos (.inl (beq_iff_eq.1 d)))) (fun d2=>aD (fun d=>p _ (if_pos (.inr (.inl (beq_iff_eq.1 d))))) (fun d3=>aD (fun d=>p _ (if_pos (.inr (.inr (.inl (beq_iff_eq.1 d)))))) (fun d4=>aD (fun d=>p _ (if_pos (.inr (.inr (.inr (beq_iff_eq.1 d)))))) (fun d5=>aD (fun d=>absurd (beq_iff_eq.1 d) o30) (fun d6=>?_)))));have nn: ¬ (l[i].op=26\/l[i].op=27\/l[i].op=28\/l[i].op=29):=by
     have:=m d2;have:=m d3;have:=m d4;have:=m d5;omega
    rw [if_neg nn]at p;refine aD (fun d=>?_) (fun d7=>aD (fun d=>?_) (fun d8=>aD (fun d=>absurd (beq_iff_eq.1 d) o25) (fun _=>p _ (by rw [if_neg (m d7),if_neg (m d8)]))))
    ·rw [beq_iff_eq]at d;have h3:vC 22 []=false:=by decide
     unfold qV a3P at r;rw [d,if_neg (by decide),if_neg (by decide),if_neg (by decide),h3]at r
     cases r
    ·rw [if_neg (m d7),if_pos (beq_iff_eq.1 d)]at p;refine aD (fun e=>p _ (if_pos (beq_iff_eq.1 e))) (fun e=>p _ (if_neg (m e)))
  ·rintro⟨j,n,k,a5,g⟩ _ ⟨K,L,⟨a9,a7,Y⟩,y⟩;dsimp only at K L a9 a7 Y y⊢;obtain rfl:l[i]=n:=by rw [h0U G]at K;exact h1M K
   have b2:k.length=j/\j<=l[i].ks.length:=by
    obtain⟨n,h1,h2,_⟩:=L;rw [K]at h1
    cases h1
    exact⟨h2.2,h2.1⟩
   have a2:g.get id= .cells (k0.map (IV.int .i64)):=y.1.trans hg;refine aD (fun c=>?_) (fun c=>?_)
   ·rw [decide_eq_true_eq]at c;have z:j<l[i].ks.length:=by omega
    have hm:l[i].ks[j] ∈l[i].ks:=h1B z;refine aA (by simp;omega) (jM z (by rw [h1W,tn]) (aD (fun u=>?_) (fun u=>aD (fun X=>?_) (fun X=>?_))))
    ·rw [decide_eq_true_eq]at u;exact fin _ _ (kF hm (a8K u)).symm y
    ·rw [decide_eq_true_eq]at X;exact fin _ _ (kF hm (a8L (by omega))).symm y
    rw [decide_eq_false_iff_not]at u X;obtain⟨q1,q2,q3⟩:=a3 (l[i].ks[j]).toNat (by omega);refine aA (by simp;omega) (aB a2 (jM q1 (by omega) (aD (fun c4=>?_) (fun c4=>?_))))
    ·rw [beq_iff_eq,q3]at c4;exact fin _ _ (kF hm (a3F q2 c4)).symm y
    rw [beq_eq_false_iff_ne,q3]at c4;obtain⟨k1,k2⟩:=a0R (by omega) q2 c4;have hs:=L.step G z k1;rw [k2]at hs;refine aA (by simp;omega) (aB a2 (jM q1 (by omega) (bE a7 (aA (by simp only [h0Y,bY,h1S,true_and];omega) (.inr ⟨(j+1,l[i],k++ [(aG (l.take i))[(l[i].ks[j]).toNat]],a5,g.set a5 (.tip (k.length+1))),rfl,rfl,rfl,rfl,rfl,rfl,?_,?_,rfl,?_,⟨K,hs,⟨h5J _,by rw [aH];simp,Y⟩,by rw [aE Y.symm];exact y.1,y.2⟩,by dsimp only;omega⟩)))))
    ·rw [h0X _ (by omega)];rfl
    ·rw [q3];simp
    ·rfl
   ·rw [decide_eq_false_iff_not]at c;obtain rfl:j=l[i].ks.length:=by omega
    obtain⟨O,t2⟩:=V k L;refine⟨l[i].ks,k,⟨rfl,rfl⟩,⟨rfl,rfl⟩,⟨a6,trivial,by omega⟩,?_⟩;refine aD (fun r=>fin _ _ ?_ y) (fun r=>⟨l,l[i].ks,⟨rfl,rfl⟩,⟨rfl,rfl⟩,t2.2 (by simpa using r),aD (fun u=>fin _ _ ?_ y) (fun u=>?_)⟩)
    ·rw [h2K]at r;rw [O,if_neg (fun e=>by rw [r]at e;exact h6F e.1)]
    ·rw [h2K]at u;rw [O,if_neg (fun e=>by rw [u]at e;exact h6F e.2)]
    rw [h3A]at r u;rw [if_pos ⟨r,u⟩]at O;have m: ∀{a o:Int},(a==o)=false-> ¬a=o:=fun c=>by simpa using c
    have D: ∀v:Int,c1D l[i].op l[i].im k=v->Q (.int .i64 v) g:=fun v e=>fin v _ (by rw [O,e]) y
    by_cases o30:l[i].op=30
    ·simp only [o30];exact aD (fun d=>absurd d (by decide)) (fun _=>aD (fun d=>absurd d (by decide)) (fun _=>aD (fun d=>absurd d (by decide)) (fun _=>aD (fun d=>absurd d (by decide)) (fun _=>aD (fun d=>absurd d (by decide)) (fun _=>aD (fun _=>D 2 (if_pos o30)) (fun d=>absurd d (by decide)))))))
    have A: ∀v:Int,a1I l[i].op l[i].im k=v->Q (.int .i64 v) g:=fun v e=>D v ((c6L o30).trans e)
    have p:l[i].op≠31->l[i].op≠25-> ∀v:Int,svo l[i].op l[i].im k=v->Q (.int .i64 v) g:=fun h1 h2 v e=>A v (by unfold a1I;rw [if_neg h1,if_neg h2];exact e)
    refine aD (fun d=>A 3 (if_pos (beq_iff_eq.1 d))) (fun a0=>?_)
    by_cases o25:l[i].op=25
    ·simp only [o25];refine aD (fun d=>absurd d (by decide)) (fun _=>aD (fun d=>absurd d (by decide)) (fun _=>aD (fun d=>absurd d (by decide)) (fun _=>aD (fun d=>absurd d (by decide)) (fun _=>aD (fun d=>absurd d (by decide)) (fun _=>aD (fun d=>absurd d (by decide)) (fun _=>aD (fun d=>absurd d (by decide)) (fun _=>aD (fun _=>?_) (fun d=>absurd d (by decide)))))))));refine aD (fun e=>A 2 ?_) (fun e=>A 1 ?_)
     ·unfold a1I;rw [o25,if_neg (by decide),if_pos rfl,if_pos (beq_iff_eq.1 e)]
     ·unfold a1I;rw [o25,if_neg (by decide),if_pos rfl,if_neg (m e)]
    replace p:=p (m a0) o25;unfold svo at p;refine aD (fun d=>p _ (if_pos (.inl (beq_iff_eq.1 d)))) (fun d2=>aD (fun d=>p _ (if_pos (.inr (.inl (beq_iff_eq.1 d))))) (fun d3=>aD (fun d=>p _ (if_pos (.inr (.inr (.inl (beq_iff_eq.1 d)))))) (fun d4=>aD (fun d=>p _ (if_pos (.inr (.inr (.inr (beq_iff_eq.1 d)))))) (fun d5=>aD (fun d=>absurd (beq_iff_eq.1 d) o30) (fun d6=>?_)))));have nn: ¬ (l[i].op=26\/l[i].op=27\/l[i].op=28\/l[i].op=29):=by
     have:=m d2;have:=m d3;have:=m d4;have:=m d5;omega
    rw [if_neg nn]at p;refine aD (fun d=>?_) (fun d7=>aD (fun d=>?_) (fun d8=>aD (fun d=>absurd (beq_iff_eq.1 d) o25) (fun _=>p _ (by rw [if_neg (m d7),if_neg (m d8)]))))
    ·rw [beq_iff_eq]at d;rw [if_pos d]at p;have a1:(k.length:Int)=ar l[i].op:=by
      unfold qV a3P at r;rw [d,if_neg (by decide),if_neg (by decide),if_neg (by decide)]at r;unfold vC at r;rw [<-d]at r;simp only [h0Y,decide_eq_true_eq]at r;exact r.2.1
     have b0:ar 22=3:=by decide
     rw [d,b0]at a1;have z:1<k.length:=by omega
     refine aA (by simp;omega) (jM z (by omega) (p _ ?_));rw [h1A,h0U z];rfl
    ·rw [if_neg (m d7),if_pos (beq_iff_eq.1 d)]at p;refine aD (fun e=>p _ (if_pos (beq_iff_eq.1 e))) (fun e=>p _ (if_neg (m e)))
 ·exact Z.elim
def f6M:=bB 154 f6L c3I
theorem f0L:aT env f6M:=aI g8J (c8Q)
def g2X(l:List Nd)(g:Nat):Inv':=hJ (Nat×Nat×Heap×List Int) (fun x=>[(0,.v (.vslice none g (l).length 3 ((l).flatMap cN))),(3,.v (.hslice x.2.1 0 l.length 1)),(9,.v (.int .i64 l.length)),(10,.v (.int .i64 x.1))]) (fun _=>[]) (fun x=>x.2.2.1)
 (fun x=>x.1<=l.length/\x.2.2.1.get x.2.1= .cells (x.2.2.2.map (IV.int .i64))/\x.2.2.2.length=l.length/\x.2.1<x.2.2.1.next/\x.2.2.2.take x.1=aG (l.take x.1)) (fun x=>l.length-x.1)
def b2S(xs:List IV)(h:Heap)(K:KT):Prop:=match xs with
 | [.vslice none e1 n1 3 c1]=> ∃l:List Nd,(n1=l.length/\c1=l.flatMap cN)/\((∀x∈l,x.ks.length<=1000000/\True)/\l.length<=1000000)/\∀(h2:Heap)(id:Nat),h2.get id= .cells ((aG l).map (IV.int .i64))->K (.hslice id 0 l.length 1) h2
 |_=>False
def tX(x:Nat×Nat×Heap×List Int):=x.2.2
def tY(l:List Nd):=l.length
def d9Z(l:List Nd)(g:Nat):=TV.v (.vslice none g (tY l) 3 (List.flatMap cN l))
def e0A(l:List Nd):=TV.v (.int .i64 ((tY l):Int))
def a5M(x:Nat×Nat×Heap×List Int):=x.2.1
theorem e7O(l:List Nd)(m:Nat)(h:Heap)(Q:KT):dF (aV f6M) env 83 dV (tK 4 (g2X l m)) bT [.vslice none m (l).length 3 ((l).flatMap cN)] h Q=(
 aC (decide (0<=((tY l):Int)) && (decide (((tY l):Int)<=((tY l):Int)) && (decide (((tY l):Int)<=9223372036854775807) &&decide ((8:Int)*((tY l):Int)<=140737488355328)))) ((∃(x:Nat×Nat×Heap×List Int),some (d9Z l m)=some (d9Z l m)/\some (TV.v (.hslice (h.next) 0 (((tY l):Int).toNat) 1))=some (TV.v (.hslice (a5M x) 0 (tY l) 1))/\some (e0A l)=some (e0A l)/\tI 0=tI (x.1:Int)/\Heap.push h (IObj.cells (fF (((tY l):Int).toNat) [iI 0]))=(tX x).1/\(x.1<=l.length/\Heap.get ((tX x).1) (a5M x)=IObj.cells (List.map (IV.int .i64) ((tX x).2))/\List.length ((tX x).2)=l.length/\Prod.fst (x.2)< ((tX x).1).next/\List.take x.1 ((tX x).2)=aG (List.take x.1 l))/\True)/\∀(x:Nat×Nat×Heap×List Int)(b:FF),x.1<=l.length/\Heap.get ((tX x).1) (a5M x)=IObj.cells (List.map (IV.int .i64) ((tX x).2))/\List.length ((tX x).2)=l.length/\x.2.1< ((tX x).1).next/\List.take x.1 ((tX x).2)=aG (List.take x.1 l)->aM (decide ((x.1:Int)< ((tY l):Int))) (∃(j:List Nd),∃(i:Nat),∃(p:List Int),(l.length=j.length/\List.flatMap cN l=List.flatMap cN j/\(x.1:Int)=(i:Int)/\l.length=p.length)/\SPH ((tX x).1) (a5M x) j i p/\∀(h2:Heap),h2.get (a5M x)=((tX x).1).get (a5M x)/\Heap.next ((tX x).1)<=Heap.next h2->aC (decide (0<=(x.1:Int)) &&decide ((x.1:Int)< ((tY l):Int))) (aF h2 (a5M x) fun r0=>aC (Nat.ble ((0:Nat)+(x.1:Int).toNat*1+1) r0.length) (∃(g:Nat×Nat×Heap×List Int),some (d9Z l m)=some (d9Z l m)/\some (TV.v (.hslice (a5M x) 0 (tY l) 1))=some (TV.v (.hslice g.2.1 0 (tY l) 1))/\some (e0A l)=some (e0A l)/\tI (wW ((x.1:Int)+1))=tI (g.1:Int)/\Heap.set h2 (a5M x) (IObj.cells (List.take ((0:Nat)+(x.1:Int).toNat*1) r0++ [iI (cC (List.take i j) (aG (List.take i j)) (List.getD j i default))]++List.drop ((0:Nat)+(x.1:Int).toNat*1+1) r0))=g.2.2.1/\(g.1<=l.length/\Heap.get g.2.2.1 g.2.1=IObj.cells (List.map (IV.int .i64) g.2.2.2)/\List.length (g.2.2.2)=l.length/\g.2.1<g.2.2.1.next/\List.take g.1 g.2.2.2=aG (List.take g.1 l))/\l.length-g.1<l.length-x.1))) (Q (.hslice (a5M x) 0 (tY l) 1) ((tX x).1)))):=by kernel_rfl
theorem e7P: ∀xs h Q,b2S xs h Q->aU env 83 xs h Q:=by
 intro xs h Q y;unfold b2S at y;split at y
 ·rename_i T Z c1;obtain⟨l,⟨rfl,rfl⟩,O,y⟩:=y;refine aS (f0L) (e7O l T h Q) ?_;delta tX d9Z e0A a5M tY tI wW iI;have D: ∀x:Nat,(x:Int).toNat=x:=h0Z
  obtain⟨z,G⟩:=O;refine aA (by simp;omega) ⟨⟨(0,h.next,h.push (.cells (fF (l.length:Int).toNat [.int .i64 0])),List.replicate l.length 0),rfl,(by rw [D]),rfl,rfl,rfl,⟨h1N _,(by rw [aR,D,a8I]),by simp,h1G _,rfl⟩,trivial⟩,?_⟩;rintro⟨i,id,g,m⟩ _ ⟨K,A,u,r,j⟩;dsimp only at K A u r j⊢;refine aD (fun c=>?_) (fun c=>?_)
  ·rw [decide_eq_true_eq]at c;have p:i<l.length:=by omega
   refine⟨l,i,m,⟨rfl,rfl,rfl,u.symm⟩,⟨⟨p,z,G⟩,A,r,u,j⟩,fun h2 ⟨V,Y⟩=>aA (by simp;omega) (aB (V.trans A) (aA (by rw [h1S];simp;omega) ?_))⟩;have X:l.getD i default=l[i]:=by rw [h1A,h0U p];rfl
   rw [X];have L:(m.map (IV.int .i64)).take (0+(i:Int).toNat*1)++ [.int .i64 (cC (l.take i) (aG (l.take i)) l[i])]++(m.map (IV.int .i64)).drop (0+(i:Int).toNat*1+1)=(m.take i++ [cC (l.take i) (aG (l.take i)) l[i]]++m.drop (i+1)).map (IV.int .i64):=by
    rw [D,h1Q,h1W];simp
   have h1:(m.take i).length=i:=by rw [h1Y];omega
   refine⟨(i+1,id,h2.set id (.cells ((m.take i++ [cC (l.take i) (aG (l.take i)) l[i]]++m.drop (i+1)).map (IV.int .i64))),m.take i++ [cC (l.take i) (aG (l.take i)) l[i]]++m.drop (i+1)),rfl,rfl,rfl,?_,?_,⟨p,aH,?_,h1C r Y,?_⟩,by dsimp only;omega⟩
   ·rw [h0X _ (by omega)];rfl
   ·rw [L]
   ·simp;omega
   ·rw [b5L p,<-j];dsimp only;rw [h2Y (by simp;omega),h1H (by simp;omega)]
  ·rw [decide_eq_false_iff_not]at c;obtain rfl:i=l.length:=by omega
   rw [h1H (by omega),h5Q]at j;subst j;exact y g id A
 ·exact y.elim
def b2T:=bB 83 b2S f6M
theorem b8J:aT env b2T:=aI e7P (f0L)
def c3J(xs:List IV)(h:Heap)(K:KT):Prop:=match xs with
 | [.vslice none e1 n1 3 c1,.int .i64 i]=> ∃l:List Nd,(n1=l.length/\c1=l.flatMap cN)/\((∀x∈l,x.ks.length<=1000000/\True)/\l.length<=1000000/\0<=i/\i<l.length)/\K (.int .i64 ((aG l).getD i.toNat 0)) h
 |_=>False
theorem f6N(l:List Nd)(i:Int)(j:Nat)(h:Heap)(Q:KT):dF (aV b2T) env 41 dV bT bT [.vslice none j (l).length 3 ((l).flatMap cN),.int .i64 i] h Q=(
 aC (aN [IV.vslice none 0 l.length 3 (List.flatMap cN l),iI i]) (aM (decide (i<0)) (Q (.int .i64 0) h) (aM (decide (i>=(l.length:Int))) (Q (.int .i64 0) h) (aC (true&& (decide (0<=wW (i+1)) &&decide (wW (i+1)<=(l.length:Int)))) (∃(g:List Nd),((wW (i+1)).toNat-0=g.length/\List.take (((wW (i+1)).toNat-0)*3) (List.drop 0 (List.flatMap cN l))=List.flatMap cN g)/\((∀(x:Nd),x∈g->List.length (Nd.ks x)<=1000000/\True)/\g.length<=1000000)/\∀(h2:Heap)(id:Nat),h2.get id=IObj.cells (List.map (IV.int .i64) (aG g))->aC (decide (0<=i) &&decide (i< (g.length:Int))) (aF h2 id fun r0=>aK .i64 r0 ((0:Nat)+i.toNat*1) fun m=>Q (.int .i64 m) h)))))):=by kernel_rfl
theorem f6O: ∀xs h Q,c3J xs h Q->aU env 41 xs h Q:=by
 intro xs h Q g;unfold c3J at g;split at g
 ·rename_i K V O i;obtain⟨l,⟨rfl,rfl⟩,D,g⟩:=g;refine aS (b8J) (f6N l i K h Q) ?_;delta wW iI;have T: ∀x:Nat,(x:Int).toNat=x:=h0Z
  obtain⟨m,y,A,z⟩:=D;have u:IntKind.i64.wrap (i+1)=i+1:=h0X _ (by omega);rw [u];have G:i.toNat<l.length:=by omega
  have p:(i+1).toNat-0=i.toNat+1:=by omega
  refine aA (by simp only [aN,bL,gI,h1L]) (aD (fun c=>absurd (of_decide_eq_true c) (by omega)) (fun _=>aD (fun c=>absurd (of_decide_eq_true c) (by omega)) (fun _=>aA (by simp;omega) ⟨l.take (i.toNat+1),⟨by rw [p,h1Y];omega,by rw [p,h4J,c8D]⟩,⟨fun x L=>m x (h4X L),by rw [h1Y];omega⟩,fun h2 id r=>?_⟩)));have j:i.toNat< (aG (l.take (i.toNat+1))).length:=by rw [bD,h1Y];omega
  refine aA (by simp;omega) (aB r (jM j (by omega) (cO g ?_)))
  congr 1
  rw [sC (jZ (h5S (i.toNat+1) l)) j,h1A,h0U j];rfl
 ·exact g.elim
def c3K:=bB 41 c3J b2T
theorem c8R:aT env c3K:=aI f6O (b8J)
def alI(l:List Nd)(g k:Nat)(h:Heap):Inv':= .or
 (hJ Nat (fun x=>[(0,.v (.vslice (some g) (l.length*3+6) (l.length+2) 3 (l.flatMap cN++ [.int .i64 26,.int .i64 0,.vslice none 0 0 1 [],.int .i64 1,.int .i64 0,.vslice none 0 0 1 []]))),(1,.v (.int .i64 (k:Int))),(6,.v (.int .i64 (l.length:Int))),(7,.v (.vslice none 1 1 1 [.int .i64 (l.length:Int)])),(8,.v (.int .i64 1))]) (fun _=>[]) (fun _=>h.set g (.tip (l.length*3+6))) (fun x=>x=1/\True) (fun x=>k-x))
 (hJ (Nat×Heap×Nat×List Int) (fun x=>[(0,.v (.vslice (some g) (l.length*3+6) (l.length+2) 3 (l.flatMap cN++ [.int .i64 26,.int .i64 0,.vslice none 0 0 1 [],.int .i64 1,.int .i64 0,.vslice none 0 0 1 []]))),(1,.v (.int .i64 (k:Int))),(6,.v (.int .i64 (l.length:Int))),(7,.v (.vslice (some x.2.2.1) x.2.2.2.length x.2.2.2.length 1 (x.2.2.2.map (IV.int .i64)))),(8,.v (.int .i64 (x.1:Int)))]) (fun _=>[]) (fun x=>x.2.1)
 (fun x=>(1<=x.1/\x.1<=k/\x.2.2.2=(l.length:Int)::List.replicate (x.1-1) ((l.length:Int)+1))/\x.2.1.get g= .tip (l.length*3+6)/\x.2.1.get x.2.2.1= .tip x.2.2.2.length/\x.2.2.1≠g/\h.next<=x.2.2.1/\x.2.2.1<x.2.1.next/\∀j,j<h.next->j≠g->x.2.1.get j=h.get j) (fun x=>k-x.1))
def c8S(xs:List IV)(h:Heap)(K:KT):Prop:=match xs with
 | [.vslice (some io) e0 n0 3 c0,.int .i64 q]=> ∃(l:List Nd)(k:Nat),(n0=l.length/\e0=l.length*3/\c0=l.flatMap cN/\q=(k:Int))/\(1<=k/\k<=16/\l.length<=100000)/\h.get io= .tip (l.length*3)/\io<h.next/\∀(h2:Heap)(g:List IV),g=l.flatMap cN++Keep.loopC l.length k->h2.get io= .tip ((l.length+3)*3)/\h.next<=h2.next/\(∀j,j<h.next->j≠io->h2.get j=h.get j)->K (.tuple [.vslice (some io) ((l.length+3)*3) (l.length+3) 3 g,.int .i64 ((l.length+2:Nat):Int)]) h2
 |_=>False
def pN:=[iI 26,iI 0,IV.vslice none 0 0 1 [],iI 1,iI 0,IV.vslice none 0 0 1 []]
def eX(l:List Nd):=l.length*3+6
def gQ(l:List Nd)(g:Nat):=TV.v (.vslice (some g) (eX l) (l.length+2) 3 (List.flatMap cN l++pN))
def b8K(l:List Nd):=(l.length:Int)+1
def kZ(l:List Nd):=wW (b8K l)
def jS(l:List Nd):=TV.v (.int .i64 (l.length:Int))
def jT(l:List Nd):=TV.v (.vslice none 1 1 1 [iI (l.length:Int)])
def jU(k:Nat):=(k:Int).toNat-0
def lU(l:List Nd):=l.length*3+6+3
def jV(k:Nat):=TV.v (.int .i64 (k:Int))
def lV(l:List Nd)(g:Nat)(h:Heap):=(h.set g (IObj.tip (eX l))).push (IObj.tip 2)
def iG(l:List Nd):=l.length+2+1
def nW(l:List Nd):=[iI (l.length:Int),iI (kZ l)]
def yE(l:List Nd):=wW ((l.length:Int)+2)
def uL:=TV.v (.int .i64 1)
def nX:=IV.int .i64
def sZ(g:Nat×Heap×Nat×List Int):=g.2.2
def a9K(l:List Nd):=[iI (kZ l)]
def vR(h:Heap)(i k:Nat)(l:List Nd)(u:IV)(p:Int)(r:Heap)(m:Nat):Prop:= ∃(g:Nat×Heap×Nat×List Int),some (gQ l i)=some (gQ l i)/\some (jV k)=some (jV k)/\some (jS l)=some (jS l)/\some (TV.v (u))=some (TV.v (.vslice (some ((sZ g).1)) (((sZ g).2).length) (((sZ g).2).length) 1 (List.map nX
 ((sZ g).2))))/\tI (p)=tI (g.1:Int)/\r=g.2.1/\((1<=g.1/\g.1<=k/\Prod.snd (sZ g)=(l.length:Int)::List.replicate (g.1-1) (b8K l))/\Heap.get g.2.1 i=IObj.tip (eX l)/\Heap.get g.2.1 ((sZ g).1)=IObj.tip (((sZ g).2).length)
 /\Prod.fst (sZ g)≠i/\Heap.next h<=Prod.fst (sZ g)/\Prod.fst (sZ g)<g.2.1.next/\∀(j:Nat),j<h.next->j≠i->Heap.get g.2.1 j=h.get j)/\k-g.1<m
theorem g2Y(l:List Nd)(g k:Nat)(h:Heap)(Q:KT):dF (aV c3K) env 166 dV (tK 6 (alI l g k h)) bT [.vslice (some g) (l.length*3) l.length 3 (l.flatMap cN),.int .i64 (k:Int)] h Q=(
 dG h g fun(G:Nat)=>aC (Nat.beq G (l.length*3) &&Nat.ble ((l.length+2)*40) 140737488355328) (((∃(x:Nat),some (gQ l g)=some (gQ l g)/\some (jV k)=some (jV k)/\some (jS l)=some (jS l)/\some (jT l)=some (jT l)/\some uL=some uL/\Heap.set h g (IObj.tip (eX l))=h.set g (IObj.tip (eX l))/\(x=1/\True)/\True) \/ ∃(x:Nat×Heap×Nat×List Int),some (gQ l g)=some (gQ l g)/\some (jV k)=some (jV k)/\some (jS l)=some (jS l)/\some (jT l)=some (TV.v (.vslice (some x.2.2.1) x.2.2.2.length x.2.2.2.length 1 (List.map nX x.2.2.2)))/\some uL=tI (x.1:Int)/\Heap.set h g (IObj.tip (eX l))=x.2.1/\((1<=x.1/\x.1<=k/\x.2.2.2=(l.length:Int)::List.replicate (x.1-1) (b8K l))/\Heap.get x.2.1 g=IObj.tip (eX l)/\Heap.get x.2.1 x.2.2.1=IObj.tip x.2.2.2.length/\x.2.2.1≠g/\Heap.next h<=x.2.2.1/\x.2.2.1<x.2.1.next/\∀(j:Nat),j<h.next->j≠g->Heap.get x.2.1 j=h.get j)/\True)/\(∀(x:Nat)(b:FF),x=1/\True->aM (decide (1< (k:Int))) ((∃(i:Nat),some (gQ l g)=some (gQ l g)/\some (jV k)=some (jV k)/\some (jS l)=some (jS l)/\some (TV.v (.vslice (some (h.next)) 2 2 1 (nW l)))=some (jT l)/\tI 2=some uL/\Heap.push (h.set g (IObj.tip (eX l))) (IObj.tip 2)=h.set g (IObj.tip (eX l))/\(i=1/\True)/\k-i<k-x) \/vR h g k l (IV.vslice (some (h.next)) 2 2 1 (nW l)) 2 (lV l g h) (k-x)) (aC (true&& (decide (0<=(k:Int)) &&decide ((k:Int)<=2))) (aM (Nat.beq (jU k) 0) (dG (lV l g h) g fun(D:Nat)=>aC (Nat.beq D (eX l) &&Nat.ble ((iG l)*(40:Nat)) 140737488355328) (Q (.tuple [.vslice (some g) (lU l) (iG l) 3 (List.flatMap cN l++pN++ [iI 31,iI 0,IV.vslice none 0 2 1 (nW l)]),iI (yE l)]) ((lV l g h).set g (IObj.tip (lU l))))) (dG (lV l g h) (h.next) fun(m:Nat)=>aC (Nat.beq m 2 &&Nat.ble (((2:Nat)+(jU k))*8) 140737488355328) (dG ((lV l g h).set (h.next) (IObj.tip ((2:Nat)+(jU k)*1))) g fun(y:Nat)=>aC (Nat.beq y (eX l) &&Nat.ble ((iG l)*40) 140737488355328) (Q (.tuple [.vslice (some g) (lU l) (iG l) 3 (List.flatMap cN l++pN++ [iI 31,iI 0,IV.vslice none 0 ((2:Nat)+(jU k)) 1 (iI (l.length:Int)::iI (kZ l)::List.take ((jU k)*1) (nW l))]),iI (yE l)]) (((lV l g h).set (h.next) (IObj.tip ((2:Nat)+(jU k)*1))).set g (IObj.tip (lU l)))))))))/\∀(x:Nat×Heap×Nat×List Int)(b:FF),((1<=x.1/\x.1<=k/\x.2.2.2=(l.length:Int)::List.replicate (x.1-1) (b8K l))/\Heap.get x.2.1 g=IObj.tip (eX l)/\Heap.get x.2.1 (x.2.2.1)=IObj.tip x.2.2.2.length/\x.2.2.1≠g/\Heap.next h<=x.2.2.1/\x.2.2.1<x.2.1.next/\∀(j:Nat),j<h.next->j≠g->Heap.get (x.2.1) j=h.get j)->aM (decide ((x.1:Int)< (k:Int))) (dG x.2.1 x.2.2.1 fun(u:Nat)=>aC (Nat.beq u x.2.2.2.length&&Nat.ble ((x.2.2.2.length+(1:Nat))*8) 140737488355328) ((∃(i:Nat),some (gQ l g)=some (gQ l g)/\some (jV k)=some (jV k)/\some (jS l)=some (jS l)/\some (TV.v (.vslice (some x.2.2.1) (x.2.2.2.length+1) (x.2.2.2.length+1) 1 (List.map nX x.2.2.2++(a9K l))))=some (jT l)/\tI (wW ((x.1:Int)+1))=some uL/\Heap.set x.2.1 ((x.2.2).1) (IObj.tip (x.2.2.2.length+1))=h.set g (IObj.tip (eX l))/\(i=1/\True)/\k-i<k-x.1) \/vR h g k l (IV.vslice (some x.2.2.1) (x.2.2.2.length+(1:Nat)) (x.2.2.2.length+1) 1 (List.map nX x.2.2.2++(a9K l))) (wW ((x.1:Int)+1)) (x.2.1.set x.2.2.1 (IObj.tip ((x.2.2.2).length+1))) (k-x.1))) (dG x.2.1 x.2.2.1 fun(z:Nat)=>aC (Nat.beq z x.2.2.2.length&&Nat.ble ((x.2.2.2.length+1)*8) 140737488355328) (aC (true&& (decide (0<=(k:Int)) &&decide ((k:Int)<=(↑(x.2.2.2.length+1):Int)))) (aM (Nat.beq (jU k) 0) (dG (x.2.1.set x.2.2.1 (IObj.tip (((x.2.2).2).length+1))) g fun(A:Nat)=>aC (Nat.beq A (eX l) &&Nat.ble ((iG l)*40) 140737488355328) (Q (.tuple [.vslice (some g) (lU l) (iG l) 3 (List.flatMap cN l++pN++ [iI 31,iI 0,IV.vslice none 0 (x.2.2.2.length+1) 1 (List.map nX x.2.2.2++(a9K l))]),iI (yE l)]) ((x.2.1.set x.2.2.1 (IObj.tip (((x.2.2).2).length+1))).set g (IObj.tip (lU l))))) (dG (x.2.1.set x.2.2.1 (IObj.tip (x.2.2.2.length+1))) x.2.2.1 fun(p:Nat)=>aC (Nat.beq p (((x.2.2).2).length+1) &&Nat.ble ((x.2.2.2.length+1+(jU k))*8) 140737488355328) (dG ((x.2.1.set x.2.2.1 (IObj.tip (x.2.2.2.length+(1:Nat)))).set x.2.2.1 (IObj.tip (x.2.2.2.length+1+(jU k)*1))) g fun(r:Nat)=>aC (Nat.beq r (eX l) &&Nat.ble ((iG l)*40) 140737488355328) (Q (.tuple [.vslice (some g) (lU l) (iG l) 3 (List.flatMap cN l++pN++ [iI 31,iI 0,IV.vslice none 0 (x.2.2.2.length+1+(jU k)) 1 (List.map nX x.2.2.2++(a9K l)++List.take ((jU k)*(1:Nat)) (List.drop 0 (List.map nX x.2.2.2++(a9K l))))]),iI (yE l)]) (((x.2.1.set x.2.2.1 (IObj.tip (x.2.2.2.length+1))).set (x.2.2.1) (IObj.tip (x.2.2.2.length+1+(jU k)*1))).set g (IObj.tip (lU l))))))))))):=by kernel_rfl
theorem f0M: ∀xs h Q,c8S xs h Q->aU env 166 xs h Q:=by
 intro xs h Q K;unfold c8S at K;split at K
 ·rename_i y e0 n0 c0 q;obtain⟨l,k,⟨rfl,rfl,rfl,rfl⟩,hb,ht,D,K⟩:=K;refine aS (c8R) (g2Y l y k h Q) ?_;delta vR gQ pN eX kZ jS jT jU lU jV lV iG nW yE uL nX sZ a9K b8K tI wW iI;obtain⟨h1,h2,h3⟩:=hb;have w1:IntKind.i64.wrap ((l.length:Int)+1)=(l.length:Int)+1:=h0X _ (by omega);have w2:IntKind.i64.wrap ((l.length:Int)+2)=((l.length+2:Nat):Int):=by rw [h0X _ (by omega)];rfl
  rw [w1,w2];simp only [h0Z,h7X,h1W];refine bE ht (aA (by simp only [h0Y,bY,h1S,true_and];omega) ⟨.inl ⟨1,.intro,.intro,.intro,.intro,.intro,.intro,⟨rfl,True.intro⟩,True.intro⟩,?_,?_⟩)
  ·rintro x _ ⟨rfl,_⟩;have u:y≠h.next:=h4P D;refine dW (fun c=> .inr ⟨(2,_,h.next,[(l.length:Int),(l.length:Int)+1]),.intro,.intro,.intro,(by rfl),(by rfl),(by rfl),⟨⟨by show 1<=2;omega,by show 2<=k;omega,rfl⟩,?_,aR,u.symm,h1D _,h1G _,fun j Y p=>?_⟩,by show k-2<k-1;omega⟩) (fun c=>?_)
   ·exact(aJ (show y< (h.set y _).next from D)).trans aH
   ·exact(aJ (show j< (h.set y (.tip (l.length*3+6))).next from Y)).trans (aE p)
   ·have a0:k=1:=by omega
    subst a0;refine aA (by decide) (bf (by decide) (bE aR (aA (by decide) (bE ((aE u).trans ((aJ (show y< (h.set y _).next from D)).trans aH)) (aA (by simp only [h0Y,bY,h1S,true_and];omega) ?_)))));refine cast (congrArg (fun z=>Q z _) ?_) (K _ _ (h3M) ⟨by rw [aH];congr 1;omega,h4E _,fun j Y p=>?_⟩)
    ·rw [sE,show(l.length+3)*3=l.length*3+6+3 by omega];rfl
    ·exact(aE p).trans ((aE (h4P Y)).trans ((aJ (show j< (h.set y (.tip (l.length*3+6))).next from Y)).trans (aE p)))
  ·rintro⟨j,g,jk,ks⟩ _ ⟨⟨j1,j2,r⟩,G,L,i,X,T,A⟩;dsimp only at j1 j2 r G L i X T A⊢;have O:ks.length=j:=by
    rw [r,h1O,h3D];omega
   refine dW (fun c=>bE L (aA (by simp only [h0Y,bY,h1S,true_and];omega) (.inr ⟨(j+1,g.set jk (.tip (ks.length+1)),jk,ks++ [(l.length:Int)+1]),.intro,.intro,.intro,(by simp),(by(try dsimp only);rw [h0X _ (by omega)];rfl),rfl,⟨⟨h5J _,by(try dsimp only);omega,?_⟩,(aE i.symm).trans G,?_,i,X,T,fun q Z m=>(aE (by omega)).trans (A q Z m)⟩,by(try dsimp only);omega⟩))) (fun c=>?_)
   ·(try dsimp only)
    rw [r,h3E,<-List.replicate_succ',show j-1+1=j+1-1 by omega]
   ·(try dsimp only)
    rw [h1E];exact aH
   ·have V:j=k:=by omega
    subst V;refine bE L (aA (by simp only [h0Y,bY,h1S,true_and];omega) (aA (by simp only [h2G,h0Y,decide_eq_true_eq];omega) (bf (by rw [zB];omega) (bE aH (aA (by simp only [h0Y,bY,h1S,true_and];omega) (bE ((aE i.symm).trans ((aE i.symm).trans G)) (aA (by simp only [h0Y,bY,h1S,true_and];omega) ?_)))))));refine cast (congrArg (fun z=>Q z _) ?_) (K _ _ (h3M) ⟨by rw [aH];congr 1;omega,by show h.next<=g.next;omega,fun q Z m=>(aE m).trans ((aE (by omega)).trans ((aE (by omega)).trans (A q Z m)))⟩);rw [sE,show(l.length+3)*3=l.length*3+6+3 by omega,a8R h1 r,h4J,h2Y (by rw [h1P];omega),h1H (by rw [h1P];omega)];simp only [h3O,h1E,h2H,h4D,h1O,h1U,O]
 ·exact K.elim
def e0B:=bB 166 c8S c3K
theorem e0C:aT env e0B:=aI f0M (c8R)
def anI(k:Nat)(h:Heap):Inv':= .or
 (hJ Nat (fun x=>[(0,.v (.vslice (some h.next) 6 2 3 ([.int .i64 26,.int .i64 0,.vslice none 0 0 1 [],.int .i64 1,.int .i64 0,.vslice none 0 0 1 []]))),(1,.v (.int .i64 (k:Int))),(6,.v (.int .i64 0)),(7,.v (.vslice none 1 1 1 [.int .i64 0])),(8,.v (.int .i64 1))]) (fun _=>[]) (fun _=>h.push (.tip 6)) (fun x=>x=1/\True) (fun x=>k-x))
 (hJ (Nat×Heap×Nat×List Int) (fun x=>[(0,.v (.vslice (some h.next) 6 2 3 ([.int .i64 26,.int .i64 0,.vslice none 0 0 1 [],.int .i64 1,.int .i64 0,.vslice none 0 0 1 []]))),(1,.v (.int .i64 (k:Int))),(6,.v (.int .i64 0)),(7,.v (.vslice (some x.2.2.1) x.2.2.2.length x.2.2.2.length 1 (x.2.2.2.map (IV.int .i64)))),(8,.v (.int .i64 (x.1:Int)))]) (fun _=>[]) (fun x=>x.2.1)
 (fun x=>(1<=x.1/\x.1<=k/\x.2.2.2=(0:Int)::List.replicate (x.1-1) 1)/\x.2.1.get h.next= .tip 6/\x.2.1.get x.2.2.1= .tip x.2.2.2.length/\x.2.2.1≠h.next/\h.next<x.2.2.1/\x.2.2.1<x.2.1.next/\∀j,j<h.next->x.2.1.get j=h.get j) (fun x=>k-x.1))
def c8T(xs:List IV)(h:Heap)(K:KT):Prop:=match xs with
 | [.nilslice,.int .i64 q]=> ∃(k:Nat),q=(k:Int)/\(1<=k/\k<=16)/\∀(h2:Heap)(g:List IV),g=Keep.loopC 0 k->h2.get h.next= .tip 9/\h.next<h2.next/\(∀j,j<h.next->h2.get j=h.get j)->K (.tuple [.vslice (some h.next) 9 3 3 g,.int .i64 2]) h2
 |_=>False
def a1K(h:Heap):=TV.v (.vslice (some (h.next)) 6 2 3 [iI 26,iI 0,IV.vslice none 0 0 1 [],iI 1,iI 0,IV.vslice none 0 0 1 []])
def b9J:=TV.v (.vslice none 1 1 1 [iI 0])
def a1U:=TV.v (.int .i64 0)
def a0T(k:Nat):=(k:Int).toNat-0
def a6H:=IObj.tip 6
def b9K(h:Heap):=(h.push a6H).push (IObj.tip 2)
def a1Z(k:Nat):=TV.v (.int .i64 (k:Int))
def d4Y:=[iI 0,iI 1]
def b9L:=TV.v (.int .i64 1)
def b9M:=[iI 1]
def a6I:=IV.int .i64
def a3C(g:Nat×Heap×Nat×List Int):=g.2.2
def f2C(h:Heap):=IV.vslice (some (h.next+1)) 2 2 1 d4Y
def f2D(k:Nat)(h:Heap):=(b9K h).set (h.next+1) (IObj.tip ((2:Nat)+(a0T k)*1))
def c6R:=IObj.tip 9
def d2Y(h:Heap)(k:Nat)(p:IV)(l:Int)(m:Heap)(i:Nat):Prop:= ∃(g:Nat×Heap×Nat×List Int),some (a1K h)=some (a1K h)/\some (a1Z k)=some (a1Z k)/\some a1U=some a1U/\some (TV.v (p))=some (TV.v (.vslice (some ((a3C g).1)) (((a3C g).2).length) (((a3C g).2).length) 1 (List.map a6I ((a3C
 g).2))))/\tI (l)=tI (g.1:Int)/\m=g.2.1/\((1<=g.1/\g.1<=k/\Prod.snd (a3C g)=0::List.replicate (g.1-1) 1)/\Heap.get g.2.1 (h.next)=IObj.tip 6/\Heap.get g.2.1 ((a3C g).1)=IObj.tip (((a3C g).2).length)/\Prod.fst (a3C g)
 ≠Heap.next h/\Heap.next h< (a3C g).1/\Prod.fst (a3C g)<g.2.1.next/\∀(j:Nat),j<h.next->Heap.get g.2.1 j=h.get j)/\k-g.1<i
theorem g2Z(k:Nat)(h:Heap)(Q:KT):dF (aV e0B) env 166 dV (tK 6 (anI k h)) bT [.nilslice,.int .i64 (k:Int)] h Q=(
 ((∃(x:Nat),some (a1K h)=some (a1K h)/\some (a1Z k)=some (a1Z k)/\some a1U=some a1U/\some b9J=some b9J/\some b9L=some b9L/\Heap.push h a6H=h.push a6H/\(x=1/\True)/\True) \/ ∃(x:Nat×Heap×Nat×List Int),some (a1K h)=some (a1K h)/\some (a1Z k)=some (a1Z k)/\some a1U=some a1U/\some b9J=some (TV.v (.vslice (some x.2.2.1) x.2.2.2.length x.2.2.2.length 1 (List.map a6I x.2.2.2)))/\some b9L=tI (x.1:Int)/\Heap.push h a6H=x.2.1/\((1<=x.1/\x.1<=k/\x.2.2.2=0::List.replicate (x.1-1) 1)/\Heap.get x.2.1 (h.next)=IObj.tip 6/\Heap.get x.2.1 x.2.2.1=IObj.tip x.2.2.2.length/\x.2.2.1≠Heap.next h/\Heap.next h<x.2.2.1/\x.2.2.1< (x.2.1).next/\∀(j:Nat),j<h.next->Heap.get x.2.1 j=h.get j)/\True)/\(∀(x:Nat)(b:FF),x=1/\True->aM (decide (1< (k:Int))) ((∃(g:Nat),some (a1K h)=some (a1K h)/\some (a1Z k)=some (a1Z k)/\some a1U=some a1U/\some (TV.v (f2C h))=some b9J/\tI 2=some b9L/\Heap.push (h.push a6H) (IObj.tip 2)=h.push a6H/\(g=1/\True)/\k-g<k-x) \/d2Y h k (f2C h) 2 (b9K h) (k-x)) (aC (true&& (decide ((0:Int)<=(k:Int)) &&decide ((k:Int)<=2))) (aM (Nat.beq (a0T k) 0) (dG (b9K h) (h.next) fun(r:Nat)=>aC (Nat.beq r 6 &&true) (Q (.tuple [.vslice (some (h.next)) 9 3 3 [iI 26,iI 0,IV.vslice none 0 0 1 [],iI 1,iI 0,IV.vslice none 0 0 1 [],iI 31,iI 0,IV.vslice none 0 2 1 d4Y],iI 2]) ((b9K h).set (h.next) c6R))) (dG (b9K h) (h.next+1) fun(y:Nat)=>aC (Nat.beq y 2 &&Nat.ble (((2:Nat)+(a0T k))*8) 140737488355328) (dG (f2D k h) (h.next) fun(z:Nat)=>aC (Nat.beq z 6 &&true) (Q (IV.tuple [.vslice (some (h.next)) 9 3 3 [iI 26,iI 0,IV.vslice none 0 0 1 [],iI 1,iI 0,IV.vslice none 0 0 1 [],iI 31,iI 0,IV.vslice none 0 ((2:Nat)+(a0T k)) 1 (iI 0::iI 1::List.take ((a0T k)*1) d4Y)],iI 2]) ((f2D k h).set (h.next) c6R)))))))/\∀(x:Nat×Heap×Nat×List Int)(b:FF),((1<=x.1/\x.1<=k/\x.2.2.2=0::List.replicate (x.1-1) 1)/\Heap.get x.2.1 (h.next)=IObj.tip 6/\Heap.get x.2.1 ((x.2.2).1)=IObj.tip x.2.2.2.length/\x.2.2.1≠Heap.next h/\Heap.next h<x.2.2.1/\x.2.2.1<x.2.1.next/\∀(j:Nat),j<h.next->Heap.get ((x.2).1) j=h.get j)->aM (decide ((x.1:Int)< (k:Int))) (dG x.2.1 x.2.2.1 fun(m:Nat)=>aC (Nat.beq m x.2.2.2.length&&Nat.ble ((x.2.2.2.length+1)*(8:Nat)) 140737488355328) ((∃(g:Nat),some (a1K h)=some (a1K h)/\some (a1Z k)=some (a1Z k)/\some a1U=some a1U/\some (TV.v (.vslice (some x.2.2.1) (x.2.2.2.length+1) (((x.2.2).2).length+1) 1 (List.map a6I x.2.2.2++b9M)))=some b9J/\tI (wW ((x.1:Int)+1))=some b9L/\Heap.set x.2.1 x.2.2.1 (IObj.tip (x.2.2.2.length+1))=h.push a6H/\(g=1/\True)/\k-g<k-x.1) \/d2Y h k (IV.vslice (some x.2.2.1) (x.2.2.2.length+1) ((((x.2).2).2).length+1) 1 (List.map a6I x.2.2.2++b9M)) (wW ((x.1:Int)+1)) (x.2.1.set x.2.2.1 (IObj.tip (x.2.2.2.length+1))) (k-x.1))) (dG x.2.1 x.2.2.1 fun(l:Nat)=>aC (Nat.beq l x.2.2.2.length&&Nat.ble ((x.2.2.2.length+1)*8) 140737488355328) (aC (true&& (decide ((0:Int)<=(k:Int)) &&decide ((k:Int)<=(↑(x.2.2.2.length+1):Int)))) (aM (Nat.beq (a0T k) 0) (dG (x.2.1.set x.2.2.1 (IObj.tip (x.2.2.2.length+1))) (h.next) fun(p:Nat)=>aC (Nat.beq p 6 &&true) (Q (.tuple [.vslice (some (h.next)) 9 3 3 [iI 26,iI 0,IV.vslice none 0 0 1 [],iI 1,iI 0,IV.vslice none 0 0 1 [],iI 31,iI 0,IV.vslice none 0 (x.2.2.2.length+1) 1 (List.map a6I x.2.2.2++b9M)],iI 2]) ((x.2.1.set x.2.2.1 (IObj.tip (x.2.2.2.length+1))).set (h.next) c6R))) (dG (x.2.1.set x.2.2.1 (IObj.tip (x.2.2.2.length+(1:Nat)))) x.2.2.1 fun(u:Nat)=>aC (Nat.beq u (x.2.2.2.length+1) &&Nat.ble ((x.2.2.2.length+1+(a0T k))*8) 140737488355328) (dG (((x.2.1).set x.2.2.1 (IObj.tip (x.2.2.2.length+1))).set x.2.2.1 (IObj.tip (x.2.2.2.length+1+(a0T k)*1))) (h.next) fun(i:Nat)=>aC (Nat.beq i 6 &&true) (Q (.tuple [.vslice (some (h.next)) 9 3 3 [iI 26,iI 0,IV.vslice none 0 0 1 [],iI 1,iI 0,IV.vslice none 0 0 1 [],iI 31,iI 0,IV.vslice none 0 (x.2.2.2.length+1+(a0T k)) 1 (List.map a6I x.2.2.2++b9M++List.take ((a0T k)*1) (List.drop 0 (List.map a6I x.2.2.2++b9M)))],iI 2]) (((x.2.1.set x.2.2.1 (IObj.tip (x.2.2.2.length+1))).set x.2.2.1 (IObj.tip (x.2.2.2.length+1+(a0T k)*1))).set (h.next) c6R)))))))):=by kernel_rfl
theorem f0N: ∀xs h Q,c8T xs h Q->aU env 166 xs h Q:=by
 intro xs h Q u;unfold c8T at u;split at u
 ·rename_i q;obtain⟨k,rfl,Z,u⟩:=u;refine aS (e0C) (g2Z k h Q) ?_;delta d2Y a1K b9J a1U a0T b9K a1Z d4Y b9L b9M a6I a3C a6H f2C f2D c6R tI wW iI;obtain⟨h1,h2⟩:=Z;simp only [h0Z,h7X,h1W];refine⟨.inl ⟨1,.intro,.intro,.intro,.intro,.intro,.intro,⟨rfl,True.intro⟩,True.intro⟩,?_,?_⟩
  ·rintro x _ ⟨rfl,_⟩;have Y:((h.push (.tip 6)).push (.tip 2)).get h.next= .tip 6:=(aJ (show h.next< (h.push (.tip 6)).next from h1G _)).trans aR;have X: ∀j,j<h.next->((h.push (.tip 6)).push (.tip 2)).get j=h.get j:=fun j A=>(aJ (show j< (h.push (.tip 6)).next from h1T A)).trans (aJ A)
   refine dW (fun c=> .inr ⟨(2,_,h.next+1,[0,1]),.intro,.intro,.intro,(by rfl),(by rfl),(by rfl),⟨⟨by show 1<=2;omega,by show 2<=k;omega,rfl⟩,Y,aR,h3H (h1G _),h1G _,h1G _,X⟩,by show k-2<k-1;omega⟩) (fun c=>?_);have T:k=1:=by omega
   subst T;refine aA (by decide) (bf (by decide) (bE aR (aA (by decide) (bE ((aE (h4P (h1G _))).trans Y) (aA rfl ?_)))));refine cast (congrArg (fun z=>Q z _) ?_) (u _ _ rfl ⟨aH,h1T (h1G _),fun j A=>(aE (h4P A)).trans ((aE (h4P (h1T A))).trans (X j A))⟩);rfl
  ·rintro⟨j,g,V,ks⟩ _ ⟨⟨j1,j2,m⟩,r,y,i,L,G,p⟩;dsimp only at j1 j2 m r y i L G p⊢;have D:ks.length=j:=by
    rw [m,h1O,h3D];omega
   refine dW (fun c=>bE y (aA (by simp only [h0Y,bY,h1S,true_and];omega) (.inr ⟨(j+1,g.set V (.tip (ks.length+1)),V,ks++ [1]),.intro,.intro,.intro,(by simp),(by(try dsimp only);rw [h0X _ (by omega)];rfl),rfl,⟨⟨h5J _,by(try dsimp only);omega,?_⟩,(aE i.symm).trans r,?_,i,L,G,fun q O=>(aE (by omega)).trans (p q O)⟩,by(try dsimp only);omega⟩))) (fun c=>?_)
   ·(try dsimp only)
    rw [m,h3E,<-List.replicate_succ',show j-1+1=j+1-1 by omega]
   ·(try dsimp only)
    rw [h1E];exact aH
   ·have K:j=k:=by omega
    subst K;refine bE y (aA (by simp only [h0Y,bY,h1S,true_and];omega) (aA (by simp only [h2G,h0Y,decide_eq_true_eq];omega) (bf (by rw [zB];omega) (bE aH (aA (by simp only [h0Y,bY,h1S,true_and];omega) (bE ((aE i.symm).trans ((aE i.symm).trans r)) (aA rfl ?_)))))));refine cast (congrArg (fun z=>Q z _) ?_) (u _ _ rfl ⟨aH,by show h.next<g.next;omega,fun q O=>(aE (by omega)).trans ((aE (by omega)).trans ((aE (by omega)).trans (p q O)))⟩);have e:=sE (l:=[]) (k:=j);rw [h3U]at e;have e2:=a8R (n:=0) h1 m;rw [show Keep.loopC 0 j=(iW ([]:List Nd).length j).flatMap cN from rfl,e,show([]:List Nd).length=0 from rfl,e2,h4J,h2Y (by rw [h1P];omega),h1H (by rw [h1P];omega)];simp only [h3O,h1E,h2H,h4D,h1O,h1U,D];rfl
 ·exact u.elim
def f0O:=bB 166 c8T e0B
theorem f6P:aT env f0O:=aI f0N (e0C)
def f6Q(xs:List IV)(h:Heap)(K:KT):Prop:=match xs with
 | [a,b]=>c8S [a,b] h K\/c8T [a,b] h K
 |_=>False
theorem g8K: ∀xs h Q,f6Q xs h Q->aU env 166 xs h Q:=by
 intro xs h Q g;unfold f6Q at g;split at g
 ·exact g.elim (f0M _ _ _) (f0N _ _ _)
 ·exact g.elim
def f6R:=bB 166 f6Q f0O
theorem f0P:aT env f6R:=aI g8K (f6P)
def b2U(xs:List IV)(h:Heap)(K:KT):Prop:=match xs with
 | [.int .i64 k]=>(1<=k/\k<=1000000)/\K (.int .i64 ((k-1)/2)) h
 |_=>False
theorem e7Q(k:Int)(h:Heap)(Q:KT):dF (aV f6R) env 99 dV bT bT [.int .i64 k] h Q=(
 Q (.int .i64 (wW (Int.tdiv (wW (k-1)) 2))) h):=by kernel_rfl
theorem e7R: ∀xs h Q,b2U xs h Q->aU env 99 xs h Q:=by
 intro xs h Q g;unfold b2U at g;split at g
 ·rename_i k;obtain⟨i,g⟩:=g;refine aS (f0P) (e7Q k h Q) ?_;delta wW;refine cO g ?_
  congr 1
  rw [h0X (k-1) (by omega),h4U (by omega),h0X _ (by omega)]
 ·exact g.elim
def b2V:=bB 99 b2U f6R
theorem b8L:aT env b2V:=aI e7R (f0P)
def e7S(l:List Nd)(i:Nat)(r:List Int)(id:Nat)(h:Heap)(j:Nat)(g:Heap)(m p:Nat)(few:List Nd)(kids:List Int):Prop:=(j<=(l.getD i default).ks.length/\(few,kids)=iD ([],[]) (kY l i j r))/\(g.get m= .tip (few.length*3)/\g.get p= .tip kids.length)/\(m≠id/\p≠id/\m≠p)/\(m<g.next/\p<g.next)/\g.get id=h.get id/\h.next<=g.next
def g8L(l:List Nd)(i e0 id:Nat)(g:List Int)(h:Heap):Inv':= .or
 (hJ Nat (fun x=>[(0,.v (.vslice none e0 (l).length 3 ((l).flatMap cN))),(1,.v (.hslice id 0 g.length 1)),(2,.v (.int .i64 (i:Int))),(16,.v (.vslice none 0 ((l.getD i default).ks).length 1 (((l.getD i default).ks).map (IV.int .i64)))),(17,.v (.int .i64 (l.getD i default).ks.length)),(18,.v (.int .i64 0)),(7,.v .nilslice),(8,.v .nilslice)]) (fun _=>[]) (fun _=>h) (fun x=>x=0/\True) (fun x=>(l.getD i default).ks.length-x))
 (hJ (Nat×Heap×Nat×Nat×List Nd×List Int) (fun x=>[(0,.v (.vslice none e0 (l).length 3 ((l).flatMap cN))),(1,.v (.hslice id 0 g.length 1)),(2,.v (.int .i64 (i:Int))),(16,.v (.vslice none 0 ((l.getD i default).ks).length 1 (((l.getD i default).ks).map (IV.int .i64)))),(17,.v (.int .i64 (l.getD i default).ks.length)),(18,.v (.int .i64 (x.1:Int))),(7,.v (.vslice (some x.2.2.1) (x.2.2.2.2.1.length*3) x.2.2.2.2.1.length 3 (x.2.2.2.2.1.flatMap cN))),(8,.v (.vslice (some x.2.2.2.1) x.2.2.2.2.2.length x.2.2.2.2.2.length 1 (x.2.2.2.2.2.map (IV.int .i64))))]) (fun _=>[]) (fun x=>x.2.1)
 (fun x=>e7S l i g id h x.1 x.2.1 x.2.2.1 x.2.2.2.1 x.2.2.2.2.1 x.2.2.2.2.2/\True) (fun x=>(l.getD i default).ks.length-x.1))
def c3L(xs:List IV)(h:Heap)(K:KT):Prop:=match xs with
 | [.vslice none e0 n0 3 c0,.hslice id 0 n2 1,.int .i64 q]=> ∃(l:List Nd)(i:Nat)(g:List Int),(n0=l.length/\c0=l.flatMap cN/\q=(i:Int)/\n2=g.length)/\(NGP l i g/\h.get id= .cells (g.map (IV.int .i64))/\id<h.next)/\∀h2:Heap,h2.get id=h.get id/\h.next<=h2.next->K (.int .i64 (cC (l.take i) (aG (l.take i)) (l.getD i default))) h2
 |_=>False
def kJ(l:List Nd)(i:Nat):=Nd.ks (List.getD l i default)
def a1M:=IV.int .i64
def zV(l:List Nd)(i:Nat):=TV.v (.vslice none 0 ((kJ l i).length) 1 (List.map a1M (kJ l i)))
def zW(l:List Nd)(i:Nat):=TV.v (.int .i64 (↑((kJ l i).length):Int))
def b2W(l:List Nd):=List.flatMap cN l
def vS(l:List Nd)(e0:Nat):=TV.v (.vslice none e0 l.length 3 (b2W l))
def vT(id:Nat)(g:List Int):=TV.v (.hslice id 0 g.length 1)
def vU(i:Nat):=TV.v (.int .i64 (i:Int))
def e7T:=[iI 26,iI 0,IV.vslice none 0 0 1 []]
def e7U:=[iI 1,iI 0,IV.vslice none 0 0 1 []]
def d2E(l:List Nd)(i:Nat):=decide (0<=(i:Int)) &&decide ((i:Int)< (l.length:Int))
def b8M:=TV.v (.int .i64 0)
def e7V(h:Heap):=IV.vslice (some (h.next+1)) 1 1 1 [iI 0]
def vV:=TV.v IV.nilslice
def f6S(h2:Heap):=IV.vslice (some (h2.next)) 1 1 1 [iI 2]
def e0D(h:Heap):=h.push (IObj.tip 3)
def d2F:=IObj.tip 1
def f6T(l:List Nd):=(∀(x:Nd),x∈l->List.length (Nd.ks x)<=1000000/\True)
def d2G(g:List Nd):=g.length+3
def f6U(h:Heap):=IV.vslice (some (h.next)) 3 1 3 e7U
def f6V(h:Heap):=IV.vslice (some (h.next)) 3 1 3 e7T
def e0E(e0 i id x:Nat)(h:Heap)(g:List Int)(l:List Nd)(m:IV):Prop:= ∃(j:Nat),some (vS l e0)=some (vS l e0)/\some (vT id g)=some (vT id g)/\some (vU i)=some (vU i)/\some (zV l i)=some (zV l i)/\some (zW l i)=some (zW l i)/\tI 1=some b8M/\some (TV.v (m))=some vV/\some (TV.v (e7V h))=some vV/\Heap.push (e0D h) d2F
 =h/\(j=0/\True)/\List.length (kJ l i)-j< (kJ l i).length-x
def e0F(e0 i id:Nat)(h:Heap)(g:List Int)(l:List Nd)(x:Nat×Heap×Nat×Nat×List Nd×List Int)(m:IV):Prop:= ∃(j:Nat),some (vS l e0)=some (vS l e0)/\some (vT id g)=some (vT id g)/\some (vU i)=some (vU i)/\some (zV l i)=some (zV l i)/\some (zW l i)=some (zW l i)/\tI (wW ((x.1:Int)+1))=some b8M/\some (TV.v (m))=some vV/\some (TV.v (.vslice (some x.2.2.2.1)
 (x.2.2.2.2.2.length+1) (x.2.2.2.2.2.length+1) 1 (List.map a1M x.2.2.2.2.2++ [iI (x.2.2.2.2.1.length:Int)])))=some vV/\Heap.set (x.2.1.set x.2.2.1 (IObj.tip (x.2.2.2.2.1.length*3+3))) x.2.2.2.1 (IObj.tip (x.2.2.2.2.2.length+1))=h/\(j=0/\True)/\List.length (kJ l i)-
 j< (kJ l i).length-x.1
def a5N(e0 i id:Nat)(h:Heap)(j:List Int)(l:List Nd)(y:Int)(r u:IV)(m:Heap)(p:Nat):Prop:= ∃(g:Nat×Heap×Nat×Nat×List Nd×List Int),some (vS l e0)=some (vS l e0)/\some (vT id j)=some (vT id j)/\some (vU i)=some (vU i)/\some (zV l i)=some (zV l i)/\some (zW l i)=some (zW l i)/\tI (y)=tI (g.1:Int)/\some (TV.v (r))=some (TV.v (.vslice
 (some g.2.2.1) (g.2.2.2.2.1.length*3) g.2.2.2.2.1.length 3 (List.flatMap cN g.2.2.2.2.1)))/\some (TV.v (u))=some (TV.v (.vslice (some g.2.2.2.1) g.2.2.2.2.2.length g.2.2.2.2.2.length 1 (List.map a1M g.2.2.2.2.2)))/\m=g.2.1/\(((g.1<=List.length (kJ l i)/\(g.2.2.2.2.1,g.2.2.2.2.2)
 =iD ([],[]) (kY l i g.1 j))/\(g.2.1.get g.2.2.1=IObj.tip (g.2.2.2.2.1.length*3)/\Heap.get g.2.1 g.2.2.2.1=IObj.tip g.2.2.2.2.2.length)/\(g.2.2.1≠id/\g.2.2.2.1≠id/\g.2.2.1≠g.2.2.2.1)/\(g.2.2.1<g.2.1.next/\g.2.2.2.1<g.2.1.next)/\Heap.get g.2.1
 id=h.get id/\Heap.next h<=Heap.next g.2.1)/\True)/\List.length (kJ l i)-g.1<p
theorem f6W(l:List Nd)(i:Nat)(e0 id:Nat)(m:List Int)(h:Heap)(Q:KT):dF (aV b2V) env 98 dV (tK 5 (g8L l i e0 id m h)) bT [.vslice none e0 (l).length 3 ((l).flatMap cN),.hslice id 0 m.length 1,.int .i64 (i:Int)] h Q=(
 aC (d2E l i) (bH 1 (b2W l) ((i:Int).toNat*3+2) fun(i0:Option Nat)(e1 D:Nat)(c3:List IV)=>((∃(x:Nat),some (vS l e0)=some (vS l e0)/\some (vT id m)=some (vT id m)/\some (vU i)=some (vU i)/\some (TV.v (.vslice i0 e1 D 1 c3))=some (zV l i)/\tI (D:Int)=some (zW l i)/\some b8M=some b8M/\some vV=some vV/\some vV=some vV/\h=h/\(x=0/\True)/\True) \/ ∃(x:Nat×Heap×Nat×Nat×List Nd×List Int),some (vS l e0)=some (vS l e0)/\some (vT id m)=some (vT id m)/\some (vU i)=some (vU i)/\some (TV.v (.vslice i0 e1 D 1 c3))=some (zV l i)/\tI (D:Int)=some (zW l i)/\some b8M=tI (x.1:Int)/\some vV=some (TV.v (.vslice (some x.2.2.1) (x.2.2.2.2.1.length*3) x.2.2.2.2.1.length 3 (List.flatMap cN x.2.2.2.2.1)))/\some vV=some (TV.v (.vslice (some x.2.2.2.1) x.2.2.2.2.2.length x.2.2.2.2.2.length 1 (List.map a1M x.2.2.2.2.2)))/\h=x.2.1/\(((x.1<=List.length (kJ l i)/\(x.2.2.2.2.1,x.2.2.2.2.2)=iD ([],[]) (kY l i x.1 m))/\(x.2.1.get x.2.2.1=IObj.tip (x.2.2.2.2.1.length*3)/\Heap.get x.2.1 x.2.2.2.1=IObj.tip x.2.2.2.2.2.length)/\(x.2.2.1≠id/\Prod.fst (x.2.2.2)≠id/\x.2.2.1≠x.2.2.2.1)/\(x.2.2.1<x.2.1.next/\x.2.2.2.1<x.2.1.next)/\Heap.get x.2.1 id=h.get id/\Heap.next h<=Heap.next x.2.1)/\True)/\True)/\(∀(x:Nat)(b:FF),x=0/\True->aM (decide (0< (↑((kJ l i).length):Int))) (aC (true&&decide (0< (↑((kJ l i).length):Int))) (aK .i64 (List.map a1M (kJ l i)) 0 fun z=>aC (decide (0<=z) &&decide (z< (m.length:Int))) (aF h id fun r5=>aK .i64 r5 ((0:Nat)+z.toNat*1) fun n6=>aM (n6==1) ((e0E e0 i id x h m l (f6U h)) \/a5N e0 i id h m l 1 (f6U h) (e7V h) ((e0D h).push d2F) ((kJ l i).length-x)) (aM (n6==2) ((e0E e0 i id x h m l (f6V h)) \/a5N e0 i id h m l 1 (f6V h) (e7V h) ((e0D h).push d2F) ((kJ l i).length-x)) (aC (decide (0<=z) &&decide (z< ((l.length):Int))) (bH 1 (b2W l) (z.toNat*3+2) fun(i7:Option Nat)(e8 T:Nat)(a6:List IV)=>(1<=(T:Int)/\(T:Int)<=1000000)/\(False\/ ∃(k:Nat),((T:Int)-1)/ (2:Int)=(k:Int)/\(1<=k/\k<=16)/\∀(h2:Heap)(u:List IV),u=Keep.loopC 0 k->(h2.get (h.next)=IObj.tip 9/\Heap.next h<h2.next/\∀(j:Nat),j<h.next->Heap.get h2 j=h.get j)->(∃(r:Nat),some (vS l e0)=some (vS l e0)/\some (vT id m)=some (vT id m)/\some (vU i)=some (vU i)/\some (zV l i)=some (zV l i)/\some (zW l i)=some (zW l i)/\tI 1=some b8M/\some (TV.v (.vslice (some (h.next)) 9 3 3 u))=some vV/\some (TV.v (f6S h2))=some vV/\Heap.push h2 d2F=h/\(r=0/\True)/\List.length (kJ l i)-r< (kJ l i).length-x) \/a5N e0 i id h m l 1 (IV.vslice (some (h.next)) 9 3 3 u) (f6S h2) (h2.push d2F) ((kJ l i).length-x)))))))) (aC (d2E l i) (aK .i64 (b2W l) ((i:Int).toNat*3+0) fun a0=>aC (d2E l i) (aK .i64 (b2W l) ((i:Int).toNat*3+1) fun a2=> ∃(l:List Nd),((1:Nat)=l.length/\[iI a0,iI a2,IV.vslice none 0 0 1 []]=List.flatMap cN l)/\((f6T l)/\l.length<=1000000/\(0:Int)<=0/\0< (l.length:Int))/\Q (.int .i64 (List.getD (aG l) 0 0)) (e0D h)))))/\∀(x:Nat×Heap×Nat×Nat×List Nd×List Int)(b:FF),e7S l i m id h x.1 x.2.1 x.2.2.1 x.2.2.2.1 x.2.2.2.2.1 x.2.2.2.2.2/\True->aM (decide ((x.1:Int)< (↑((kJ l i).length):Int))) (aC (decide (0<=(x.1:Int)) &&decide ((x.1:Int)< (↑((kJ l i).length):Int))) (aK .i64 (List.map a1M (kJ l i)) ((x.1:Int).toNat*1) fun p=>aC (decide (0<=p) &&decide (p< (m.length:Int))) (aF x.2.1 id fun V=>aK .i64 V ((0:Nat)+p.toNat*1) fun A=>aM (A==1) (dG x.2.1 x.2.2.1 fun(Y:Nat)=>aC (Nat.beq Y (x.2.2.2.2.1.length*3) &&Nat.ble ((x.2.2.2.2.1.length+1)*40) 140737488355328) (dG (x.2.1.set x.2.2.1 (IObj.tip (x.2.2.2.2.1.length*3+3))) x.2.2.2.1 fun(L:Nat)=>aC (Nat.beq L x.2.2.2.2.2.length&&Nat.ble ((((((x.2.2).2).2).2).length+1)*8) 140737488355328) ((e0F e0 i id h m l x (IV.vslice (some x.2.2.1) (x.2.2.2.2.1.length*3+3) ((((((x.2).2).2).2).1).length+1) 3 (List.flatMap cN x.2.2.2.2.1++e7U))) \/a5N e0 i id h m l (wW ((x.1:Int)+1)) (IV.vslice (some x.2.2.1) (((((x.2.2).2).2).1).length*3+3) (x.2.2.2.2.1.length+1) 3 (List.flatMap cN x.2.2.2.2.1++e7U)) (IV.vslice (some x.2.2.2.1) ((x.2.2.2.2.2).length+1) (x.2.2.2.2.2.length+1) 1 (List.map a1M x.2.2.2.2.2++ [iI (↑(((((x.2.2).2).2).1).length):Int)])) ((x.2.1.set x.2.2.1 (IObj.tip (x.2.2.2.2.1.length*3+3))).set x.2.2.2.1 (IObj.tip (((x.2.2.2.2).2).length+1))) ((kJ l i).length-x.1)))) (aM (A==2) (dG x.2.1 x.2.2.1 fun(Z:Nat)=>aC (Nat.beq Z (x.2.2.2.2.1.length*3) &&Nat.ble ((x.2.2.2.2.1.length+1)*40) 140737488355328) (dG (x.2.1.set x.2.2.1 (IObj.tip (x.2.2.2.2.1.length*3+(3:Nat)))) x.2.2.2.1 fun(X:Nat)=>aC (Nat.beq X x.2.2.2.2.2.length&&Nat.ble ((x.2.2.2.2.2.length+1)*8) 140737488355328) ((e0F e0 i id h m l x (IV.vslice (some x.2.2.1) (x.2.2.2.2.1.length*3+3) (x.2.2.2.2.1.length+1) 3 (List.flatMap cN ((x.2.2.2.2).1)++e7T))) \/a5N e0 i id h m l (wW ((x.1:Int)+1)) (IV.vslice (some x.2.2.1) (x.2.2.2.2.1.length*3+3) ((x.2.2.2.2.1).length+1) 3 (List.flatMap cN x.2.2.2.2.1++e7T)) (IV.vslice (some x.2.2.2.1) (x.2.2.2.2.2.length+1) (x.2.2.2.2.2.length+1) 1 (List.map a1M x.2.2.2.2.2++ [iI (x.2.2.2.2.1.length:Int)])) (((x.2.1).set x.2.2.1 (IObj.tip (x.2.2.2.2.1.length*3+3))).set x.2.2.2.1 (IObj.tip (x.2.2.2.2.2.length+1))) ((kJ l i).length-x.1)))) (aC (decide (0<=p) &&decide (p< (l.length:Int))) (bH 1 (b2W l) (p.toNat*3+2) fun(a3:Option Nat)(a4 y:Nat)(a5:List IV)=>(1<=(y:Int)/\(y:Int)<=1000000)/\((∃(g:List Nd),∃(k:Nat),(x.2.2.2.2.1.length=g.length/\x.2.2.2.2.1.length*3=g.length*3/\List.flatMap cN x.2.2.2.2.1=List.flatMap cN g/\((y:Int)-1)/ (2:Int)=(k:Int))/\(1<=k/\k<=16/\g.length<=100000)/\Heap.get x.2.1 x.2.2.1=IObj.tip (g.length*3)/\x.2.2.1<x.2.1.next/\∀(h2:Heap)(u:List IV),u=List.flatMap cN g++Keep.loopC g.length k->(h2.get x.2.2.1=IObj.tip ((d2G g)*3)/\Heap.next x.2.1<=Heap.next h2/\∀(j:Nat),j< ((x.2).1).next->j≠x.2.2.1->Heap.get h2 j=x.2.1.get j)->dG h2 x.2.2.2.1 fun(K:Nat)=>aC (Nat.beq K x.2.2.2.2.2.length&&Nat.ble ((((x.2.2.2.2).2).length+1)*8) 140737488355328) ((∃(r:Nat),some (vS l e0)=some (vS l e0)/\some (vT id m)=some (vT id m)/\some (vU i)=some (vU i)/\some (zV l i)=some (zV l i)/\some (zW l i)=some (zW l i)/\tI (wW ((x.1:Int)+1))=some b8M/\some (TV.v (.vslice (some x.2.2.1) ((d2G g)*3) (d2G g) 3 u))=some vV/\some (TV.v (.vslice (some x.2.2.2.1) (x.2.2.2.2.2.length+1) (x.2.2.2.2.2.length+1) 1 (List.map a1M x.2.2.2.2.2++ [iI (↑(g.length+2):Int)])))=some vV/\Heap.set h2 x.2.2.2.1 (IObj.tip (x.2.2.2.2.2.length+1))=h/\(r=0/\True)/\List.length (kJ l i)-r< (kJ l i).length-x.1) \/a5N e0 i id h m l (wW ((x.1:Int)+1)) (IV.vslice (some x.2.2.1) ((d2G g)*3) (d2G g) 3 u) (IV.vslice (some x.2.2.2.1) (x.2.2.2.2.2.length+1) (x.2.2.2.2.2.length+1) 1 (List.map a1M x.2.2.2.2.2++ [iI (↑(g.length+2):Int)])) (h2.set x.2.2.2.1 (IObj.tip ((x.2.2.2.2.2).length+1))) ((kJ l i).length-x.1))) \/False))))))) (aC (d2E l i) (aK .i64 (b2W l) ((i:Int).toNat*3+0) fun a1=>aC (d2E l i) (aK .i64 (b2W l) ((i:Int).toNat*(3:Nat)+1) fun G=>dG x.2.1 x.2.2.1 fun(O:Nat)=>aC (Nat.beq O (x.2.2.2.2.1.length*3) &&Nat.ble ((x.2.2.2.2.1.length+(1:Nat))*40) 140737488355328) (∃(l:List Nd),(x.2.2.2.2.1.length+1=l.length/\List.flatMap cN x.2.2.2.2.1++ [iI a1,iI G,IV.vslice none 0 x.2.2.2.2.2.length 1 (List.map a1M x.2.2.2.2.2)]=List.flatMap cN l)/\((f6T l)/\l.length<=1000000/\0<=wW ((↑((x.2.2.2.2.1).length+1):Int)-1)/\wW ((↑(x.2.2.2.2.1.length+1):Int)-1)< (l.length:Int))/\Q (.int .i64 (List.getD (aG l) ((wW ((↑(x.2.2.2.2.1.length+1):Int)-1)).toNat) 0)) (x.2.1.set x.2.2.1 (IObj.tip (x.2.2.2.2.1.length*3+3))))))))):=by kernel_rfl
theorem f6X: ∀xs h Q,c3L xs h Q->aU env 98 xs h Q:=by
 intro xs h Q O;unfold c3L at O;split at O
 ·rename_i e0 n0 c0 id n2 q;obtain⟨l,i,y,⟨rfl,rfl,rfl,rfl⟩,hb,O⟩:=O;refine aS (b8L) (f6W l i e0 id y h Q) ?_;delta e0E e0F a5N zV zW vS vT kJ vU e7T e7U d2E b8M e7V vV a1M f6S e0D d2F f6T d2G f6U f6V b2W tI wW iI;have L: ∀x:Nat,(x:Int).toNat=x:=h0Z
  obtain⟨T,hg,A⟩:=hb;have hi:=T.hi;have b0:=T.hkl;have a9:=T.hll;have eD:l.getD i default=l[i]:=by rw [h1A,h0U hi];rfl
  have e0:(l.flatMap cN)[i*3]?=some (.int .i64 (l.getD i default).op):=by rw [eD];exact a8J hi (j:=0) (by omega)
  have e1:(l.flatMap cN)[i*3+1]?=some (.int .i64 (l.getD i default).im):=by rw [eD];exact a8J hi (j:=1) (by omega)
  have kq: ∀j,(r:j< (l.getD i default).ks.length)-> ∃(q1:((l.getD i default).ks[j]).toNat<y.length),(0<=(l.getD i default).ks[j]/\(l.getD i default).ks[j]<l.length)/\y[((l.getD i default).ks[j]).toNat]=y.getD ((l.getD i default).ks[j]).toNat 0/\(y.getD ((l.getD i default).ks[j]).toNat 0=1\/y.getD ((l.getD i default).ks[j]).toNat 0=2\/y.getD ((l.getD i default).ks[j]).toNat 0=3)/\(y.getD ((l.getD i default).ks[j]).toNat 0=3->(l.getD ((l.getD i default).ks[j]).toNat default).ks.length%2=1/\3<=(l.getD ((l.getD i default).ks[j]).toNat default).ks.length/\(l.getD ((l.getD i default).ks[j]).toNat default).ks.length<=33):=fun j r=>by
   obtain⟨a,b,c,d,e⟩:=T.kid (h1B r);exact⟨b,⟨a.1,by omega⟩,by rw [h1A (l:=y),h0U b];rfl,d,e⟩
  refine aA (by simp;omega) (e7A hi (by rw [L]) ?_);rw [<-eD];refine⟨.inl ⟨0,rfl,rfl,rfl,rfl,rfl,rfl,rfl,rfl,rfl,⟨rfl,trivial⟩,trivial⟩,?_,?_⟩
  ·rintro x _ ⟨rfl,_⟩;have m:(([]:List Nd),([]:List Int))=iD ([],[]) (kY l i 0 y):=rfl;refine dW (fun c=>?_) (fun c=>?_)
   ·have r:0< (l.getD i default).ks.length:=by omega
    obtain⟨q1,q2,q3,q4,q5⟩:=kq 0 r;refine aA (by rw [h2G,decide_eq_true_eq];omega) (jM r rfl (aP ⟨q2.1,by omega⟩ (aB hg (jM q1 (by omega) ?_))));rw [q3];have K: ∀(o p:IObj),((h.push o).push p).get id=h.get id:=fun o p=>(aJ (show id< (h.push o).next from h1T A)).trans (aJ A)
    have a3: ∀(o p:IObj),((h.push o).push p).get h.next=o:=fun o p=>(aJ (show h.next< (h.push o).next from h1G _)).trans aR
    rcases q4 with s|s|s
    ·rw [s];exact bt rfl (.inr ⟨(1,_,h.next,h.next+1,[⟨1,0,[]⟩],[0]),(by rfl),(by rfl),(by rfl),(by rfl),(by rfl),(by rfl),(by rfl),(by rfl),(by rfl),⟨⟨⟨r,a8S r m s⟩,⟨a3 _ _,aR⟩,⟨by dsimp only;omega,by dsimp only;omega,by dsimp only;omega⟩,⟨by show h.next<h.next+1+1;omega,by show h.next+1<h.next+1+1;omega⟩,K _ _,by show h.next<=h.next+1+1;omega⟩,trivial⟩,by dsimp only;omega⟩)
    ·rw [s];exact bf rfl (bt rfl (.inr ⟨(1,_,h.next,h.next+1,[⟨26,0,[]⟩],[0]),(by rfl),(by rfl),(by rfl),(by rfl),(by rfl),(by rfl),(by rfl),(by rfl),(by rfl),⟨⟨⟨r,a8T r m s⟩,⟨a3 _ _,aR⟩,⟨by dsimp only;omega,by dsimp only;omega,by dsimp only;omega⟩,⟨by show h.next<h.next+1+1;omega,by show h.next+1<h.next+1+1;omega⟩,K _ _,by show h.next<=h.next+1+1;omega⟩,trivial⟩,by dsimp only;omega⟩))
    ·rw [s];have a5:=q5 s;have hm:(l.getD ((l.getD i default).ks[0]).toNat default)=l[((l.getD i default).ks[0]).toNat]:=by rw [h1A,h0U (by omega)];rfl
     refine bf rfl (bf rfl (aP q2 (e7A (show((l.getD i default).ks[0]).toNat<l.length by omega) rfl ⟨by rw [<-hm];omega,.inr ⟨((l.getD ((l.getD i default).ks[0]).toNat default).ks.length-1)/2,by rw [<-hm];omega,by omega,fun h2 cc a0 ⟨g1,g2,g3⟩=> .inr ⟨(1,h2.push (.tip 1),h.next,h2.next,iW 0 (((l.getD ((l.getD i default).ks[0]).toNat default).ks.length-1)/2),[2]),rfl,rfl,rfl,rfl,rfl,rfl,(by rw [a0];rfl),rfl,rfl,⟨⟨⟨r,a8U r m s⟩,⟨(aJ g2).trans g1,aR⟩,⟨by dsimp only;omega,by dsimp only;omega,by dsimp only;omega⟩,⟨h1T g2,h1G _⟩,(aJ (Nat.lt_trans A g2)).trans (g3 id A),by show h.next<=h2.next+1;omega⟩,trivial⟩,by dsimp only;omega⟩⟩⟩)))
   ·have hz:(l.getD i default).ks.length=0:=by omega
    have fin:=T.fin (few:=[]) (kids:=[]) (by rw [hz];exact m);refine aP ⟨by omega,by omega⟩ (bF (by rw [L];exact e0) (aP ⟨by omega,by omega⟩ (bF (by rw [L];exact e1) ⟨[⟨(l.getD i default).op,(l.getD i default).im,[]⟩],⟨rfl,rfl⟩,⟨fun x V=>?_,by simp,by simp,by simp⟩,cO (O _ ⟨aJ A,h4E _⟩) ?_⟩)))
    ·rw [h2J.1 V];exact⟨by simp,trivial⟩
    ·rw [<-fin];rfl
  ·rintro⟨j,g,Y,D,few,kids⟩ _ ⟨st,_⟩;obtain⟨⟨a4,m⟩,⟨gF,gK⟩,⟨nF,nK,z⟩,⟨lF,lK⟩,G,X⟩:=(show e7S l i y id h j g Y D few kids from st);obtain⟨z1,z2,z3,z4⟩:=T.sz a4 m;dsimp only;have a7:g.get id= .cells (y.map (IV.int .i64)):=G.trans hg;refine dW (fun c=>?_) (fun c=>?_)
   ·have r:j< (l.getD i default).ks.length:=by omega
    obtain⟨q1,q2,q3,q4,q5⟩:=kq j r;refine aP ⟨by omega,by omega⟩ (jM r (by rw [h1W,L]) (aP ⟨q2.1,by omega⟩ (aB a7 (jM q1 (by omega) ?_))));rw [q3];have hw:IntKind.i64.wrap ((j:Int)+1)=((j+1:Nat):Int):=by rw [h0X _ (by omega)];rfl
    have a1:(g.set Y (.tip (few.length*3+3))).get D= .tip kids.length:=by rw [aE z.symm];exact gK
    have a2: ∀(u:List Nd)(e2:Int),u.length=few.length+1->(u,kids++ [e2])=iD ([],[]) (kY l i (j+1) y)->e7S l i y id h (j+1) ((g.set Y (.tip (few.length*3+3))).set D (.tip (kids.length+1))) Y D u (kids++ [e2]):=fun u e2 hl he=>by
     refine⟨⟨r,he⟩,⟨?_,?_⟩,⟨nF,nK,z⟩,⟨lF,lK⟩,?_,X⟩
     ·rw [aE z,aH];congr 1;omega
     ·rw [aH,h1E];rfl
     ·rw [aE nK.symm,aE nF.symm];exact G
    rcases q4 with s|s|s
    ·rw [s];exact bt rfl (bE gF (aA (by simp only [h0Y,bY,h1S,true_and];omega) (bE a1 (aA (by simp only [h0Y,bY,h1S,true_and];omega) (.inr ⟨(j+1,_,Y,D,few++ [⟨1,0,[]⟩],kids++ [(few.length:Int)]),(by rfl),(by rfl),(by rfl),(by rfl),(by rfl),(by dsimp only;rw [hw]),(by simp only [h1E,h1O,h1U,h3M];rw [h3B];rfl),(by simp only [h1E,h1O,h1U,h3O];rfl),(by rfl),⟨a2 _ _ (by simp) (a8S r m s),trivial⟩,by dsimp only;omega⟩)))))
    ·rw [s];exact bf rfl (bt rfl (bE gF (aA (by simp only [h0Y,bY,h1S,true_and];omega) (bE a1 (aA (by simp only [h0Y,bY,h1S,true_and];omega) (.inr ⟨(j+1,_,Y,D,few++ [⟨26,0,[]⟩],kids++ [(few.length:Int)]),(by rfl),(by rfl),(by rfl),(by rfl),(by rfl),(by dsimp only;rw [hw]),(by simp only [h1E,h1O,h1U,h3M];rw [h3B];rfl),(by simp only [h1E,h1O,h1U,h3O];rfl),(by rfl),⟨a2 _ _ (by simp) (a8T r m s),trivial⟩,by dsimp only;omega⟩))))))
    ·rw [s];have a5:=q5 s;have hm:(l.getD ((l.getD i default).ks[j]).toNat default)=l[((l.getD i default).ks[j]).toNat]:=by rw [h1A,h0U (by omega)];rfl
     refine bf rfl (bf rfl (aP q2 (e7A (show((l.getD i default).ks[j]).toNat<l.length by omega) rfl ⟨by rw [<-hm];omega,.inl ⟨few,((l.getD ((l.getD i default).ks[j]).toNat default).ks.length-1)/2,⟨rfl,rfl,rfl,by rw [<-hm];omega⟩,⟨by omega,by omega,by omega⟩,gF,lF,fun h2 cc a0 ⟨g1,g2,g3⟩=>?_⟩⟩)));have a6:h2.get D= .tip kids.length:=(g3 D lK z.symm).trans gK;refine bE a6 (aA (by simp only [h0Y,bY,h1S,true_and];omega) (.inr ⟨(j+1,h2.set D (.tip (kids.length+1)),Y,D,few++iW few.length (((l.getD ((l.getD i default).ks[j]).toNat default).ks.length-1)/2),kids++ [((few.length+2:Nat):Int)]),rfl,rfl,rfl,rfl,rfl,(by dsimp only;rw [hw]),?_,(by simp only [h1E,h1O,h1U,h3O];rfl),rfl,⟨⟨⟨r,a8U r m s⟩,⟨?_,?_⟩,⟨nF,nK,z⟩,⟨h1C lF g2,h1C lK g2⟩,?_,h2F X g2⟩,trivial⟩,by dsimp only;omega⟩))
     ·dsimp only;rw [a0,h1E,h3M];rfl
     ·dsimp only;rw [aE z,g1,h1E];rfl
     ·dsimp only;rw [aH,h1E];rfl
     ·dsimp only;rw [aE nK.symm,g3 id (by omega) nF.symm];exact G
   ·have a8:j=(l.getD i default).ks.length:=by omega
    rw [a8]at m;have fin:=T.fin m;have Z:IntKind.i64.wrap (((few.length+1:Nat):Int)-1)=(few.length:Int):=by rw [h0X _ (by omega)];omega
    refine aP ⟨by omega,by omega⟩ (bF (by rw [L];exact e0) (aP ⟨by omega,by omega⟩ (bF (by rw [L];exact e1) (bE gF (aA (by simp only [h0Y,bY,h1S,true_and];omega) ⟨few++ [⟨(l.getD i default).op,(l.getD i default).im,kids⟩],⟨by simp,?_⟩,⟨fun x V=>?_,by simp;omega,by rw [Z];omega,by rw [Z];simp;omega⟩,cO (O _ ⟨?_,?_⟩) ?_⟩)))))
    ·rw [h3M];rfl
    ·rcases h2S.1 V with V|V
     ·exact⟨z4 x V,trivial⟩
     ·rw [h2J.1 V];exact⟨by show kids.length<=1000000;omega,trivial⟩
    ·rw [aE nF.symm];exact G
    ·exact X
    ·rw [Z,L,fin]
 ·exact O.elim
def c3M:=bB 98 c3L b2V
theorem c8U:aT env c3M:=aI f6X (b8L)
end Go.Proofs.YtkonebkblgemkaaGreat
end
end
