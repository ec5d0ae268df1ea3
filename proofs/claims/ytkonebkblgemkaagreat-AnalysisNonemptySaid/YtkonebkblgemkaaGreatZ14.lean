/-
  Texts of this proof, one after the other.
  Conditions: none.
-/
import Derived.Test.YtkonebkblgemkaaGreatZ13
set_option linter.unusedVariables false
set_option linter.unusedSimpArgs false
set_option maxRecDepth 100000
set_option maxHeartbeats 4000000
noncomputable section
section
namespace Go.Proofs.YtkonebkblgemkaaGreat
open Go.Pv Go.M15 Go.M10
def lwO(ac fc:List IV)(h:Heap):Inv':= .or (hJ (Heap) (fun x=>[(1,.l 1 0),(2,.l 2 0),(5,.l 5 0),(6,.v (.int .i64 0))]) (fun x=>[(1,[.vslice none 0 2 2 ac,.vslice none 0 2 9 fc]),(2,[.nilslice,.nilslice]),(5,[.vslice (some 0) 4 2 2 ac,.nilslice])]) (fun x=>x) (fun x=>True) (fun x=>2))
 (hJ (Heap×Nat×Nat×List IV) (fun x=>[(1,.l 1 0),(2,.l 2 0),(5,.l 5 0),(6,.v (.int .i64 (x.2.1:Int)))]) (fun x=>[(1,[.vslice none 0 2 2 ac,.vslice none 0 2 9 fc]),(2,[.nilslice,.nilslice]),(5,[.vslice (some 0) 4 2 2 ac,.vslice (some x.2.2.1) (x.2.1*5) x.2.1 5 x.2.2.2])]) (fun x=>x.1) (fun x=>LwO x.1 x.2.1 x.2.2.1 x.2.2.2) (fun x=>2-x.2.1))
def lwP(ac fc:List IV)(h:Heap):Inv':=(hJ (Heap×Nat×LwS×FnD) (fun x=>[(1,.l 1 0),(2,.l 2 0),(5,.l 5 0),(6,.v (.int .i64 (x.2.2.2.i:Int))),(7,.l 7 0),(8,.v (.ptr x.2.2.1.id 0)),(9,.v (.int .i64 (x.2.1:Int)))]) (fun x=>[(1,[.vslice none 0 2 2 ac,.vslice none 0 2 9 fc]),(2,[.nilslice,.nilslice]),(5,[.vslice (some 0) 4 2 2 ac,x.2.2.2.F]),(7,[.str x.2.2.2.nm,.vslice none 1 x.2.2.2.pc.length 1 (x.2.2.2.pc.map IV.str),.vslice none 1 x.2.2.2.lc.length 1 (x.2.2.2.lc.map IV.str),.vslice none 0 x.2.2.2.b.length 17 (aX x.2.2.2.b),.int .i64 x.2.2.2.ek,.int .i64 x.2.2.2.en,.str x.2.2.2.enm,.int .i64 x.2.2.2.eop,.vslice none 0 x.2.2.2.eks.length 5 (aW x.2.2.2.eks)])]) (fun x=>x.1) (fun x=>LwP ac fc x.1 x.2.1 x.2.2.2 x.2.2.1) (fun x=>(2-x.2.2.2.i)*100+50+(x.2.2.2.pc.length-x.2.1)))
def lwQ(ac fc:List IV)(h:Heap):Inv':=(hJ (Heap×Nat×LwS×FnD) (fun x=>[(1,.l 1 0),(2,.l 2 0),(5,.l 5 0),(6,.v (.int .i64 (x.2.2.2.i:Int))),(7,.l 7 0),(8,.v (.ptr x.2.2.1.id 0)),(10,.v (.int .i64 (x.2.1:Int)))]) (fun x=>[(1,[.vslice none 0 2 2 ac,.vslice none 0 2 9 fc]),(2,[.nilslice,.nilslice]),(5,[.vslice (some 0) 4 2 2 ac,x.2.2.2.F]),(7,[.str x.2.2.2.nm,.vslice none 1 x.2.2.2.pc.length 1 (x.2.2.2.pc.map IV.str),.vslice none 1 x.2.2.2.lc.length 1 (x.2.2.2.lc.map IV.str),.vslice none 0 x.2.2.2.b.length 17 (aX x.2.2.2.b),.int .i64 x.2.2.2.ek,.int .i64 x.2.2.2.en,.str x.2.2.2.enm,.int .i64 x.2.2.2.eop,.vslice none 0 x.2.2.2.eks.length 5 (aW x.2.2.2.eks)])]) (fun x=>x.1) (fun x=>LwQ ac fc x.1 x.2.1 x.2.2.2 x.2.2.1) (fun x=>(2-x.2.2.2.i)*100+0+(x.2.2.2.lc.length-x.2.1)))
def f5Z(xs:List IV)(h:Heap)(K:KT):Prop:=match xs with
 | [.agg [.vslice none 0 na 2 ac,.vslice none 0 nf 9 fc]]=>qG ac fc/\(na=2/\nf=2)/\∀(gc:List IV),c1C gc->K (.tuple [.agg [.vslice none 0 2 2 ac,.vslice none 0 2 5 gc],.int .i64 0]) h
 |_=>False
def jP(x_1:Heap×Nat×LwS×FnD):=x_1.2.2.2
def d2A(x_1:Heap×Nat×LwS×FnD):=[IV.str (FnD.nm (jP x_1)),IV.vslice none 1 ((FnD.pc (jP x_1)).length) 1 (List.map IV.str (FnD.pc (jP x_1))),IV.vslice none 1 ((FnD.lc (jP x_1)).length) 1 (List.map IV.str (FnD.lc (jP x_1))),IV.vslice none 0 ((FnD.b (jP x_1)).length) 17 (aX (FnD.b (jP x_1))),iI (FnD.ek
 (jP x_1)),iI (FnD.en (jP x_1)),IV.str (FnD.enm (jP x_1)),iI (FnD.eop (jP x_1)),IV.vslice none 0 ((FnD.eks (jP x_1)).length) 5 (aW (FnD.eks (jP x_1)))]
def eM(x_2:Heap×Nat×LwS×FnD):=x_2.2.2.2
def d8O(x_2:Heap×Nat×LwS×FnD):=[IV.str (FnD.nm (eM x_2)),IV.vslice none 1 ((FnD.pc (eM x_2)).length) 1 (List.map IV.str (FnD.pc (eM x_2))),IV.vslice none 1 ((FnD.lc (eM x_2)).length) 1 (List.map IV.str (FnD.lc (eM x_2))),IV.vslice none 0 ((FnD.b (eM x_2)).length) 17 (aX (FnD.b (eM x_2))),iI (FnD.ek
 (eM x_2)),iI (FnD.en (eM x_2)),IV.str (FnD.enm (eM x_2)),iI (FnD.eop (eM x_2)),IV.vslice none 0 ((FnD.eks (eM x_2)).length) 5 (aW (FnD.eks (eM x_2)))]
def eA(x_2:Heap×Nat×LwS×FnD):=LwS.id x_2.2.2.1
def fZ(x_1:Heap×Nat×LwS×FnD):=LwS.id x_1.2.2.1
def qZ(ac fc:List IV):=[IV.vslice none 0 2 2 ac,IV.vslice none 0 2 9 fc]
def oF:=IObj.tip (1:Nat)
def b7H(x_1:Heap×Nat×LwS×FnD)(s125:List UInt8)(r126:List IV):=(x_1.1.push oF).set (fZ x_1) (IObj.cells (List.take 3 r126++ [IV.vslice (some (x_1.1.next)) 1 1 1 [IV.str s125]]++List.drop 4 r126))
def b7I(x_2:Heap×Nat×LwS×FnD)(s149:List UInt8)(r150:List IV):=(x_2.1.push oF).set (eA x_2) (IObj.cells (List.take 3 r150++ [IV.vslice (some (x_2.1.next)) 1 1 1 [IV.str s149]]++List.drop 4 r150))
def b7J(x_1:Heap×Nat×LwS×FnD)(i134 e135 l136:Nat)(c137 r140:List IV)(s138:List UInt8):=(x_1.1.set i134 (IObj.tip (e135+1))).set (fZ x_1) (IObj.cells (List.take 3 r140++ [IV.vslice (some i134) (e135+1) (l136+1) 1 (c137++ [IV.str s138])]++List.drop 4 r140))
def b7K(x_2:Heap×Nat×LwS×FnD)(i158 e159 l160:Nat)(c161 r164:List IV)(s162:List UInt8):=(x_2.1.set i158 (IObj.tip (e159+1))).set (eA x_2) (IObj.cells (List.take 3 r164++ [IV.vslice (some i158) (e159+1) (l160+1) 1 (c161++ [IV.str s162])]++List.drop 4 r164))
def b7L(i32 e33 l34:Nat)(c35 r38:List IV)(s36:List UInt8):=IObj.cells (List.take 3 r38++ [IV.vslice (some i32) (e33+1) (l34+1) 1 (c35++ [IV.str s36])]++List.drop 4 r38)
def b7M(i56 e57 l58:Nat)(c59 r62:List IV)(s60:List UInt8):=IObj.cells (List.take 3 r62++ [IV.vslice (some i56) (e57+1) (l58+1) 1 (c59++ [IV.str s60])]++List.drop 4 r62)
def d8P(ac fc:List IV):=IObj.cells [IV.vslice none 0 2 2 ac,IV.vslice none 0 2 9 fc,IV.nilslice,IV.nilslice,IV.nilslice,iI 0,iI 0]
def pH(v:Int):=[iI v]
def sU(v:Int)(h2:Heap):=h2.push (IObj.cells (pH v))
def kI:=some (0:Nat)
def oG:=[IV.nilslice,IV.nilslice]
def sV:=TV.l 1 0
def sW:=TV.l 2 0
def sX:=TV.l 5 0
def b2G(h2:Heap):=[IV.hslice (h2.next) 0 1 1]
def d8Q(x_1:Heap×Nat×LwS×FnD):=((2:Nat)-FnD.i (jP x_1))*100+50+((FnD.pc (jP x_1)).length-x_1.2.1)
def d8R(x_2:Heap×Nat×LwS×FnD):=((2:Nat)-FnD.i (eM x_2))*100+0+((FnD.lc (eM x_2)).length-x_2.2.1)
def tW(x_1:Heap×Nat×LwS×FnD):=x_1.2.1
def a9G(ac:List IV):=[IV.vslice kI 4 2 2 ac,IV.nilslice]
def a5J:=TV.v (.int .i64 0)
def b7N(x_2:Heap×Nat×LwS×FnD):=wW ((↑x_2.2.1:Int)+1)
def a9H(ac:List IV)(x_1:Heap×Nat×LwS×FnD):=[IV.vslice kI 4 2 2 ac,FnD.F (jP x_1)]
def a9I(ac:List IV)(x_2:Heap×Nat×LwS×FnD):=[IV.vslice kI 4 2 2 ac,FnD.F (eM x_2)]
def xV:=TV.l 7 0
def b7O(x_2:Heap×Nat×LwS×FnD):=wW ((↑(FnD.i (eM x_2)):Int)+1)
def d8S(ac c189:List IV)(v n191:Int)(h2_1:Heap)(x_2:Heap×Nat×LwS×FnD)(l188:Nat):=[IV.vslice kI 4 2 2 ac,IV.vslice (some (h2_1.next)) 5 1 5 [IV.str (FnD.nm (eM x_2)),iI (↑((FnD.pc (eM x_2)).length):Int),IV.vslice none 0 l188 3 c189,iI v,iI n191]]
def b7P(x_1:Heap×Nat×LwS×FnD):=wW ((↑(tW x_1):Int)+1)
abbrev c8B(x_2:Heap×Nat×LwS×FnD):=(↑x_2.2.1:Int)< (↑((FnD.lc (eM x_2)).length):Int)
def xW(e33:Nat):=IObj.tip (e33+1)
def xX(e57:Nat):=IObj.tip (e57+1)
abbrev c8C(x_1:Heap×Nat×LwS×FnD):=(↑(tW x_1):Int)< (↑((FnD.pc (jP x_1)).length):Int)
def d8T(ac c195 c200:List IV)(v n202:Int)(x_2:Heap×Nat×LwS×FnD)(i192 e193 l194 l199:Nat):=[IV.vslice kI 4 2 2 ac,IV.vslice (some i192) (e193+5) (l194+1) 5 (c195++ [IV.str (FnD.nm (eM x_2)),iI (↑((FnD.pc (eM x_2)).length):Int),IV.vslice none 0 l199 3 c200,iI v,iI n202])]
def b7Q(h2_1:Heap):=h2_1.push (IObj.tip (5:Nat))
def d8U:=PT.node PT.nil (some (IObj.tip (4:Nat))) PT.nil
def b7R(ac fc:List IV)(y0:Int)(y1:List IV)(y2:Heap)(y3:Nat):Prop:= ∃(yy:Heap),some sV=some sV/\some sW=some sW/\some sX=some sX/\tI (y0)=some a5J/\some (qZ ac fc)=some (qZ ac fc)/\some oG=some oG/\some (y1)=some (a9G ac)/\y2=yy/\True/\2<y3
def b7S(ac fc:List IV)(y0:Int)(y1:List IV)(y2:Heap)(y3:Nat):Prop:= ∃(yy:Heap×Nat×Nat×List IV),some sV=some sV/\some sW=some sW/\some sX=some sX/\tI (y0)=tI (↑yy.2.1:Int)/\some (qZ ac fc)=some (qZ ac fc)/\some oG=some oG/\some (y1)=some [IV.vslice kI 4 2 2 ac,IV.vslice (some yy.2.2.1) (yy.2.1*5) yy.2.1 5 yy.2.2.2]
 /\y2=yy.1/\LwO yy.1 yy.2.1 yy.2.2.1 yy.2.2.2/\(2:Nat)-yy.2.1<y3
def d8V(M:Nat)(ac fc:List IV)(y0:Int)(y1:IV)(y2 y3:List IV)(y4:Heap):Prop:= ∃(yy:Heap×Nat×LwS×FnD),some sV=some sV/\some sW=some sW/\some sX=some sX/\tI (y0)=tI (↑(FnD.i yy.2.2.2):Int)/\some xV=some xV/\some (TV.v (y1))=some (TV.v (.ptr (LwS.id yy.2.2.1) 0))/\some a5J=tI (↑yy.2.1:Int)/\some (qZ ac fc)=some (qZ ac fc)
 /\some oG=some oG/\some (y2)=some [IV.vslice kI 4 2 2 ac,FnD.F yy.2.2.2]/\some (y3)=some [IV.str (FnD.nm yy.2.2.2),IV.vslice none 1 ((FnD.pc yy.2.2.2).length) 1 (List.map IV.str (FnD.pc yy.2.2.2)),IV.vslice none 1 ((FnD.lc yy.2.2.2).length) 1 (List.map IV.str (FnD.lc yy.2.2.2)),
 IV.vslice none 0 ((FnD.b yy.2.2.2).length) 17 (aX (FnD.b yy.2.2.2)),iI (FnD.ek yy.2.2.2),iI (FnD.en yy.2.2.2),IV.str (FnD.enm yy.2.2.2),iI (FnD.eop yy.2.2.2),IV.vslice none 0 ((FnD.eks yy.2.2.2).length) 5 (aW (FnD.eks yy.2.2.2))]/\y4=yy.1/\LwP ac fc yy.1 yy.2.1 yy.2.2.2 yy.2.2.1
 /\((2:Nat)-FnD.i yy.2.2.2)*100+50+((FnD.pc yy.2.2.2).length-yy.2.1)<=M
def xY(ac fc:List IV)(y0 y2:Int)(y1:IV)(y3 y4:List IV)(y5:Heap)(y6:Nat):Prop:= ∃(yy:Heap×Nat×LwS×FnD),some sV=some sV/\some sW=some sW/\some sX=some sX/\tI (y0)=tI (↑(FnD.i yy.2.2.2):Int)/\some xV=some xV/\some (TV.v (y1))=some (TV.v (.ptr (LwS.id yy.2.2.1) 0))/\tI (y2)=tI (↑yy.2.1:Int)/\some (qZ ac fc)=some (qZ ac fc)
 /\some oG=some oG/\some (y3)=some [IV.vslice kI 4 2 2 ac,FnD.F yy.2.2.2]/\some (y4)=some [IV.str (FnD.nm yy.2.2.2),IV.vslice none 1 ((FnD.pc yy.2.2.2).length) 1 (List.map IV.str (FnD.pc yy.2.2.2)),IV.vslice none 1 ((FnD.lc yy.2.2.2).length) 1 (List.map IV.str (FnD.lc yy.2.2.2)),
 IV.vslice none 0 ((FnD.b yy.2.2.2).length) 17 (aX (FnD.b yy.2.2.2)),iI (FnD.ek yy.2.2.2),iI (FnD.en yy.2.2.2),IV.str (FnD.enm yy.2.2.2),iI (FnD.eop yy.2.2.2),IV.vslice none 0 ((FnD.eks yy.2.2.2).length) 5 (aW (FnD.eks yy.2.2.2))]/\y5=yy.1/\LwP ac fc yy.1 yy.2.1 yy.2.2.2 yy.2.2.1
 /\((2:Nat)-FnD.i yy.2.2.2)*100+50+((FnD.pc yy.2.2.2).length-yy.2.1)<y6
def d8W(M:Nat)(ac fc:List IV)(y0:Int)(y1:IV)(y2 y3:List IV)(y4:Heap):Prop:= ∃(yy:Heap×Nat×LwS×FnD),some sV=some sV/\some sW=some sW/\some sX=some sX/\tI (y0)=tI (↑(FnD.i yy.2.2.2):Int)/\some xV=some xV/\some (TV.v (y1))=some (TV.v (.ptr (LwS.id yy.2.2.1) 0))/\some a5J=tI (↑yy.2.1:Int)/\some (qZ ac fc)=some (qZ ac fc)
 /\some oG=some oG/\some (y2)=some [IV.vslice kI 4 2 2 ac,FnD.F yy.2.2.2]/\some (y3)=some [IV.str (FnD.nm yy.2.2.2),IV.vslice none 1 ((FnD.pc yy.2.2.2).length) 1 (List.map IV.str (FnD.pc yy.2.2.2)),IV.vslice none 1 ((FnD.lc yy.2.2.2).length) 1 (List.map IV.str (FnD.lc yy.2.2.2)),
 IV.vslice none 0 ((FnD.b yy.2.2.2).length) 17 (aX (FnD.b yy.2.2.2)),iI (FnD.ek yy.2.2.2),iI (FnD.en yy.2.2.2),IV.str (FnD.enm yy.2.2.2),iI (FnD.eop yy.2.2.2),IV.vslice none 0 ((FnD.eks yy.2.2.2).length) 5 (aW (FnD.eks yy.2.2.2))]/\y4=yy.1/\LwQ ac fc yy.1 yy.2.1 yy.2.2.2 yy.2.2.1
 /\((2:Nat)-FnD.i yy.2.2.2)*100+0+((FnD.lc yy.2.2.2).length-yy.2.1)<=M
def xZ(ac fc:List IV)(y0 y2:Int)(y1:IV)(y3 y4:List IV)(y5:Heap)(y6:Nat):Prop:= ∃(yy:Heap×Nat×LwS×FnD),some sV=some sV/\some sW=some sW/\some sX=some sX/\tI (y0)=tI (↑(FnD.i yy.2.2.2):Int)/\some xV=some xV/\some (TV.v (y1))=some (TV.v (.ptr (LwS.id yy.2.2.1) 0))/\tI (y2)=tI (↑yy.2.1:Int)/\some (qZ ac fc)=some (qZ ac fc)
 /\some oG=some oG/\some (y3)=some [IV.vslice kI 4 2 2 ac,FnD.F yy.2.2.2]/\some (y4)=some [IV.str (FnD.nm yy.2.2.2),IV.vslice none 1 ((FnD.pc yy.2.2.2).length) 1 (List.map IV.str (FnD.pc yy.2.2.2)),IV.vslice none 1 ((FnD.lc yy.2.2.2).length) 1 (List.map IV.str (FnD.lc yy.2.2.2)),
 IV.vslice none 0 ((FnD.b yy.2.2.2).length) 17 (aX (FnD.b yy.2.2.2)),iI (FnD.ek yy.2.2.2),iI (FnD.en yy.2.2.2),IV.str (FnD.enm yy.2.2.2),iI (FnD.eop yy.2.2.2),IV.vslice none 0 ((FnD.eks yy.2.2.2).length) 5 (aW (FnD.eks yy.2.2.2))]/\y5=yy.1/\LwQ ac fc yy.1 yy.2.1 yy.2.2.2 yy.2.2.1
 /\((2:Nat)-FnD.i yy.2.2.2)*100+0+((FnD.lc yy.2.2.2).length-yy.2.1)<y6
theorem g8C(ac fc:List IV)(h:Heap)(Q:KT):dF (aV f5Y) env 33 dV (icA 7 (lwO ac fc h) (icA 1000013 (lwP ac fc h) (tK 1000018 (lwQ ac fc h)))) bT [.agg [.vslice none 0 2 2 ac,.vslice none 0 2 9 fc]] h Q=(
 aC (aN [IV.agg (qZ ac fc)]) (qG ac fc/\((∃(x:Heap),some sV=some sV/\some sW=some sW/\some sX=some sX/\some a5J=some a5J/\some (qZ ac fc)=some (qZ ac fc)/\some oG=some oG/\some (a9G ac)=some (a9G ac)/\Heap.mk d8U ((0:Nat)+1)=x/\True/\True) \/ ∃(x:Heap×Nat×Nat×List IV),some sV=some sV/\some sW=some sW/\some sX=some sX/\some a5J=tI (↑x.2.1:Int)/\some (qZ ac fc)=some (qZ ac fc)/\some oG=some oG/\some (a9G ac)=some [IV.vslice kI (4:Nat) (2:Nat) (2:Nat) ac,IV.vslice (some x.2.2.1) (x.2.1*5) x.2.1 5 x.2.2.2]/\Heap.mk d8U ((0:Nat)+1)=x.1/\LwO x.1 x.2.1 (x.2.2.1) x.2.2.2/\True)/\(∀(x:Heap)(b:FF),True->bZ fc 0 fun(s0:List UInt8)=>bH 1 fc 1 fun(i1:Option Nat)(e2 l3:Nat)(c4:List IV)=>bH 1 fc 2 fun(i5:Option Nat)(e6 l7:Nat)(c8:List IV)=>bH 17 fc 3 fun(i9:Option Nat)(e10 l11:Nat)(c12:List IV)=>aK .i64 fc 4 fun n13=>aK .i64 fc 5 fun n14=>bZ fc 6 fun(s15:List UInt8)=>aK .i64 fc 7 fun n16=>bH 5 fc 8 fun(i17:Option Nat)(e18 l19:Nat)(c20:List IV)=> ∃(p:PSt),bI (x.push (d8P ac fc)) (x.next) p (26:Int) (0:Int) (0:Nat) []/\∀(v:Int)(h2:Heap),aQ (x.push (d8P ac fc)) (x.next) p (26:Int) (0:Int) v h2->aF h2 (x.next) fun(r21:List IV)=>aC (Nat.ble 6 r21.length) (∃(M:Nat),(d8V M ac fc (0:Int) (IV.ptr (x.next) 0) (a9G ac) [IV.str s0,IV.vslice i1 e2 l3 1 c4,IV.vslice i5 e6 l7 1 c8,IV.vslice i9 e10 l11 17 c12,iI n13,iI n14,IV.str s15,iI n16,IV.vslice i17 e18 l19 5 c20] (h2.set (x.next) (IObj.cells (List.take 5 r21++(pH v)++List.drop 6 r21))))/\∀(x:Heap×Nat×LwS×FnD)(b:FF),LwP ac fc x.1 x.2.1 x.2.2.2 x.2.2.1->((2:Nat)-FnD.i x.2.2.2)*100+50+((FnD.pc x.2.2.2).length-x.2.1)<=M->aM (decide ((↑x.2.1:Int)< (↑((FnD.pc (((x.2).2).2)).length):Int))) (aF x.1 (LwS.id x.2.2.1) fun r22=>cK 1 r22 3 (aC (decide (0<=(↑x.2.1:Int)) &&decide ((↑x.2.1:Int)< (↑((FnD.pc x.2.2.2).length):Int))) (bZ (List.map IV.str (FnD.pc x.2.2.2)) ((↑x.2.1:Int).toNat*1) fun(s23:List UInt8)=>aF (x.1.push oF) (LwS.id x.2.2.1) fun r24=>aC (Nat.ble 4 (r24.length)) (aF ((x.1.push oF).set (LwS.id x.2.2.1) (IObj.cells (List.take 3 r24++ [IV.vslice (some (x.1.next)) 1 1 1 [IV.str s23]]++List.drop 4 r24))) (LwS.id x.2.2.1) fun(r25:List IV)=>cT 1 r25 4 (∃(p:PSt),bI ((x.1.push oF).set (LwS.id x.2.2.1) (IObj.cells (List.take 3 r24++ [IV.vslice (some (x.1.next)) 1 1 1 [IV.str s23]]++List.drop 4 r24))) (LwS.id x.2.2.1) p (2:Int) (↑x.2.1:Int) (0:Nat) []/\∀(v:Int)(h2:Heap),aQ ((x.1.push oF).set (LwS.id x.2.2.1) (IObj.cells (List.take 3 r24++ [IV.vslice (some ((x.1).next)) 1 1 1 [IV.str s23]]++List.drop 4 r24))) (LwS.id x.2.2.1) p (2:Int) (↑x.2.1:Int) v h2->aY h2 (LwS.id x.2.2.1) (4:Nat)=aY ((x.1.push oF).set (LwS.id (x.2.2.1)) (IObj.cells (List.take 3 r24++ [IV.vslice (some (x.1.next)) 1 1 1 [IV.str s23]]++List.drop 4 r24))) (LwS.id x.2.2.1) (4:Nat)/\aF (sU v h2) (LwS.id x.2.2.1) fun r26=>aC (Nat.ble 5 r26.length) (xY ac fc (↑(FnD.i x.2.2.2):Int) (wW ((↑x.2.1:Int)+1)) (IV.ptr (LwS.id x.2.2.1) 0) [IV.vslice kI 4 2 2 ac,FnD.F x.2.2.2] [IV.str (FnD.nm x.2.2.2),IV.vslice none 1 ((FnD.pc x.2.2.2).length) 1 (List.map IV.str (FnD.pc x.2.2.2)),IV.vslice none 1 ((FnD.lc x.2.2.2).length) 1 (List.map IV.str (FnD.lc x.2.2.2)),IV.vslice none 0 ((FnD.b x.2.2.2).length) 17 (aX (FnD.b x.2.2.2)),iI (FnD.ek ((x.2.2).2)),iI (FnD.en x.2.2.2),IV.str (FnD.enm x.2.2.2),iI (FnD.eop x.2.2.2),IV.vslice none 0 ((FnD.eks x.2.2.2).length) 5 (aW (FnD.eks x.2.2.2))] ((sU v h2).set (LwS.id x.2.2.1) (IObj.cells (List.take 4 r26++(b2G h2)++List.drop 5 r26))) (((2:Nat)-FnD.i x.2.2.2)*100+50+((FnD.pc ((x.2.2).2)).length-x.2.1)))) fun(i27 o28 l29:Nat)=> ∃(p:PSt),bI ((x.1.push oF).set (LwS.id x.2.2.1) (IObj.cells (List.take 3 r24++ [IV.vslice (some (x.1.next)) 1 1 1 [IV.str s23]]++List.drop 4 r24))) (LwS.id x.2.2.1) p (2:Int) (↑x.2.1:Int) (0:Nat) []/\∀(v:Int)(h2:Heap),aQ ((x.1.push oF).set (LwS.id x.2.2.1) (IObj.cells (List.take 3 r24++ [IV.vslice (some (x.1.next)) (1:Nat) (1:Nat) 1 [IV.str s23]]++List.drop 4 r24))) (LwS.id x.2.2.1) p (2:Int) (↑x.2.1:Int) v h2->aY h2 (LwS.id x.2.2.1) (4:Nat)=aY (((x.1).push oF).set (LwS.id x.2.2.1) (IObj.cells (List.take 3 r24++ [IV.vslice (some (x.1.next)) 1 1 1 [IV.str s23]]++List.drop 4 r24))) (LwS.id x.2.2.1) (4:Nat)/\aF h2 i27 fun r30=>aC (Nat.beq o28 (0:Nat) && (Nat.ble (l29*1) r30.length&&Nat.ble ((l29+1)*8) (140737488355328:Nat))) (aF ((h2.set i27 IObj.dead).push (IObj.cells (List.take (l29*1) r30++(pH v)))) (LwS.id x.2.2.1) fun(r31:List IV)=>aC (Nat.ble 5 r31.length) (xY ac fc (↑(FnD.i x.2.2.2):Int) (wW ((↑x.2.1:Int)+1)) (IV.ptr (LwS.id x.2.2.1) 0) [IV.vslice kI 4 2 (2:Nat) ac,FnD.F x.2.2.2] [IV.str (FnD.nm x.2.2.2),IV.vslice none 1 ((FnD.pc x.2.2.2).length) 1 (List.map IV.str (FnD.pc x.2.2.2)),IV.vslice none 1 ((FnD.lc x.2.2.2).length) 1 (List.map IV.str (FnD.lc x.2.2.2)),IV.vslice none 0 ((FnD.b x.2.2.2).length) 17 (aX (FnD.b x.2.2.2)),iI (FnD.ek (((x.2).2).2)),iI (FnD.en x.2.2.2),IV.str (FnD.enm x.2.2.2),iI (FnD.eop x.2.2.2),IV.vslice none 0 ((FnD.eks x.2.2.2).length) 5 (aW (FnD.eks (x.2.2.2)))] (((h2.set i27 IObj.dead).push (IObj.cells (List.take (l29*1) r30++(pH v)))).set (LwS.id x.2.2.1) (IObj.cells (List.take 4 r31++ [IV.hslice (h2.next) 0 (l29+1) 1]++List.drop (5:Nat) r31))) (((2:Nat)-FnD.i x.2.2.2)*100+50+((FnD.pc x.2.2.2).length-x.2.1))))))) fun(i32 e33 l34:Nat)(c35:List IV)=>aC (decide (0<=(↑x.2.1:Int)) &&decide ((↑x.2.1:Int)< (↑((FnD.pc x.2.2.2).length):Int))) (bZ (List.map IV.str (FnD.pc x.2.2.2)) ((↑x.2.1:Int).toNat*1) fun(s36:List UInt8)=>dG x.1 i32 fun(m37:Nat)=>aC (Nat.beq m37 e33&&Nat.ble ((l34+1)*16) (140737488355328:Nat)) (aF (x.1.set i32 (xW e33)) (LwS.id x.2.2.1) fun r38=>aC (Nat.ble 4 r38.length) (aF ((x.1.set i32 (xW e33)).set (LwS.id x.2.2.1) (b7L i32 e33 l34 c35 r38 s36)) (LwS.id x.2.2.1) fun r39=>cT 1 r39 4 (∃(p:PSt),bI ((x.1.set i32 (xW e33)).set (LwS.id x.2.2.1) (b7L i32 e33 l34 c35 r38 s36)) (LwS.id x.2.2.1) p (2:Int) (↑x.2.1:Int) (0:Nat) []/\∀(v:Int)(h2:Heap),aQ ((x.1.set i32 (xW e33)).set (LwS.id x.2.2.1) (b7L i32 e33 l34 c35 r38 s36)) (LwS.id ((x.2.2).1)) p (2:Int) (↑x.2.1:Int) v h2->aY h2 (LwS.id x.2.2.1) (4:Nat)=aY ((x.1.set i32 (xW e33)).set (LwS.id x.2.2.1) (b7L i32 e33 l34 c35 r38 s36)) (LwS.id (((x.2).2).1)) (4:Nat)/\aF (sU v h2) (LwS.id x.2.2.1) fun r40=>aC (Nat.ble 5 r40.length) (xY ac fc (↑(FnD.i x.2.2.2):Int) (wW ((↑x.2.1:Int)+1)) (IV.ptr (LwS.id x.2.2.1) 0) [IV.vslice kI 4 2 2 ac,FnD.F x.2.2.2] [IV.str (FnD.nm x.2.2.2),IV.vslice none 1 ((FnD.pc x.2.2.2).length) 1 (List.map IV.str (FnD.pc x.2.2.2)),IV.vslice none 1 ((FnD.lc x.2.2.2).length) 1 (List.map IV.str (FnD.lc x.2.2.2)),IV.vslice none 0 ((FnD.b x.2.2.2).length) 17 (aX (FnD.b x.2.2.2)),iI (FnD.ek x.2.2.2),iI (FnD.en x.2.2.2),IV.str (FnD.enm x.2.2.2),iI (FnD.eop x.2.2.2),IV.vslice none (0:Nat) ((FnD.eks x.2.2.2).length) 5 (aW (FnD.eks x.2.2.2))] ((sU v h2).set (LwS.id x.2.2.1) (IObj.cells (List.take 4 r40++(b2G h2)++List.drop 5 r40))) (((2:Nat)-FnD.i (x.2.2.2))*100+50+((FnD.pc x.2.2.2).length-x.2.1)))) fun(i41 o42 l43:Nat)=> ∃(p:PSt),bI ((x.1.set i32 (xW e33)).set (LwS.id x.2.2.1) (b7L i32 e33 l34 c35 r38 s36)) (LwS.id x.2.2.1) p (2:Int) (↑x.2.1:Int) (0:Nat) []/\∀(v:Int)(h2:Heap),aQ ((x.1.set i32 (xW e33)).set (LwS.id x.2.2.1) (b7L i32 e33 l34 c35 r38 s36)) (LwS.id ((x.2.2).1)) p (2:Int) (↑x.2.1:Int) v h2->aY h2 (LwS.id x.2.2.1) (4:Nat)=aY ((x.1.set i32 (xW e33)).set (LwS.id x.2.2.1) (b7L i32 e33 l34 c35 r38 s36)) (LwS.id (((x.2).2).1)) (4:Nat)/\aF h2 i41 fun r44=>aC (Nat.beq o42 (0:Nat) && (Nat.ble (l43*1) r44.length&&Nat.ble ((l43+1)*8) (140737488355328:Nat))) (aF ((h2.set i41 IObj.dead).push (IObj.cells (List.take (l43*1) r44++(pH v)))) (LwS.id x.2.2.1) fun r45=>aC (Nat.ble 5 r45.length) (xY ac fc (↑(FnD.i x.2.2.2):Int) (wW ((↑x.2.1:Int)+1)) (IV.ptr (LwS.id x.2.2.1) 0) [IV.vslice kI 4 2 2 ac,FnD.F x.2.2.2] [IV.str (FnD.nm x.2.2.2),IV.vslice none 1 ((FnD.pc x.2.2.2).length) 1 (List.map IV.str (FnD.pc (((x.2).2).2))),IV.vslice none 1 ((FnD.lc x.2.2.2).length) 1 (List.map IV.str (FnD.lc x.2.2.2)),IV.vslice none 0 ((FnD.b x.2.2.2).length) 17 (aX (FnD.b x.2.2.2)),iI (FnD.ek x.2.2.2),iI (FnD.en x.2.2.2),IV.str (FnD.enm x.2.2.2),iI (FnD.eop x.2.2.2),IV.vslice none 0 ((FnD.eks (x.2.2.2)).length) 5 (aW (FnD.eks x.2.2.2))] (((h2.set i41 IObj.dead).push (IObj.cells (List.take (l43*1) r44++(pH v)))).set (LwS.id x.2.2.1) (IObj.cells (List.take 4 r45++ [IV.hslice (h2.next) 0 (l43+1) 1]++List.drop 5 r45))) (((2:Nat)-FnD.i x.2.2.2)*100+50+((FnD.pc x.2.2.2).length-x.2.1)))))))) (∃(M:Nat),(d8W M ac fc (↑(FnD.i ((x.2.2).2)):Int) (IV.ptr (LwS.id x.2.2.1) 0) [IV.vslice kI 4 2 2 ac,FnD.F x.2.2.2] [IV.str (FnD.nm x.2.2.2),IV.vslice none 1 ((FnD.pc (((x.2).2).2)).length) 1 (List.map IV.str (FnD.pc x.2.2.2)),IV.vslice none 1 ((FnD.lc x.2.2.2).length) 1 (List.map IV.str (FnD.lc x.2.2.2)),IV.vslice none 0 ((FnD.b ((x.2.2).2)).length) 17 (aX (FnD.b x.2.2.2)),iI (FnD.ek x.2.2.2),iI (FnD.en x.2.2.2),IV.str (FnD.enm x.2.2.2),iI (FnD.eop ((x.2.2).2)),IV.vslice none 0 ((FnD.eks x.2.2.2).length) 5 (aW (FnD.eks x.2.2.2))] x.1)/\∀(x:Heap×Nat×LwS×FnD)(b:FF),LwQ ac fc x.1 x.2.1 x.2.2.2 x.2.2.1->((2:Nat)-FnD.i x.2.2.2)*100+0+((FnD.lc x.2.2.2).length-x.2.1)<=M->aM (decide ((↑x.2.1:Int)< (↑((FnD.lc (((x.2).2).2)).length):Int))) (aF x.1 (LwS.id x.2.2.1) fun r46=>cK 1 r46 3 (aC (decide (0<=(↑x.2.1:Int)) &&decide ((↑x.2.1:Int)< (↑((FnD.lc x.2.2.2).length):Int))) (bZ (List.map IV.str (FnD.lc x.2.2.2)) ((↑x.2.1:Int).toNat*1) fun(s47:List UInt8)=>aF (x.1.push oF) (LwS.id x.2.2.1) fun r48=>aC (Nat.ble 4 (r48.length)) (aF ((x.1.push oF).set (LwS.id x.2.2.1) (IObj.cells (List.take 3 r48++ [IV.vslice (some (x.1.next)) 1 1 1 [IV.str s47]]++List.drop 4 r48))) (LwS.id x.2.2.1) fun(r49:List IV)=>cT 1 r49 4 (∃(p:PSt),bI ((x.1.push oF).set (LwS.id x.2.2.1) (IObj.cells (List.take 3 r48++ [IV.vslice (some (x.1.next)) 1 1 1 [IV.str s47]]++List.drop 4 r48))) (LwS.id x.2.2.1) p (1:Int) (0:Int) (0:Nat) []/\∀(v:Int)(h2:Heap),aQ ((x.1.push oF).set (LwS.id x.2.2.1) (IObj.cells (List.take 3 r48++ [IV.vslice (some (x.1.next)) 1 (1:Nat) 1 [IV.str s47]]++List.drop 4 r48))) (LwS.id x.2.2.1) p (1:Int) (0:Int) v h2->aY h2 (LwS.id x.2.2.1) (4:Nat)=aY ((x.1.push oF).set (LwS.id x.2.2.1) (IObj.cells (List.take 3 r48++ [IV.vslice (some (x.1.next)) 1 1 1 [IV.str s47]]++List.drop 4 r48))) (LwS.id x.2.2.1) (4:Nat)/\aF (sU v h2) (LwS.id x.2.2.1) fun r50=>aC (Nat.ble (5:Nat) r50.length) (xZ ac fc (↑(FnD.i x.2.2.2):Int) (wW ((↑x.2.1:Int)+1)) (IV.ptr (LwS.id x.2.2.1) 0) [IV.vslice kI 4 2 2 ac,FnD.F ((x.2.2).2)] [IV.str (FnD.nm x.2.2.2),IV.vslice none 1 ((FnD.pc x.2.2.2).length) 1 (List.map IV.str (FnD.pc x.2.2.2)),IV.vslice none 1 ((FnD.lc (((x.2).2).2)).length) 1 (List.map IV.str (FnD.lc x.2.2.2)),IV.vslice none 0 ((FnD.b x.2.2.2).length) 17 (aX (FnD.b x.2.2.2)),iI (FnD.ek x.2.2.2),iI (FnD.en x.2.2.2),IV.str (FnD.enm x.2.2.2),iI (FnD.eop x.2.2.2),IV.vslice none 0 ((FnD.eks x.2.2.2).length) 5 (aW (FnD.eks (((x.2).2).2)))] ((sU v h2).set (LwS.id x.2.2.1) (IObj.cells (List.take 4 r50++(b2G h2)++List.drop 5 r50))) (((2:Nat)-FnD.i x.2.2.2)*100+0+((FnD.lc x.2.2.2).length-x.2.1)))) fun(i51 o52 l53:Nat)=> ∃(p:PSt),bI ((x.1.push oF).set (LwS.id x.2.2.1) (IObj.cells (List.take 3 r48++ [IV.vslice (some (x.1.next)) 1 1 1 [IV.str s47]]++List.drop 4 r48))) (LwS.id x.2.2.1) p (1:Int) (0:Int) (0:Nat) []/\∀(v:Int)(h2:Heap),aQ ((x.1.push oF).set (LwS.id x.2.2.1) (IObj.cells (List.take 3 r48++ [IV.vslice (some (x.1.next)) 1 1 1 [IV.str s47]]++List.drop 4 r48))) (LwS.id x.2.2.1) p (1:Int) (0:Int) v h2->aY h2 (LwS.id x.2.2.1) (4:Nat)=aY ((x.1.push oF).set (LwS.id x.2.2.1) (IObj.cells (List.take (3:Nat) r48++ [IV.vslice (some (x.1.next)) 1 1 1 [IV.str s47]]++List.drop 4 r48))) (LwS.id x.2.2.1) (4:Nat)/\aF h2 i51 fun r54=>aC (Nat.beq o52 (0:Nat) && (Nat.ble (l53*1) r54.length&&Nat.ble ((l53+1)*8) (140737488355328:Nat))) (aF ((h2.set i51 IObj.dead).push (IObj.cells (List.take (l53*1) r54++(pH v)))) (LwS.id x.2.2.1) fun r55=>aC (Nat.ble 5 r55.length) (xZ ac fc (↑(FnD.i x.2.2.2):Int) (wW ((↑x.2.1:Int)+1)) (IV.ptr (LwS.id x.2.2.1) 0) [IV.vslice kI 4 2 2 ac,FnD.F x.2.2.2] [IV.str (FnD.nm ((x.2.2).2)),IV.vslice none 1 ((FnD.pc x.2.2.2).length) 1 (List.map IV.str (FnD.pc x.2.2.2)),IV.vslice none 1 ((FnD.lc x.2.2.2).length) 1 (List.map IV.str (FnD.lc (x.2.2.2))),IV.vslice none 0 ((FnD.b x.2.2.2).length) 17 (aX (FnD.b x.2.2.2)),iI (FnD.ek x.2.2.2),iI (FnD.en x.2.2.2),IV.str (FnD.enm x.2.2.2),iI (FnD.eop x.2.2.2),IV.vslice none 0 ((FnD.eks x.2.2.2).length) 5 (aW (FnD.eks x.2.2.2))] (((h2.set i51 IObj.dead).push (IObj.cells (List.take (l53*1) r54++(pH v)))).set (LwS.id x.2.2.1) (IObj.cells (List.take 4 r55++ [IV.hslice (h2.next) 0 (l53+1) 1]++List.drop 5 r55))) (((2:Nat)-FnD.i x.2.2.2)*(100:Nat)+0+((FnD.lc x.2.2.2).length-x.2.1))))))) fun(i56 e57 l58:Nat)(c59:List IV)=>aC (decide (0<=(↑x.2.1:Int)) &&decide ((↑x.2.1:Int)< (↑((FnD.lc ((x.2.2).2)).length):Int))) (bZ (List.map IV.str (FnD.lc x.2.2.2)) ((↑x.2.1:Int).toNat*1) fun(s60:List UInt8)=>dG x.1 i56 fun(m61:Nat)=>aC (Nat.beq m61 e57&&Nat.ble ((l58+1)*16) (140737488355328:Nat)) (aF (x.1.set i56 (xX e57)) (LwS.id x.2.2.1) fun r62=>aC (Nat.ble 4 r62.length) (aF ((x.1.set i56 (xX e57)).set (LwS.id x.2.2.1) (b7M i56 e57 l58 c59 r62 s60)) (LwS.id x.2.2.1) fun r63=>cT 1 r63 4 (∃(p:PSt),bI ((x.1.set i56 (xX e57)).set (LwS.id x.2.2.1) (b7M i56 e57 l58 c59 r62 s60)) (LwS.id x.2.2.1) p (1:Int) (0:Int) (0:Nat) []/\∀(v:Int)(h2:Heap),aQ ((x.1.set i56 (xX e57)).set (LwS.id x.2.2.1) (b7M i56 e57 l58 c59 r62 s60)) (LwS.id x.2.2.1) p (1:Int) (0:Int) v h2->aY h2 (LwS.id x.2.2.1) (4:Nat)=aY ((x.1.set i56 (xX e57)).set (LwS.id x.2.2.1) (b7M i56 e57 l58 c59 r62 s60)) (LwS.id x.2.2.1) (4:Nat)/\aF (sU v h2) (LwS.id x.2.2.1) fun r64=>aC (Nat.ble (5:Nat) r64.length) (xZ ac fc (↑(FnD.i x.2.2.2):Int) (wW ((↑x.2.1:Int)+1)) (IV.ptr (LwS.id x.2.2.1) 0) [IV.vslice kI 4 2 2 ac,FnD.F ((x.2.2).2)] [IV.str (FnD.nm x.2.2.2),IV.vslice none 1 ((FnD.pc x.2.2.2).length) 1 (List.map IV.str (FnD.pc x.2.2.2)),IV.vslice none 1 ((FnD.lc (((x.2).2).2)).length) 1 (List.map IV.str (FnD.lc x.2.2.2)),IV.vslice none 0 ((FnD.b x.2.2.2).length) 17 (aX (FnD.b x.2.2.2)),iI (FnD.ek x.2.2.2),iI (FnD.en x.2.2.2),IV.str (FnD.enm x.2.2.2),iI (FnD.eop x.2.2.2),IV.vslice none 0 ((FnD.eks x.2.2.2).length) 5 (aW (FnD.eks (((x.2).2).2)))] ((sU v h2).set (LwS.id x.2.2.1) (IObj.cells (List.take 4 r64++(b2G h2)++List.drop 5 r64))) (((2:Nat)-FnD.i x.2.2.2)*100+0+((FnD.lc x.2.2.2).length-x.2.1)))) fun(i65 o66 l67:Nat)=> ∃(p:PSt),bI ((x.1.set i56 (xX e57)).set (LwS.id x.2.2.1) (b7M i56 e57 l58 c59 r62 s60)) (LwS.id x.2.2.1) p (1:Int) (0:Int) (0:Nat) []/\∀(v:Int)(h2:Heap),aQ ((x.1.set i56 (xX e57)).set (LwS.id x.2.2.1) (b7M i56 e57 l58 c59 r62 s60)) (LwS.id x.2.2.1) p (1:Int) (0:Int) v h2->aY h2 (LwS.id x.2.2.1) (4:Nat)=aY (((x.1).set i56 (xX e57)).set (LwS.id x.2.2.1) (b7M i56 e57 l58 c59 r62 s60)) (LwS.id x.2.2.1) (4:Nat)/\aF h2 i65 fun r68=>aC (Nat.beq o66 (0:Nat) && (Nat.ble (l67*1) r68.length&&Nat.ble ((l67+1)*(8:Nat)) (140737488355328:Nat))) (aF ((h2.set i65 IObj.dead).push (IObj.cells (List.take (l67*1) r68++(pH v)))) (LwS.id x.2.2.1) fun r69=>aC (Nat.ble 5 r69.length) (xZ ac fc (↑(FnD.i (((x.2).2).2)):Int) (wW ((↑x.2.1:Int)+1)) (IV.ptr (LwS.id x.2.2.1) 0) [IV.vslice kI 4 2 2 ac,FnD.F x.2.2.2] [IV.str (FnD.nm x.2.2.2),IV.vslice none (1:Nat) ((FnD.pc x.2.2.2).length) (1:Nat) (List.map IV.str (FnD.pc x.2.2.2)),IV.vslice none 1 ((FnD.lc x.2.2.2).length) 1 (List.map IV.str (FnD.lc x.2.2.2)),IV.vslice none 0 ((FnD.b x.2.2.2).length) 17 (aX (FnD.b x.2.2.2)),iI (FnD.ek x.2.2.2),iI (FnD.en x.2.2.2),IV.str (FnD.enm ((x.2.2).2)),iI (FnD.eop x.2.2.2),IV.vslice none 0 ((FnD.eks x.2.2.2).length) 5 (aW (FnD.eks x.2.2.2))] (((h2.set i65 IObj.dead).push (IObj.cells (List.take (l67*(1:Nat)) r68++(pH v)))).set (LwS.id x.2.2.1) (IObj.cells (List.take 4 r69++ [IV.hslice (h2.next) 0 (l67+1) 1]++List.drop 5 r69))) (((2:Nat)-FnD.i x.2.2.2)*100+0+((FnD.lc x.2.2.2).length-x.2.1)))))))) (∃(d:Nat),∃(l:List M10.S),∃(s:BSt),((FnD.b x.2.2.2).length=l.length/\aX (FnD.b x.2.2.2)=aX l)/\(StPre x.1 (LwS.id ((x.2.2).1)) s l/\(3:Nat)*Ss.cnt l+2<d)/\∀(s2:BSt)(h2:Heap),BW x.1 (LwS.id x.2.2.1) s h2 s2 (Ss.cost l) (Ss.whl l)-> ∃(d:Nat),∃(ks:List E),∃(s:BSt),((FnD.eks x.2.2.2).length=ks.length/\aW (FnD.eks x.2.2.2)=aW ks)/\ExPre h2 (LwS.id x.2.2.1) s d (FnD.ek x.2.2.2) (FnD.en x.2.2.2) (FnD.enm x.2.2.2) (FnD.eop x.2.2.2) ks/\∀(v:Int)(h2_1:Heap),dR h2 (LwS.id x.2.2.1) s (E.mk (FnD.ek x.2.2.2) (FnD.en x.2.2.2) (FnD.enm x.2.2.2) (FnD.eop x.2.2.2) ks) v h2_1->aF h2_1 (LwS.id (x.2.2.1)) fun r70=>bH 3 r70 2 fun(i71:Option Nat)(e72 l73:Nat)(c74:List IV)=>aM (decide ((↑l73:Int)>2000)) (bH 2 oG 0 fun(i75:Option Nat)(e76 l77:Nat)(c78:List IV)=>bH 5 oG 1 fun(i79:Option Nat)(e80 l81:Nat)(c82:List IV)=>aC (aN [IV.agg [.vslice none 0 l77 2 c78,IV.vslice none 0 l81 5 c82],iI 6]) (Q (.tuple [.agg [.vslice none 0 l77 2 c78,IV.vslice none 0 l81 5 c82],iI 6]) h)) (cK 5 [IV.vslice kI 4 2 2 ac,FnD.F x.2.2.2] 1 (aF h2_1 (LwS.id x.2.2.1) fun r83=>bH 3 r83 2 fun(i84:Option Nat)(e85 l86:Nat)(c87:List IV)=>aF h2_1 (LwS.id x.2.2.1) fun r88=>aK .i64 r88 5 fun n89=>(b7R ac fc (wW ((↑(FnD.i x.2.2.2):Int)+1)) [IV.vslice kI 4 2 2 ac,IV.vslice (some (h2_1.next)) 5 1 5 [IV.str (FnD.nm x.2.2.2),iI (↑((FnD.pc x.2.2.2).length):Int),IV.vslice none 0 l86 3 c87,iI v,iI n89]] (b7Q h2_1) (2:Nat)) \/b7S ac fc (wW ((↑(FnD.i x.2.2.2):Int)+1)) [IV.vslice kI 4 2 2 ac,IV.vslice (some (h2_1.next)) 5 1 5 [IV.str (FnD.nm x.2.2.2),iI (↑((FnD.pc x.2.2.2).length):Int),IV.vslice none 0 l86 3 c87,iI v,iI n89]] (b7Q h2_1) (2:Nat)) fun(i90 e91 l92:Nat)(c93:List IV)=>aF h2_1 (LwS.id x.2.2.1) fun(r94:List IV)=>bH 3 r94 2 fun(i95:Option Nat)(e96 l97:Nat)(c98:List IV)=>aF h2_1 (LwS.id x.2.2.1) fun r99=>aK .i64 r99 5 fun n100=>dG h2_1 i90 fun(m101:Nat)=>aC (Nat.beq m101 e91&&Nat.ble ((l92+(1:Nat))*64) (140737488355328:Nat)) ((b7R ac fc (wW ((↑(FnD.i x.2.2.2):Int)+1)) [IV.vslice kI 4 2 2 ac,IV.vslice (some i90) (e91+5) (l92+1) 5 (c93++ [IV.str (FnD.nm (x.2.2.2)),iI (↑((FnD.pc x.2.2.2).length):Int),IV.vslice none 0 l97 3 c98,iI v,iI n100])] (h2_1.set i90 (IObj.tip (e91+5))) (2:Nat)) \/b7S ac fc (wW ((↑(FnD.i x.2.2.2):Int)+1)) [IV.vslice kI 4 2 2 ac,IV.vslice (some i90) (e91+5) (l92+1) 5 (c93++ [IV.str (FnD.nm x.2.2.2),iI (↑((FnD.pc ((x.2.2).2)).length):Int),IV.vslice none 0 l97 3 c98,iI v,iI n100])] (h2_1.set i90 (IObj.tip (e91+5))) (2:Nat)))))))/\∀(x:Heap×Nat×Nat×List IV)(b:FF),LwO x.1 x.2.1 (((x.2).2).1) x.2.2.2->aM (decide ((↑x.2.1:Int)<2)) (aC (decide (0<=(↑x.2.1:Int)) &&decide ((↑x.2.1:Int)<2)) (bZ fc ((↑x.2.1:Int).toNat*9) fun(s102:List UInt8)=>bH 1 fc ((↑x.2.1:Int).toNat*9+1) fun(i103:Option Nat)(e104 l105:Nat)(c106:List IV)=>bH 1 fc ((↑x.2.1:Int).toNat*9+1+1) fun(i107:Option Nat)(e108 l109:Nat)(c110:List IV)=>bH 17 fc ((↑x.2.1:Int).toNat*9+1+1+1) fun(i111:Option Nat)(e112 l113:Nat)(c114:List IV)=>aK .i64 fc ((↑x.2.1:Int).toNat*9+1+1+1+(1:Nat)) fun n115=>aK .i64 fc ((↑x.2.1:Int).toNat*9+1+1+1+1+1) fun n116=>bZ fc ((↑x.2.1:Int).toNat*9+1+1+1+1+(1:Nat)+1) fun(s117:List UInt8)=>aK .i64 fc ((↑x.2.1:Int).toNat*9+1+1+1+1+1+1+1) fun n118=>bH 5 fc ((↑x.2.1:Int).toNat*9+(1:Nat)+1+1+1+1+1+1+1) fun(i119:Option Nat)(e120 l121:Nat)(c122:List IV)=> ∃(p:PSt),bI (x.1.push (d8P ac fc)) (x.1.next) p (26:Int) (0:Int) (0:Nat) []/\∀(v:Int)(h2:Heap),aQ (x.1.push (d8P ac fc)) (x.1.next) p (26:Int) (0:Int) v h2->aF h2 (x.1.next) fun r123=>aC (Nat.ble 6 r123.length) (∃(M:Nat),(d8V M ac fc (↑x.2.1:Int) (IV.ptr (x.1.next) (0:Nat)) [IV.vslice kI 4 2 2 ac,IV.vslice (some x.2.2.1) (x.2.1*5) x.2.1 5 x.2.2.2] [IV.str s102,IV.vslice i103 e104 l105 1 c106,IV.vslice i107 e108 l109 (1:Nat) c110,IV.vslice i111 e112 l113 17 c114,iI n115,iI n116,IV.str s117,iI n118,IV.vslice i119 e120 l121 5 c122] (h2.set (x.1.next) (IObj.cells (List.take 5 r123++(pH v)++List.drop 6 r123))))/\∀(x_1:Heap×Nat×LwS×FnD)(b:FF),LwP ac fc x_1.1 (tW x_1) (jP x_1) x_1.2.2.1->((2:Nat)-FnD.i (jP x_1))*100+50+((FnD.pc (jP x_1)).length-x_1.2.1)<=M->aM (decide (c8C x_1)) (aF x_1.1 (fZ x_1) fun r124=>cK 1 r124 3 (aC (decide (0<=(↑(tW x_1):Int)) &&decide (c8C x_1)) (bZ (List.map IV.str (FnD.pc (jP x_1))) ((↑(tW x_1):Int).toNat*1) fun(s125:List UInt8)=>aF (x_1.1.push oF) (fZ x_1) fun r126=>aC (Nat.ble 4 r126.length) (aF (b7H x_1 s125 r126) (fZ x_1) fun r127=>cT 1 r127 4 (∃(p:PSt),bI (b7H x_1 s125 r126) (fZ x_1) p (2:Int) (↑(tW x_1):Int) (0:Nat) []/\∀(v:Int)(h2:Heap),aQ (b7H x_1 s125 r126) (fZ x_1) p (2:Int) (↑(tW x_1):Int) v h2->aY h2 (fZ x_1) (4:Nat)=aY (b7H x_1 s125 r126) (fZ x_1) (4:Nat)/\aF (sU v h2) (fZ x_1) fun r128=>aC (Nat.ble 5 r128.length) (xY ac fc (↑(FnD.i (jP x_1)):Int) (b7P x_1) (IV.ptr (fZ x_1) (0:Nat)) (a9H ac x_1) (d2A x_1) ((sU v h2).set (fZ x_1) (IObj.cells (List.take 4 r128++(b2G h2)++List.drop 5 r128))) (d8Q x_1))) fun(i129 o130 l131:Nat)=> ∃(p:PSt),bI (b7H x_1 s125 r126) (fZ x_1) p (2:Int) (↑(tW x_1):Int) (0:Nat) []/\∀(v:Int)(h2:Heap),aQ (b7H x_1 s125 r126) (fZ x_1) p (2:Int) (↑(tW x_1):Int) v h2->aY h2 (fZ x_1) (4:Nat)=aY (b7H x_1 s125 r126) (fZ x_1) (4:Nat)/\aF h2 i129 fun r132=>aC (Nat.beq o130 (0:Nat) && (Nat.ble (l131*1) (r132.length) &&Nat.ble ((l131+1)*8) (140737488355328:Nat))) (aF ((h2.set i129 IObj.dead).push (IObj.cells (List.take (l131*1) r132++(pH v)))) (fZ x_1) fun r133=>aC (Nat.ble 5 r133.length) (xY ac fc (↑(FnD.i (jP x_1)):Int) (b7P x_1) (IV.ptr (fZ x_1) 0) (a9H ac x_1) (d2A x_1) (((h2.set i129 IObj.dead).push (IObj.cells (List.take (l131*1) r132++(pH v)))).set (fZ x_1) (IObj.cells (List.take 4 r133++ [IV.hslice (h2.next) 0 (l131+1) 1]++List.drop 5 r133))) (d8Q x_1)))))) fun(i134 e135 l136:Nat)(c137:List IV)=>aC (decide (0<=(↑(tW x_1):Int)) &&decide (c8C x_1)) (bZ (List.map IV.str (FnD.pc (jP x_1))) ((↑(tW x_1):Int).toNat*1) fun(s138:List UInt8)=>dG x_1.1 i134 fun(m139:Nat)=>aC (Nat.beq m139 e135&&Nat.ble ((l136+1)*16) (140737488355328:Nat)) (aF (x_1.1.set i134 (IObj.tip (e135+1))) (fZ x_1) fun r140=>aC (Nat.ble 4 r140.length) (aF (b7J x_1 i134 e135 l136 c137 r140 s138) (fZ x_1) fun r141=>cT 1 r141 4 (∃(p:PSt),bI (b7J x_1 i134 e135 l136 c137 r140 s138) (fZ x_1) p (2:Int) (↑(tW x_1):Int) (0:Nat) []/\∀(v:Int)(h2:Heap),aQ (b7J x_1 i134 e135 l136 c137 r140 s138) (fZ x_1) p (2:Int) (↑(tW x_1):Int) v h2->aY h2 (fZ x_1) (4:Nat)=aY (b7J x_1 i134 e135 l136 c137 r140 s138) (fZ x_1) (4:Nat)/\aF (sU v h2) (fZ x_1) fun r142=>aC (Nat.ble 5 r142.length) (xY ac fc (↑(FnD.i (jP x_1)):Int) (b7P x_1) (IV.ptr (fZ x_1) 0) (a9H ac x_1) (d2A x_1) ((sU v h2).set (fZ x_1) (IObj.cells (List.take 4 r142++(b2G h2)++List.drop 5 r142))) (d8Q x_1))) fun(i143 o144 l145:Nat)=> ∃(p:PSt),bI (b7J x_1 i134 e135 l136 c137 r140 s138) (fZ x_1) p (2:Int) (↑(tW x_1):Int) (0:Nat) []/\∀(v:Int)(h2:Heap),aQ (b7J x_1 i134 e135 l136 c137 r140 s138) (fZ x_1) p (2:Int) (↑(tW x_1):Int) v h2->aY h2 (fZ x_1) (4:Nat)=aY (b7J x_1 i134 e135 l136 c137 r140 s138) (fZ x_1) (4:Nat)/\aF h2 i143 fun r146=>aC (Nat.beq o144 (0:Nat) && (Nat.ble (l145*1) r146.length&&Nat.ble ((l145+1)*8) (140737488355328:Nat))) (aF ((h2.set i143 IObj.dead).push (IObj.cells (List.take (l145*1) r146++(pH v)))) (fZ x_1) fun r147=>aC (Nat.ble 5 r147.length) (xY ac fc (↑(FnD.i (jP x_1)):Int) (b7P x_1) (IV.ptr (fZ x_1) 0) (a9H ac x_1) (d2A x_1) (((h2.set i143 IObj.dead).push (IObj.cells (List.take (l145*1) r146++(pH v)))).set (fZ x_1) (IObj.cells (List.take 4 r147++ [IV.hslice (h2.next) 0 (l145+1) 1]++List.drop 5 r147))) (d8Q x_1))))))) (∃(M:Nat),(d8W M ac fc (↑(FnD.i (jP x_1)):Int) (IV.ptr (fZ x_1) 0) (a9H ac x_1) (d2A x_1) x_1.1)/\∀(x_2:Heap×Nat×LwS×FnD)(b:FF),LwQ ac fc x_2.1 x_2.2.1 (eM x_2) x_2.2.2.1->((2:Nat)-FnD.i (eM x_2))*100+0+((FnD.lc (eM x_2)).length-x_2.2.1)<=M->aM (decide (c8B x_2)) (aF x_2.1 (eA x_2) fun r148=>cK 1 r148 3 (aC (decide (0<=(↑x_2.2.1:Int)) &&decide (c8B x_2)) (bZ (List.map IV.str (FnD.lc (eM x_2))) ((↑x_2.2.1:Int).toNat*1) fun(s149:List UInt8)=>aF (x_2.1.push oF) (eA x_2) fun r150=>aC (Nat.ble 4 (r150.length)) (aF (b7I x_2 s149 r150) (eA x_2) fun r151=>cT 1 r151 4 (∃(p:PSt),bI (b7I x_2 s149 r150) (eA x_2) p (1:Int) (0:Int) (0:Nat) []/\∀(v:Int)(h2:Heap),aQ (b7I x_2 s149 r150) (eA x_2) p (1:Int) (0:Int) v h2->aY h2 (eA x_2) (4:Nat)=aY (b7I x_2 s149 r150) (eA x_2) (4:Nat)/\aF (sU v h2) (eA x_2) fun r152=>aC (Nat.ble 5 r152.length) (xZ ac fc (↑(FnD.i (eM x_2)):Int) (b7N x_2) (IV.ptr (eA x_2) 0) (a9I ac x_2) (d8O x_2) ((sU v h2).set (eA x_2) (IObj.cells (List.take 4 r152++(b2G h2)++List.drop 5 r152))) (d8R x_2))) fun(i153 o154 l155:Nat)=> ∃(p:PSt),bI (b7I x_2 s149 r150) (eA x_2) p (1:Int) (0:Int) (0:Nat) []/\∀(v:Int)(h2:Heap),aQ (b7I x_2 s149 r150) (eA x_2) p (1:Int) (0:Int) v h2->aY h2 (eA x_2) (4:Nat)=aY (b7I x_2 s149 r150) (eA x_2) (4:Nat)/\aF h2 i153 fun r156=>aC (Nat.beq o154 (0:Nat) && (Nat.ble (l155*1) r156.length&&Nat.ble ((l155+1)*8) (140737488355328:Nat))) (aF ((h2.set i153 IObj.dead).push (IObj.cells (List.take (l155*1) r156++(pH v)))) (eA x_2) fun r157=>aC (Nat.ble 5 r157.length) (xZ ac fc (↑(FnD.i (eM x_2)):Int) (b7N x_2) (IV.ptr (eA x_2) 0) (a9I ac x_2) (d8O x_2) (((h2.set i153 IObj.dead).push (IObj.cells (List.take (l155*1) r156++(pH v)))).set (eA x_2) (IObj.cells (List.take 4 r157++ [IV.hslice (h2.next) 0 (l155+1) 1]++List.drop 5 r157))) (d8R x_2)))))) fun(i158 e159 l160:Nat)(c161:List IV)=>aC (decide (0<=(↑x_2.2.1:Int)) &&decide (c8B x_2)) (bZ (List.map IV.str (FnD.lc (eM x_2))) ((↑x_2.2.1:Int).toNat*1) fun(s162:List UInt8)=>dG x_2.1 i158 fun(m163:Nat)=>aC (Nat.beq m163 e159&&Nat.ble ((l160+(1:Nat))*16) (140737488355328:Nat)) (aF (x_2.1.set i158 (IObj.tip (e159+1))) (eA x_2) fun r164=>aC (Nat.ble 4 r164.length) (aF (b7K x_2 i158 e159 l160 c161 r164 s162) (eA x_2) fun r165=>cT 1 r165 4 (∃(p:PSt),bI (b7K x_2 i158 e159 l160 c161 r164 s162) (eA x_2) p (1:Int) (0:Int) (0:Nat) []/\∀(v:Int)(h2:Heap),aQ (b7K x_2 i158 e159 l160 c161 r164 s162) (eA x_2) p (1:Int) (0:Int) v h2->aY h2 (eA x_2) (4:Nat)=aY (b7K x_2 i158 e159 l160 c161 r164 s162) (eA x_2) (4:Nat)/\aF (sU v h2) (eA x_2) fun r166=>aC (Nat.ble 5 r166.length) (xZ ac fc (↑(FnD.i (eM x_2)):Int) (b7N x_2) (IV.ptr (eA x_2) 0) (a9I ac x_2) (d8O x_2) ((sU v h2).set (eA x_2) (IObj.cells (List.take (4:Nat) r166++(b2G h2)++List.drop 5 r166))) (d8R x_2))) fun(i167 o168 l169:Nat)=> ∃(p:PSt),bI (b7K x_2 i158 e159 l160 c161 r164 s162) (eA x_2) p (1:Int) (0:Int) (0:Nat) []/\∀(v:Int)(h2:Heap),aQ (b7K x_2 i158 e159 l160 c161 r164 s162) (eA x_2) p (1:Int) (0:Int) v h2->aY h2 (eA x_2) (4:Nat)=aY (b7K x_2 i158 e159 l160 c161 r164 s162) (eA x_2) (4:Nat)/\aF h2 i167 fun r170=>aC (Nat.beq o168 (0:Nat) && (Nat.ble (l169*1) r170.length&&Nat.ble ((l169+1)*8) (140737488355328:Nat))) (aF ((h2.set i167 IObj.dead).push (IObj.cells (List.take (l169*1) r170++(pH v)))) (eA x_2) fun r171=>aC (Nat.ble 5 r171.length) (xZ ac fc (↑(FnD.i (eM x_2)):Int) (b7N x_2) (IV.ptr (eA x_2) 0) (a9I ac x_2) (d8O x_2) (((h2.set i167 IObj.dead).push (IObj.cells (List.take (l169*1) r170++(pH v)))).set (eA x_2) (IObj.cells (List.take 4 r171++ [IV.hslice (h2.next) 0 (l169+1) 1]++List.drop 5 r171))) (d8R x_2))))))) (∃(d:Nat),∃(l:List M10.S),∃(s:BSt),((FnD.b (eM x_2)).length=l.length/\aX (FnD.b (eM x_2))=aX l)/\(StPre x_2.1 (eA x_2) s l/\(3:Nat)*Ss.cnt l+2<d)/\∀(s2:BSt)(h2:Heap),BW x_2.1 (eA x_2) s h2 s2 (Ss.cost l) (Ss.whl l)-> ∃(d:Nat),∃(ks:List E),∃(s:BSt),((FnD.eks (eM x_2)).length=ks.length/\aW (FnD.eks (eM x_2))=aW ks)/\ExPre h2 (eA x_2) s d (FnD.ek (eM x_2)) (FnD.en (eM x_2)) (FnD.enm (eM x_2)) (FnD.eop (eM x_2)) ks/\∀(v:Int)(h2_1:Heap),dR h2 (eA x_2) s (E.mk (FnD.ek (eM x_2)) (FnD.en (eM x_2)) (FnD.enm (eM x_2)) (FnD.eop (eM x_2)) ks) v h2_1->aF h2_1 (eA x_2) fun r172=>bH 3 r172 2 fun(i173:Option Nat)(e174 l175:Nat)(c176:List IV)=>aM (decide ((↑l175:Int)>2000)) (bH 2 oG 0 fun(i177:Option Nat)(e178 l179:Nat)(c180:List IV)=>bH 5 oG 1 fun(i181:Option Nat)(e182 l183:Nat)(c184:List IV)=>aC (aN [IV.agg [.vslice none 0 l179 2 c180,IV.vslice none 0 l183 5 c184],iI 6]) (Q (.tuple [.agg [.vslice none (0:Nat) l179 (2:Nat) c180,IV.vslice none 0 l183 5 c184],iI 6]) h)) (cK 5 (a9I ac x_2) 1 (aF h2_1 (eA x_2) fun r185=>bH 3 r185 2 fun(i186:Option Nat)(e187 l188:Nat)(c189:List IV)=>aF h2_1 (eA x_2) fun r190=>aK .i64 r190 5 fun n191=>(b7R ac fc (b7O x_2) (d8S ac c189 v n191 h2_1 x_2 l188) (b7Q h2_1) ((2:Nat)-x.2.1)) \/b7S ac fc (b7O x_2) (d8S ac c189 v n191 h2_1 x_2 l188) (b7Q h2_1) ((2:Nat)-x.2.1)) fun(i192 e193 l194:Nat)(c195:List IV)=>aF h2_1 (eA x_2) fun r196=>bH 3 r196 2 fun(i197:Option Nat)(e198 l199:Nat)(c200:List IV)=>aF h2_1 (eA x_2) fun r201=>aK .i64 r201 5 fun n202=>dG h2_1 i192 fun(m203:Nat)=>aC (Nat.beq m203 e193&&Nat.ble ((l194+1)*64) (140737488355328:Nat)) ((b7R ac fc (b7O x_2) (d8T ac c195 c200 v n202 x_2 i192 e193 l194 l199) (h2_1.set i192 (IObj.tip (e193+5))) ((2:Nat)-x.2.1)) \/b7S ac fc (b7O x_2) (d8T ac c195 c200 v n202 x_2 i192 e193 l194 l199) (h2_1.set i192 (IObj.tip (e193+5))) ((2:Nat)-x.2.1)))))))) (aC (aN [IV.agg [.vslice none 0 2 2 ac,IV.vslice none 0 x.2.1 5 (x.2.2.2)],iI 0]) (Q (.tuple [.agg [.vslice none 0 2 2 ac,IV.vslice none 0 x.2.1 5 x.2.2.2],iI 0]) h)))):=by kernel_rfl
theorem g8D: ∀xs h Q,f5Z xs h Q->aU env 33 xs h Q:=by
 intro xs h Q hk;unfold f5Z at hk;split at hk
 ·rename_i na ac nf fc;obtain⟨hx,⟨rfl,rfl⟩,hk⟩:=hk;refine aS (f0H) (g8C ac fc h Q) ?_;delta b7R b7S d8V xY d8W xZ d2A d8O eA fZ qZ b7H b7I eM b7J b7K b7L b7M jP d8P sU kI oG sV sW sX b2G d8Q d8R oF tW pH a9G a5J b7N a9H a9I xV b7O d8S b7P c8B xW xX c8C d8T b7Q d8U tI wW iI;have hq:=hx.q.pure;have hx0:=hx;obtain⟨la,lb,b0,⟨uk,un,unm,uop,uks⟩,b1,⟨wk,wn,wnm,wop,wks⟩,⟨hab,hb0,hb1⟩,hac,hfc⟩:=hx0;have hF: ∀o:Nat,fc[o]?=(fnC b0 (.mk uk un unm uop uks) b1 (.mk wk wn wnm wop wks))[o]?:=fun o=>by rw [hfc]
  refine aA (by simp only [aN,bL,hq.1,hq.2,h1L]) ⟨hx,.inl ⟨_,rfl,rfl,rfl,rfl,rfl,rfl,rfl,rfl,True.intro,True.intro⟩,?_,?_⟩
  ·rintro g _ _;refine hU ((hF _).trans rfl) (dY ((hF _).trans rfl) (dY ((hF _).trans rfl) (dY ((hF _).trans rfl) (bV ((hF _).trans rfl) (bV ((hF _).trans rfl) (hU ((hF _).trans rfl) (bV ((hF _).trans rfl) (dY ((hF _).trans rfl) ?_))))))));refine⟨(lw0 g.next).pst ac fc,c6K,fun v h2 p=>?_⟩;obtain⟨lv0,ns0,hgi,W0⟩:=LW.init (f:=(0:Nat)) (R:=none) p (fun j hj=>by cases hj);refine aB hgi (aA rfl ⟨252,⟨(_,0,_,⟨0,.nilslice,0,⟨[],0,0,0⟩,[102],[[120],[121]],[[105],[106]],b0,uk,un,unm,uop,uks⟩),(by rfl),(by rfl),(by rfl),(by rfl),(by rfl),(by rfl),(by rfl),(by rfl),(by rfl),(by rfl),(by rfl),(by rfl),⟨⟨rfl,hb0,.inl ⟨rfl,rfl,rfl,rfl⟩⟩,h1N _,W0⟩,h1D _⟩,?_⟩);rintro⟨g,k,y,x⟩ _ ⟨fn,hle,w⟩ hM;dsimp only at fn hle w hM⊢;have n4:=nR x.i;have hpl:x.pc.length+x.lc.length=(bN x.i).length:=by rw [<-List.length_append,fn.p]
   refine dW (fun ci=>?_) (fun ci=>?_)
   ·have hlt:k<x.pc.length:=by omega
    have hs: ∃h:k< (bN x.i).length,x.pc[k]=(bN x.i)[k]:=e9A fn.p hlt
    obtain⟨lv,hg,hl⟩:=w.hg;refine aB hg ?_;have ib:bR (k:Int):=by unfold bR;omega
    rcases w.nm with⟨hk0,hc⟩| ⟨io,hc,htt,hio,hnl⟩
    ·have W1:=w.nm0' hk0 hs hg;refine fC (congrArg some hc) (aP (by omega) (hU (b:=x.pc[k]) (by rw [h0Z,h1W,h2A,h0U hlt];rfl) (aB ((aJ w.hid).trans hg) (aA rfl (aB aH ?_)))));rcases W1.vr with⟨hm0,hd⟩| ⟨iv,hd,hv,hiv,hvn⟩
     ·refine kW (congrArg some hd) ?_;refine⟨_,W1.pre (op:=2) (im:=(k:Int)) ⟨by decide,ib⟩ (by omega),fun v h2 p=>?_⟩;obtain⟨ns2,W2,k2⟩:=W1.put p ⟨by decide,by decide⟩ ⟨by decide,ib⟩ (kX (by omega)) (by decide);obtain⟨lv2,hg2,_⟩:=W2.hg;refine⟨(cA hg2).trans (cA (x:=LwS.pst _ ac fc) aH).symm,?_⟩;refine aB ((aJ W2.hid).trans hg2) (aA rfl ?_);have W3:=W2.vr0' hm0 k2 hg2;refine⟨(_,k+1,_,x),(by rfl),(by rfl),(by rfl),(by rfl),(by rfl),(by rfl),(by(try dsimp only);rw [h0X _ (by omega)];rfl),(by rfl),(by rfl),(by rfl),(by rfl),(by rfl),⟨fn,hlt,W3⟩,by(try dsimp only);omega⟩
     ·refine cZ (congrArg some hd) ?_;refine⟨_,W1.pre (op:=2) (im:=(k:Int)) ⟨by decide,ib⟩ (by omega),fun v h2 p=>?_⟩;obtain⟨ns2,W2,k2⟩:=W1.put p ⟨by decide,by decide⟩ ⟨by decide,ib⟩ (kX (by omega)) (by decide);obtain⟨lv2,hg2,_⟩:=W2.hg;refine⟨(cA hg2).trans (cA (x:=LwS.pst _ ac fc) aH).symm,?_⟩;obtain⟨v2,v4,W3⟩:=W2.vr1 hd k2 hg2;refine aB v2 (aA (by simp only [h0Y,bY,h1S,true_and,h1P,W2.vl];omega) ?_);refine aB ((aJ (show y.id< (h2.set iv .dead).next from W2.hid)).trans ((aE v4.symm).trans hg2)) (aA rfl ?_);refine⟨(_,k+1,_,x),(by rfl),(by rfl),(by rfl),(by rfl),(by rfl),(by rfl),(by(try dsimp only);rw [h0X _ (by omega)];rfl),(by rfl),(by rfl),(by rfl),(by rfl),(by rfl),⟨fn,hlt,W3⟩,by(try dsimp only);omega⟩
    ·have W1:=w.nm1 hs.1 hc hs.2 hg;have hii:io≠y.id:=fun q=>by
      rw [q,hg]at htt
      cases htt
     refine dI (congrArg some hc) (aP (by omega) (hU (b:=x.pc[k]) (by rw [h0Z,h1W,h2A,h0U hlt];rfl) (bE htt (aA (by simp only [h0Y,bY,h1S,true_and];omega) (aB ((aE hii.symm).trans hg) (aA rfl (aB aH ?_)))))));rcases W1.vr with⟨hm0,hd⟩| ⟨iv,hd,hv,hiv,hvn⟩
     ·refine kW (congrArg some hd) ?_;refine⟨_,W1.pre (op:=2) (im:=(k:Int)) ⟨by decide,ib⟩ (by omega),fun v h2 p=>?_⟩;obtain⟨ns2,W2,k2⟩:=W1.put p ⟨by decide,by decide⟩ ⟨by decide,ib⟩ (kX (by omega)) (by decide);obtain⟨lv2,hg2,_⟩:=W2.hg;refine⟨(cA hg2).trans (cA (x:=LwS.pst _ ac fc) aH).symm,?_⟩;refine aB ((aJ W2.hid).trans hg2) (aA rfl ?_);have W3:=W2.vr0' hm0 k2 hg2;refine⟨(_,k+1,_,x),(by rfl),(by rfl),(by rfl),(by rfl),(by rfl),(by rfl),(by(try dsimp only);rw [h0X _ (by omega)];rfl),(by rfl),(by rfl),(by rfl),(by rfl),(by rfl),⟨fn,hlt,W3⟩,by(try dsimp only);omega⟩
     ·refine cZ (congrArg some hd) ?_;refine⟨_,W1.pre (op:=2) (im:=(k:Int)) ⟨by decide,ib⟩ (by omega),fun v h2 p=>?_⟩;obtain⟨ns2,W2,k2⟩:=W1.put p ⟨by decide,by decide⟩ ⟨by decide,ib⟩ (kX (by omega)) (by decide);obtain⟨lv2,hg2,_⟩:=W2.hg;refine⟨(cA hg2).trans (cA (x:=LwS.pst _ ac fc) aH).symm,?_⟩;obtain⟨v2,v4,W3⟩:=W2.vr1 hd k2 hg2;refine aB v2 (aA (by simp only [h0Y,bY,h1S,true_and,h1P,W2.vl];omega) ?_);refine aB ((aJ (show y.id< (h2.set iv .dead).next from W2.hid)).trans ((aE v4.symm).trans hg2)) (aA rfl ?_);refine⟨(_,k+1,_,x),(by rfl),(by rfl),(by rfl),(by rfl),(by rfl),(by rfl),(by(try dsimp only);rw [h0X _ (by omega)];rfl),(by rfl),(by rfl),(by rfl),(by rfl),(by rfl),⟨fn,hlt,W3⟩,by(try dsimp only);omega⟩
   ·have hk:k=x.pc.length:=by omega
    subst hk;refine⟨(2-x.i)*100+x.lc.length,⟨(g,0,y,x),rfl,rfl,rfl,rfl,rfl,rfl,rfl,rfl,rfl,rfl,rfl,rfl,⟨fn,h1N _,w⟩,by(try dsimp only);omega⟩,?_⟩;have hi0:0<=x.i:=by omega
    have hlc4:x.lc.length<=4:=by omega
    clear w fn hpl n4 hle;generalize hMq:(2-x.i)*100+x.lc.length=MQ;rintro⟨g,k,y,x⟩ _ ⟨fn,hle,w⟩ hM2;dsimp only at fn hle w hM2⊢;have n4:=nR x.i;have hpl:x.pc.length+x.lc.length=(bN x.i).length:=by rw [<-List.length_append,fn.p]
    refine dW (fun ci=>?_) (fun ci=>?_)
    ·have hlt:k<x.lc.length:=by omega
     have hs: ∃h:x.pc.length+k< (bN x.i).length,x.lc[k]=(bN x.i)[x.pc.length+k]:=e9B fn.p hlt
     obtain⟨lv,hg,hl⟩:=w.hg;refine aB hg ?_;have ib:bR (k:Int):=by unfold bR;omega
     rcases w.nm with⟨hk0,hc⟩| ⟨io,hc,htt,hio,hnl⟩
     ·have W1:=w.nm0' hk0 hs hg;refine fC (congrArg some hc) (aP (by omega) (hU (b:=x.lc[k]) (by rw [h0Z,h1W,h2A,h0U hlt];rfl) (aB ((aJ w.hid).trans hg) (aA rfl (aB aH ?_)))));rcases W1.vr with⟨hm0,hd⟩| ⟨iv,hd,hv,hiv,hvn⟩
      ·refine kW (congrArg some hd) ?_;refine⟨_,W1.pre (op:=1) (im:=0) ⟨by decide,by decide⟩ (by omega),fun v h2 p=>?_⟩;obtain⟨ns2,W2,k2⟩:=W1.put p ⟨by decide,by decide⟩ ⟨by decide,by decide⟩ eJ (by decide);obtain⟨lv2,hg2,_⟩:=W2.hg;refine⟨(cA hg2).trans (cA (x:=LwS.pst _ ac fc) aH).symm,?_⟩;refine aB ((aJ W2.hid).trans hg2) (aA rfl ?_);have W3:=W2.vr0' hm0 k2 hg2;refine⟨(_,k+1,_,x),(by rfl),(by rfl),(by rfl),(by rfl),(by rfl),(by rfl),(by(try dsimp only);rw [h0X _ (by omega)];rfl),(by rfl),(by rfl),(by rfl),(by rfl),(by rfl),⟨fn,hlt,W3⟩,by(try dsimp only);omega⟩
      ·refine cZ (congrArg some hd) ?_;refine⟨_,W1.pre (op:=1) (im:=0) ⟨by decide,by decide⟩ (by omega),fun v h2 p=>?_⟩;obtain⟨ns2,W2,k2⟩:=W1.put p ⟨by decide,by decide⟩ ⟨by decide,by decide⟩ eJ (by decide);obtain⟨lv2,hg2,_⟩:=W2.hg;refine⟨(cA hg2).trans (cA (x:=LwS.pst _ ac fc) aH).symm,?_⟩;obtain⟨v2,v4,W3⟩:=W2.vr1 hd k2 hg2;refine aB v2 (aA (by simp only [h0Y,bY,h1S,true_and,h1P,W2.vl];omega) ?_);refine aB ((aJ (show y.id< (h2.set iv .dead).next from W2.hid)).trans ((aE v4.symm).trans hg2)) (aA rfl ?_);refine⟨(_,k+1,_,x),(by rfl),(by rfl),(by rfl),(by rfl),(by rfl),(by rfl),(by(try dsimp only);rw [h0X _ (by omega)];rfl),(by rfl),(by rfl),(by rfl),(by rfl),(by rfl),⟨fn,hlt,W3⟩,by(try dsimp only);omega⟩
     ·have W1:=w.nm1 hs.1 hc hs.2 hg;have hii:io≠y.id:=fun q=>by
       rw [q,hg]at htt
       cases htt
      refine dI (congrArg some hc) (aP (by omega) (hU (b:=x.lc[k]) (by rw [h0Z,h1W,h2A,h0U hlt];rfl) (bE htt (aA (by simp only [h0Y,bY,h1S,true_and];omega) (aB ((aE hii.symm).trans hg) (aA rfl (aB aH ?_)))))));rcases W1.vr with⟨hm0,hd⟩| ⟨iv,hd,hv,hiv,hvn⟩
      ·refine kW (congrArg some hd) ?_;refine⟨_,W1.pre (op:=1) (im:=0) ⟨by decide,by decide⟩ (by omega),fun v h2 p=>?_⟩;obtain⟨ns2,W2,k2⟩:=W1.put p ⟨by decide,by decide⟩ ⟨by decide,by decide⟩ eJ (by decide);obtain⟨lv2,hg2,_⟩:=W2.hg;refine⟨(cA hg2).trans (cA (x:=LwS.pst _ ac fc) aH).symm,?_⟩;refine aB ((aJ W2.hid).trans hg2) (aA rfl ?_);have W3:=W2.vr0' hm0 k2 hg2;refine⟨(_,k+1,_,x),(by rfl),(by rfl),(by rfl),(by rfl),(by rfl),(by rfl),(by(try dsimp only);rw [h0X _ (by omega)];rfl),(by rfl),(by rfl),(by rfl),(by rfl),(by rfl),⟨fn,hlt,W3⟩,by(try dsimp only);omega⟩
      ·refine cZ (congrArg some hd) ?_;refine⟨_,W1.pre (op:=1) (im:=0) ⟨by decide,by decide⟩ (by omega),fun v h2 p=>?_⟩;obtain⟨ns2,W2,k2⟩:=W1.put p ⟨by decide,by decide⟩ ⟨by decide,by decide⟩ eJ (by decide);obtain⟨lv2,hg2,_⟩:=W2.hg;refine⟨(cA hg2).trans (cA (x:=LwS.pst _ ac fc) aH).symm,?_⟩;obtain⟨v2,v4,W3⟩:=W2.vr1 hd k2 hg2;refine aB v2 (aA (by simp only [h0Y,bY,h1S,true_and,h1P,W2.vl];omega) ?_);refine aB ((aJ (show y.id< (h2.set iv .dead).next from W2.hid)).trans ((aE v4.symm).trans hg2)) (aA rfl ?_);refine⟨(_,k+1,_,x),(by rfl),(by rfl),(by rfl),(by rfl),(by rfl),(by rfl),(by(try dsimp only);rw [h0X _ (by omega)];rfl),(by rfl),(by rfl),(by rfl),(by rfl),(by rfl),⟨fn,hlt,W3⟩,by(try dsimp only);omega⟩
    ·have hk:k=x.lc.length:=by omega
     subst hk;have hi01:(x.i:Int)=0\/ (x.i:Int)=1:=by
      rcases fn.fr with h|h
      ·exact .inl (by rw [h.1];rfl)
      ·exact .inr (by rw [h.1];rfl)
     obtain⟨s,sf,slo,sns,sbh,sgs⟩:=w.fin hpl hx hi01 (by omega);have gc:=fn.gb.cost;have gn:=fn.gb.cnt;have gw:=fn.gb.whl;have wl:=w.ln;refine⟨3*Ss.cnt x.b+3,x.b,s,⟨rfl,rfl⟩,⟨⟨sbh,sgs,by rw [sf];exact fn.gb.wf,by omega,by rw [sns];omega,by rw [slo];omega⟩,by omega⟩,fun s2 h2 xb=>?_⟩;have bl:=xb.len;rw [sns]at bl;refine⟨Es.dp x.eks+1,x.eks,s2,⟨rfl,rfl⟩,⟨xb.bh,xb.gs,by rw [xb.f,sf];exact fn.gb.vw,h1G _,by omega⟩,fun v h3 p=>?_⟩;obtain⟨nsA,stA,xA,kA⟩:=p;have nA:=xA.len;obtain⟨_,⟨lv,hg,hlv⟩,_⟩:=xA.bh;have kb:=kA.kb;rcases hlv with⟨hnil,_⟩| ⟨io,l1,l2,l3,l4⟩
     ·have hz:nsA.length=0:=by
       have e:nsA=[]:=hnil;rw [e];rfl
      omega
     subst l1;have hok:GrOk ⟨nsA,s2.lo,v,stA⟩:=⟨xA.gs.gl,xA.gs.hl,kA,xA.gs.sk,by show nsA.length<=2000;omega⟩;refine aB hg (dY rfl (dW (fun c9=>absurd c9 (by dsimp only;omega)) (fun _=>?_)));rcases fn.fr with⟨hi,hF2,hnm,hpc⟩| ⟨hi,hF2,hgr,hnm,hpc⟩
     ·refine fC (congrArg some hF2) (aB hg (dY rfl (aB hg (bV (n:=stA) rfl (.inr ⟨(_,1,h3.next,gC [102] 2 ⟨nsA,s2.lo,v,stA⟩),(by rfl),(by rfl),(by rfl),(by(try dsimp only);rw [hi];rfl),(by rfl),(by rfl),(by(try dsimp only);rw [hnm,hpc];rfl),(by rfl),⟨.inl ⟨rfl,⟨_,hok,rfl⟩,aR,h1G _⟩⟩,by(try dsimp only);omega⟩)))))
     ·have hR:x.R=some x.jr:=by
       unfold FnD.R
       rw [if_neg (by omega)]
      obtain⟨r1,r2,r3⟩:=w.fr _ hR;obtain⟨t1,t2⟩:=xb.fv.tp _ _ r2 r1 r3;obtain⟨t3,t4⟩:=xA.fc.tp _ _ (h1C r2 xb.fv.nx) t1 t2;refine dI (congrArg some hF2) (aB hg (dY rfl (aB hg (bV (n:=stA) rfl (bE t3 (aA rfl (.inr ⟨(_,2,x.jr,gC [102] 2 x.gr++gC [103] 1 ⟨nsA,s2.lo,v,stA⟩),(by rfl),(by rfl),(by rfl),(by(try dsimp only);rw [hi];rfl),(by rfl),(by rfl),(by(try dsimp only);rw [hnm,hpc];rfl),(by rfl),⟨.inr ⟨rfl,_,_,hgr,hok,rfl⟩⟩,by(try dsimp only);omega⟩)))))))
  ·rintro⟨g,i,jr,c⟩ _ ⟨hO⟩;dsimp only at hO⊢;refine dW (fun ci=>?_) (fun ci=>?_)
   ·obtain⟨rfl,⟨g0,hg0,rfl⟩,htip,hjr⟩:i=1/\(∃g0,GrOk g0/\c=gC [102] 2 g0)/\g.get jr= .tip 5/\jr<g.next:=by
     rcases hO with hO|hO
     ·exact hO
     ·omega
    refine aP (by decide) ?_;refine hU ((hF _).trans rfl) (dY ((hF _).trans rfl) (dY ((hF _).trans rfl) (dY ((hF _).trans rfl) (bV ((hF _).trans rfl) (bV ((hF _).trans rfl) (hU ((hF _).trans rfl) (bV ((hF _).trans rfl) (dY ((hF _).trans rfl) ?_))))))));refine⟨(lw0 g.next).pst ac fc,c6K,fun v h2 p=>?_⟩;obtain⟨lv0,ns0,hgi,W0⟩:=LW.init (f:=(1:Nat)) (R:=(some jr)) p (fun j hj=>by cases hj;exact⟨htip,hjr⟩);refine aB hgi (aA rfl ⟨151,⟨(_,0,_,⟨1,.vslice (some jr) 5 1 5 (gC [102] 2 g0),jr,g0,[103],[[110]],[[105]],b1,wk,wn,wnm,wop,wks⟩),(by rfl),(by rfl),(by rfl),(by rfl),(by rfl),(by rfl),(by rfl),(by rfl),(by rfl),(by rfl),(by rfl),(by rfl),⟨⟨rfl,hb1,.inr ⟨rfl,rfl,hg0,rfl,rfl⟩⟩,h1N _,W0⟩,h1D _⟩,?_⟩);rintro⟨g,k,y,x⟩ _ ⟨fn,hle,w⟩ hM;dsimp only at fn hle w hM⊢;have n4:=nR x.i;have hpl:x.pc.length+x.lc.length=(bN x.i).length:=by rw [<-List.length_append,fn.p]
    refine dW (fun ci=>?_) (fun ci=>?_)
    ·have hlt:k<x.pc.length:=by omega
     have hs: ∃h:k< (bN x.i).length,x.pc[k]=(bN x.i)[k]:=e9A fn.p hlt
     obtain⟨lv,hg,hl⟩:=w.hg;refine aB hg ?_;have ib:bR (k:Int):=by unfold bR;omega
     rcases w.nm with⟨hk0,hc⟩| ⟨io,hc,htt,hio,hnl⟩
     ·have W1:=w.nm0' hk0 hs hg;refine fC (congrArg some hc) (aP (by omega) (hU (b:=x.pc[k]) (by rw [h0Z,h1W,h2A,h0U hlt];rfl) (aB ((aJ w.hid).trans hg) (aA rfl (aB aH ?_)))));rcases W1.vr with⟨hm0,hd⟩| ⟨iv,hd,hv,hiv,hvn⟩
      ·refine kW (congrArg some hd) ?_;refine⟨_,W1.pre (op:=2) (im:=(k:Int)) ⟨by decide,ib⟩ (by omega),fun v h2 p=>?_⟩;obtain⟨ns2,W2,k2⟩:=W1.put p ⟨by decide,by decide⟩ ⟨by decide,ib⟩ (kX (by omega)) (by decide);obtain⟨lv2,hg2,_⟩:=W2.hg;refine⟨(cA hg2).trans (cA (x:=LwS.pst _ ac fc) aH).symm,?_⟩;refine aB ((aJ W2.hid).trans hg2) (aA rfl ?_);have W3:=W2.vr0' hm0 k2 hg2;refine⟨(_,k+1,_,x),(by rfl),(by rfl),(by rfl),(by rfl),(by rfl),(by rfl),(by(try dsimp only);rw [h0X _ (by omega)];rfl),(by rfl),(by rfl),(by rfl),(by rfl),(by rfl),⟨fn,hlt,W3⟩,by(try dsimp only);omega⟩
      ·refine cZ (congrArg some hd) ?_;refine⟨_,W1.pre (op:=2) (im:=(k:Int)) ⟨by decide,ib⟩ (by omega),fun v h2 p=>?_⟩;obtain⟨ns2,W2,k2⟩:=W1.put p ⟨by decide,by decide⟩ ⟨by decide,ib⟩ (kX (by omega)) (by decide);obtain⟨lv2,hg2,_⟩:=W2.hg;refine⟨(cA hg2).trans (cA (x:=LwS.pst _ ac fc) aH).symm,?_⟩;obtain⟨v2,v4,W3⟩:=W2.vr1 hd k2 hg2;refine aB v2 (aA (by simp only [h0Y,bY,h1S,true_and,h1P,W2.vl];omega) ?_);refine aB ((aJ (show y.id< (h2.set iv .dead).next from W2.hid)).trans ((aE v4.symm).trans hg2)) (aA rfl ?_);refine⟨(_,k+1,_,x),(by rfl),(by rfl),(by rfl),(by rfl),(by rfl),(by rfl),(by(try dsimp only);rw [h0X _ (by omega)];rfl),(by rfl),(by rfl),(by rfl),(by rfl),(by rfl),⟨fn,hlt,W3⟩,by(try dsimp only);omega⟩
     ·have W1:=w.nm1 hs.1 hc hs.2 hg;have hii:io≠y.id:=fun q=>by
       rw [q,hg]at htt
       cases htt
      refine dI (congrArg some hc) (aP (by omega) (hU (b:=x.pc[k]) (by rw [h0Z,h1W,h2A,h0U hlt];rfl) (bE htt (aA (by simp only [h0Y,bY,h1S,true_and];omega) (aB ((aE hii.symm).trans hg) (aA rfl (aB aH ?_)))))));rcases W1.vr with⟨hm0,hd⟩| ⟨iv,hd,hv,hiv,hvn⟩
      ·refine kW (congrArg some hd) ?_;refine⟨_,W1.pre (op:=2) (im:=(k:Int)) ⟨by decide,ib⟩ (by omega),fun v h2 p=>?_⟩;obtain⟨ns2,W2,k2⟩:=W1.put p ⟨by decide,by decide⟩ ⟨by decide,ib⟩ (kX (by omega)) (by decide);obtain⟨lv2,hg2,_⟩:=W2.hg;refine⟨(cA hg2).trans (cA (x:=LwS.pst _ ac fc) aH).symm,?_⟩;refine aB ((aJ W2.hid).trans hg2) (aA rfl ?_);have W3:=W2.vr0' hm0 k2 hg2;refine⟨(_,k+1,_,x),(by rfl),(by rfl),(by rfl),(by rfl),(by rfl),(by rfl),(by(try dsimp only);rw [h0X _ (by omega)];rfl),(by rfl),(by rfl),(by rfl),(by rfl),(by rfl),⟨fn,hlt,W3⟩,by(try dsimp only);omega⟩
      ·refine cZ (congrArg some hd) ?_;refine⟨_,W1.pre (op:=2) (im:=(k:Int)) ⟨by decide,ib⟩ (by omega),fun v h2 p=>?_⟩;obtain⟨ns2,W2,k2⟩:=W1.put p ⟨by decide,by decide⟩ ⟨by decide,ib⟩ (kX (by omega)) (by decide);obtain⟨lv2,hg2,_⟩:=W2.hg;refine⟨(cA hg2).trans (cA (x:=LwS.pst _ ac fc) aH).symm,?_⟩;obtain⟨v2,v4,W3⟩:=W2.vr1 hd k2 hg2;refine aB v2 (aA (by simp only [h0Y,bY,h1S,true_and,h1P,W2.vl];omega) ?_);refine aB ((aJ (show y.id< (h2.set iv .dead).next from W2.hid)).trans ((aE v4.symm).trans hg2)) (aA rfl ?_);refine⟨(_,k+1,_,x),(by rfl),(by rfl),(by rfl),(by rfl),(by rfl),(by rfl),(by(try dsimp only);rw [h0X _ (by omega)];rfl),(by rfl),(by rfl),(by rfl),(by rfl),(by rfl),⟨fn,hlt,W3⟩,by(try dsimp only);omega⟩
    ·have hk:k=x.pc.length:=by omega
     subst hk;refine⟨(2-x.i)*100+x.lc.length,⟨(g,0,y,x),rfl,rfl,rfl,rfl,rfl,rfl,rfl,rfl,rfl,rfl,rfl,rfl,⟨fn,h1N _,w⟩,by(try dsimp only);omega⟩,?_⟩;have hi0:1<=x.i:=by omega
     have hlc4:x.lc.length<=4:=by omega
     clear w fn hpl n4 hle;generalize hMq:(2-x.i)*100+x.lc.length=MQ;rintro⟨g,k,y,x⟩ _ ⟨fn,hle,w⟩ hM2;dsimp only at fn hle w hM2⊢;have n4:=nR x.i;have hpl:x.pc.length+x.lc.length=(bN x.i).length:=by rw [<-List.length_append,fn.p]
     refine dW (fun ci=>?_) (fun ci=>?_)
     ·have hlt:k<x.lc.length:=by omega
      have hs: ∃h:x.pc.length+k< (bN x.i).length,x.lc[k]=(bN x.i)[x.pc.length+k]:=e9B fn.p hlt
      obtain⟨lv,hg,hl⟩:=w.hg;refine aB hg ?_;have ib:bR (k:Int):=by unfold bR;omega
      rcases w.nm with⟨hk0,hc⟩| ⟨io,hc,htt,hio,hnl⟩
      ·have W1:=w.nm0' hk0 hs hg;refine fC (congrArg some hc) (aP (by omega) (hU (b:=x.lc[k]) (by rw [h0Z,h1W,h2A,h0U hlt];rfl) (aB ((aJ w.hid).trans hg) (aA rfl (aB aH ?_)))));rcases W1.vr with⟨hm0,hd⟩| ⟨iv,hd,hv,hiv,hvn⟩
       ·refine kW (congrArg some hd) ?_;refine⟨_,W1.pre (op:=1) (im:=0) ⟨by decide,by decide⟩ (by omega),fun v h2 p=>?_⟩;obtain⟨ns2,W2,k2⟩:=W1.put p ⟨by decide,by decide⟩ ⟨by decide,by decide⟩ eJ (by decide);obtain⟨lv2,hg2,_⟩:=W2.hg;refine⟨(cA hg2).trans (cA (x:=LwS.pst _ ac fc) aH).symm,?_⟩;refine aB ((aJ W2.hid).trans hg2) (aA rfl ?_);have W3:=W2.vr0' hm0 k2 hg2;refine⟨(_,k+1,_,x),(by rfl),(by rfl),(by rfl),(by rfl),(by rfl),(by rfl),(by(try dsimp only);rw [h0X _ (by omega)];rfl),(by rfl),(by rfl),(by rfl),(by rfl),(by rfl),⟨fn,hlt,W3⟩,by(try dsimp only);omega⟩
       ·refine cZ (congrArg some hd) ?_;refine⟨_,W1.pre (op:=1) (im:=0) ⟨by decide,by decide⟩ (by omega),fun v h2 p=>?_⟩;obtain⟨ns2,W2,k2⟩:=W1.put p ⟨by decide,by decide⟩ ⟨by decide,by decide⟩ eJ (by decide);obtain⟨lv2,hg2,_⟩:=W2.hg;refine⟨(cA hg2).trans (cA (x:=LwS.pst _ ac fc) aH).symm,?_⟩;obtain⟨v2,v4,W3⟩:=W2.vr1 hd k2 hg2;refine aB v2 (aA (by simp only [h0Y,bY,h1S,true_and,h1P,W2.vl];omega) ?_);refine aB ((aJ (show y.id< (h2.set iv .dead).next from W2.hid)).trans ((aE v4.symm).trans hg2)) (aA rfl ?_);refine⟨(_,k+1,_,x),(by rfl),(by rfl),(by rfl),(by rfl),(by rfl),(by rfl),(by(try dsimp only);rw [h0X _ (by omega)];rfl),(by rfl),(by rfl),(by rfl),(by rfl),(by rfl),⟨fn,hlt,W3⟩,by(try dsimp only);omega⟩
      ·have W1:=w.nm1 hs.1 hc hs.2 hg;have hii:io≠y.id:=fun q=>by
        rw [q,hg]at htt
        cases htt
       refine dI (congrArg some hc) (aP (by omega) (hU (b:=x.lc[k]) (by rw [h0Z,h1W,h2A,h0U hlt];rfl) (bE htt (aA (by simp only [h0Y,bY,h1S,true_and];omega) (aB ((aE hii.symm).trans hg) (aA rfl (aB aH ?_)))))));rcases W1.vr with⟨hm0,hd⟩| ⟨iv,hd,hv,hiv,hvn⟩
       ·refine kW (congrArg some hd) ?_;refine⟨_,W1.pre (op:=1) (im:=0) ⟨by decide,by decide⟩ (by omega),fun v h2 p=>?_⟩;obtain⟨ns2,W2,k2⟩:=W1.put p ⟨by decide,by decide⟩ ⟨by decide,by decide⟩ eJ (by decide);obtain⟨lv2,hg2,_⟩:=W2.hg;refine⟨(cA hg2).trans (cA (x:=LwS.pst _ ac fc) aH).symm,?_⟩;refine aB ((aJ W2.hid).trans hg2) (aA rfl ?_);have W3:=W2.vr0' hm0 k2 hg2;refine⟨(_,k+1,_,x),(by rfl),(by rfl),(by rfl),(by rfl),(by rfl),(by rfl),(by(try dsimp only);rw [h0X _ (by omega)];rfl),(by rfl),(by rfl),(by rfl),(by rfl),(by rfl),⟨fn,hlt,W3⟩,by(try dsimp only);omega⟩
       ·refine cZ (congrArg some hd) ?_;refine⟨_,W1.pre (op:=1) (im:=0) ⟨by decide,by decide⟩ (by omega),fun v h2 p=>?_⟩;obtain⟨ns2,W2,k2⟩:=W1.put p ⟨by decide,by decide⟩ ⟨by decide,by decide⟩ eJ (by decide);obtain⟨lv2,hg2,_⟩:=W2.hg;refine⟨(cA hg2).trans (cA (x:=LwS.pst _ ac fc) aH).symm,?_⟩;obtain⟨v2,v4,W3⟩:=W2.vr1 hd k2 hg2;refine aB v2 (aA (by simp only [h0Y,bY,h1S,true_and,h1P,W2.vl];omega) ?_);refine aB ((aJ (show y.id< (h2.set iv .dead).next from W2.hid)).trans ((aE v4.symm).trans hg2)) (aA rfl ?_);refine⟨(_,k+1,_,x),(by rfl),(by rfl),(by rfl),(by rfl),(by rfl),(by rfl),(by(try dsimp only);rw [h0X _ (by omega)];rfl),(by rfl),(by rfl),(by rfl),(by rfl),(by rfl),⟨fn,hlt,W3⟩,by(try dsimp only);omega⟩
     ·have hk:k=x.lc.length:=by omega
      subst hk;have hi01:(x.i:Int)=0\/ (x.i:Int)=1:=by
       rcases fn.fr with h|h
       ·exact .inl (by rw [h.1];rfl)
       ·exact .inr (by rw [h.1];rfl)
      obtain⟨s,sf,slo,sns,sbh,sgs⟩:=w.fin hpl hx hi01 (by omega);have gc:=fn.gb.cost;have gn:=fn.gb.cnt;have gw:=fn.gb.whl;have wl:=w.ln;refine⟨3*Ss.cnt x.b+3,x.b,s,⟨rfl,rfl⟩,⟨⟨sbh,sgs,by rw [sf];exact fn.gb.wf,by omega,by rw [sns];omega,by rw [slo];omega⟩,by omega⟩,fun s2 h2 xb=>?_⟩;have bl:=xb.len;rw [sns]at bl;refine⟨Es.dp x.eks+1,x.eks,s2,⟨rfl,rfl⟩,⟨xb.bh,xb.gs,by rw [xb.f,sf];exact fn.gb.vw,h1G _,by omega⟩,fun v h3 p=>?_⟩;obtain⟨nsA,stA,xA,kA⟩:=p;have nA:=xA.len;obtain⟨_,⟨lv,hg,hlv⟩,_⟩:=xA.bh;have kb:=kA.kb;rcases hlv with⟨hnil,_⟩| ⟨io,l1,l2,l3,l4⟩
      ·have hz:nsA.length=0:=by
        have e:nsA=[]:=hnil;rw [e];rfl
       omega
      subst l1;have hok:GrOk ⟨nsA,s2.lo,v,stA⟩:=⟨xA.gs.gl,xA.gs.hl,kA,xA.gs.sk,by show nsA.length<=2000;omega⟩;refine aB hg (dY rfl (dW (fun c9=>absurd c9 (by dsimp only;omega)) (fun _=>?_)));rcases fn.fr with⟨hi,hF2,hnm,hpc⟩| ⟨hi,hF2,hgr,hnm,hpc⟩
      ·exfalso;omega
      ·have hR:x.R=some x.jr:=by
        unfold FnD.R
        rw [if_neg (by omega)]
       obtain⟨r1,r2,r3⟩:=w.fr _ hR;obtain⟨t1,t2⟩:=xb.fv.tp _ _ r2 r1 r3;obtain⟨t3,t4⟩:=xA.fc.tp _ _ (h1C r2 xb.fv.nx) t1 t2;refine dI (congrArg some hF2) (aB hg (dY rfl (aB hg (bV (n:=stA) rfl (bE t3 (aA rfl (.inr ⟨(_,2,x.jr,gC [102] 2 x.gr++gC [103] 1 ⟨nsA,s2.lo,v,stA⟩),(by rfl),(by rfl),(by rfl),(by(try dsimp only);rw [hi];rfl),(by rfl),(by rfl),(by(try dsimp only);rw [hnm,hpc];rfl),(by rfl),⟨.inr ⟨rfl,_,_,hgr,hok,rfl⟩⟩,by(try dsimp only);omega⟩)))))))
   ·obtain⟨rfl,g0,g1,hg0,hg1,rfl⟩:i=2/\∃g0 g1,GrOk g0/\GrOk g1/\c=gC [102] 2 g0++gC [103] 1 g1:=by
     rcases hO with hO|hO
     ·omega
     ·exact hO
    exact aA (by simp only [aN,bL,gC,bG,gI,hq.1,h1L]) (hk _ ⟨g0,g1,hg0,hg1,rfl⟩)
 ·exact hk.elim
def g2N:=bB 33 f5Z f5Y
theorem g2O:aT env g2N:=aI g8D (f0H)
def f6A(xs:List IV)(h:Heap)(K:IV->Heap->Prop):Prop:=match xs with
 | [.vslice none e0 n0 1 c0]=> ∃l:List Int,(n0=l.length/\c0=l.map (IV.int .i64))/\(∀x∈l,bR x)/\∀(ac fc:List IV),qG ac fc->K (.agg [.vslice none 0 2 2 ac,.vslice none 0 2 9 fc]) h
 |_=>False
theorem g8E: ∀xs h Q,f6A xs h Q->aU env 34 xs h Q:=by
 intro xs h Q hk;refine g1R xs h Q ?_;unfold f6A at hk;split at hk
 ·rename_i e0 n0 c0;obtain⟨l,hl,hb,hk⟩:=hk;exact⟨l,hl,hb,fun la lb b0 v0 b1 v1 hp=>hk _ _ ⟨la,lb,b0,v0,b1,v1,hp,rfl,rfl⟩⟩
 ·exact hk.elim
def g2P:=bB 34 f6A g2N
theorem g2Q:aT env g2P:=aI g8E g2O
def f6B(xs:List IV)(h:Heap)(K:KT):Prop:=match xs with
 | [.vslice none e0 n0 1 c0]=> ∃l:List Int,(n0=l.length/\c0=l.map (IV.int .i64))/\(∀x∈l,bR x)/\∀(ac fc gc:List IV),qG ac fc->c1C gc->K (.agg [.vslice none 0 2 2 ac,.vslice none 0 2 5 gc]) h
 |_=>False
theorem g8F(l:List Int)(e0:Nat)(h:Heap)(Q:KT):dF (aV g2P) env 9 dV bT bT [.vslice none e0 l.length 1 (l.map (IV.int .i64))] h Q=(
 aC (aN [IV.vslice none 0 l.length 1 (List.map (IV.int .i64) l)]) (∃(l_1:List Int),(l.length=l_1.length/\List.map (IV.int .i64) l=List.map (IV.int .i64) l_1)/\(∀(x:Int),x∈l_1->bR x)/\∀(ac fc:List IV),qG ac fc->qG ac fc/\((2:Nat)=2/\(2:Nat)=2)/\∀(gc:List IV),c1C gc->aC (aN [IV.agg [.vslice none 0 2 2 ac,IV.vslice none 0 2 5 gc]]) (Q (.agg [.vslice none 0 2 2 ac,IV.vslice none 0 2 5 gc]) h))):=by kernel_rfl
theorem g8G: ∀xs h Q,f6B xs h Q->aU env 9 xs h Q:=by
 intro xs h Q hk;unfold f6B at hk;split at hk
 ·rename_i e0 n0 c0;obtain⟨l,⟨rfl,rfl⟩,hb,hk⟩:=hk;refine aS (g2Q) (g8F l e0 h Q) ?_;refine aA (by simp only [aN,bL,cH,h1L]) ⟨l,⟨rfl,rfl⟩,hb,fun ac fc hp=>⟨hp,⟨rfl,rfl⟩,fun gc hg=>aA ?_ (hk ac fc gc hp hg)⟩⟩;simp only [aN,bL,hp.q.pure.1,hg.pure,h1L]
 ·exact hk.elim
theorem e7A{l:List Nd}{i o:Nat}{K:Option Nat->Nat->Nat->List IV->Prop}(h:i<l.length)(ho:o=i*3+2)(hk:K none 0 l[i].ks.length (l[i].ks.map (IV.int .i64))):bH 1 (l.flatMap cN) o K:=by
 subst ho;have e2:=a8J (j:=2) h (by omega);unfold bH
 simp only [e2];exact hk
theorem c8D: ∀{l:List Nd}{n:Nat},(l.flatMap cN).take (n*3)=(l.take n).flatMap cN
 | [],n=>by simp
 |x::l,0=>by simp
 |x::l,n+1=>by
  rw [h2P,h8W,h2P,h5O,show(n+1)*3- (cN x).length=n*3 by show(n+1)*3-3=_;omega,c8D,h1H (by show 3<=_;omega)]
theorem jM{k:IntKind}{l:List Int}{i o:Nat}{K:Int->Prop}(h:i<l.length)(ho:o=i)(hk:K l[i]):aK k (l.map (IV.int k)) o K:=by
 subst ho;exact gH h hk
def c3B(xs:List IV)(h:Heap)(K:KT):Prop:=match xs with
 | [.int .i64 n,.int .i64 m]=>(0<m/\m<4611686018427387904)/\K (.int .i64 (n%m)) h
 |_=>False
theorem f6C(n m:Int)(h:Heap)(Q:KT):dF (aV noC) env 12 dV bT bT [.int .i64 n,.int .i64 m] h Q=(
 aC (!m==0) (aM (decide (Int.tmod n m<0)) (Q (.int .i64 (wW (Int.tmod n m+m))) h) (Q (.int .i64 (Int.tmod n m)) h))):=by kernel_rfl
theorem f6D: ∀xs h Q,c3B xs h Q->aU env 12 xs h Q:=by
 intro xs h Q hk;unfold c3B at hk;split at hk
 ·rename_i n m;refine aS (rW env) (f6C n m h Q) ?_;delta wW;obtain⟨hm,hk⟩:=hk;have h1:=h8R n (Int.dvd_refl m);have ht:=Go.M13.a2X n m hm.1;refine aA (by simp;omega) (aD (fun hc=>cO hk ?_) (fun hc=>cO hk ?_))
  ·simp only [decide_eq_true_eq]at hc;rw [h0X _ (by omega)];congr 1;omega
  ·simp only [decide_eq_false_iff_not]at hc;congr 1;omega
 ·exact hk.elim
def d8X:=bB 12 c3B noC
theorem e7B:aT env d8X:=aI f6D (rW env)
def d8Y:=d8X
theorem e7C:aT env d8Y:=e7B
def c8E:=d8Y
theorem d8Z:aT env c8E:=e7C
def d9A:=c8E
theorem e7D:aT env d9A:=d8Z
def c8F:=d9A
theorem d9B:aT env c8F:=e7D
def f0I:=c8F
theorem f6E:aT env f0I:=d9B
def d9C:=f0I
theorem e7E:aT env d9C:=f6E
def b7T:=d9C
theorem d2B:aT env b7T:=e7E
def b7U:=b7T
theorem d2C:aT env b7U:=d2B
def b7V:=b7U
theorem d2D:aT env b7V:=d2C
def c8G:=b7V
theorem d9D:aT env c8G:=d2D
def d9E:=c8G
theorem e7F:aT env d9E:=d9D
def b2H:=d9E
theorem b7W:aT env b2H:=e7F
def b2I(xs:List IV)(h:Heap)(K:KT):Prop:=match xs with
 | [.int .i64 op]=>K (.tuple [.int .i64 (ar op),.bool (oU op)]) h
 |_=>False
def b7X:=IV.tuple [.int .i64 0,IV.bool true]
def b7Y:=IV.tuple [.int .i64 1,IV.bool true]
def b7Z:=IV.tuple [.int .i64 2,IV.bool true]
def d9F:=IV.tuple [.int .i64 (-1),IV.bool true]
def d9G:=IV.tuple [.int .i64 0,IV.bool false]
def d9H:=IV.tuple [.int .i64 3,IV.bool true]
theorem e7G(op:Int)(h:Heap)(Q:KT):dF (aV b2H) env 222 dV bT bT [.int .i64 op] h Q=(
 aM (op==1) (Q b7X h) (aM (op==2) (Q b7X h) (aM (op==3) (Q b7X h) (aM (op==26) (Q b7X h) (aM (op==20) (Q b7Y h) (aM (op==21) (Q b7Y h) (aM (op==24) (Q b7Y h) (aM (op==25) (Q b7Y h) (aM (op==(23:Int)) (Q b7Z h) (aM (op==27) (Q b7Z h) (aM (op==29) (Q b7Z h) (aM (op==22) (Q d9H h) (aM (op==28) (Q d9H h) (aM (op==30) (Q d9F h) (aM (op==31) (Q d9F h) (aM (decide (op>=4)) (aM (decide (op<=19)) (Q b7Z h) (Q d9G h)) (Q d9G h))))))))))))))))):=by kernel_rfl
theorem e7H: ∀xs h Q,b2I xs h Q->aU env 222 xs h Q:=by
 intro xs h Q hk;unfold b2I at hk;split at hk
 ·rename_i op;refine aS (b7W) (e7G op h Q) ?_;delta b7X b7Y b7Z d9F d9G d9H
  repeat' (first|refine aA ?_ ?_|refine aD (fun _=>?_) (fun _=>?_)|refine And.intro ?_ ?_)
  all_goals first|assumption|omega| (refine cO hk ?_;simp only [IV.agg.injEq,IV.tuple.injEq,IV.int.injEq,IV.bool.injEq,h2I,true_and,and_true];grind [ar,oU])
 ·exact hk.elim
def b2J:=bB 222 b2I b2H
theorem b8A:aT env b2J:=aI e7H (b7W)
def d9I(xs:List IV)(h:Heap)(K:KT):Prop:=match xs with
 | [.int .i64 op]=>K (.vslice none 0 (tS op).length 1 ((tS op).map (IV.int .i64))) h
 |_=>False
theorem g2R(op:Int)(h:Heap)(Q:KT):dF (aV b2J) env 226 dV bT bT [.int .i64 op] h Q=(
 aM (op==22) (Q (.vslice none 0 3 1 [iI 1,iI 1,iI 1]) h) (aM (op==23) (Q (.vslice none 0 2 1 [iI 2,iI 1]) h) (aM (op==27) (Q (.vslice none 0 2 1 [iI 2,iI 1]) h) (aM (op==29) (Q (.vslice none 0 2 1 [iI 2,iI 1]) h) (aM (op==28) (Q (.vslice none 0 3 1 [iI 2,iI 1,iI 1]) h) (aM (op==24) (Q (.vslice none 0 1 1 [iI 2]) h) (aM (op==25) (Q (.vslice none 0 1 1 [iI 3]) h) (Q (.vslice none 0 2 1 [iI 1,iI 1]) h)))))))):=by kernel_rfl
theorem g2S: ∀xs h Q,d9I xs h Q->aU env 226 xs h Q:=by
 intro xs h Q hk;unfold d9I at hk;split at hk
 ·rename_i op;refine aS (b8A) (g2R op h Q) ?_;delta iI;have fin: ∀w:List Int,tS op=w->Q (.vslice none 0 (w).length 1 ((w).map (IV.int .i64))) h:=by
   rintro _ rfl;exact hk
  repeat' (refine aD (fun _=>?_) (fun _=>?_))
  all_goals simp only [beq_iff_eq,beq_eq_false_iff_ne]at*
  all_goals first|exact fin [1,1,1] (by simp [tS, *])|exact fin [2,1] (by simp [tS, *])|exact fin [2,1,1] (by simp [tS, *])|exact fin [2] (by simp [tS, *])|exact fin [3] (by simp [tS, *])|exact fin [1,1] (by simp [tS, *])
 ·exact hk.elim
def d9J:=bB 226 d9I b2J
theorem d9K:aT env d9J:=aI g2S (b8A)
def g2T(s w:List Int):Inv':=hJ Nat (fun i=>[(0,.v (.vslice none 0 (s).length 1 ((s).map (IV.int .i64)))),(1,.v (.vslice none 0 (w).length 1 ((w).map (IV.int .i64)))),(5,.v (.int .i64 i))]) (fun _=>[]) (fun _=>Heap.empty)
 (fun i=>i<=s.length/\∀j,j<i->s[j]?=w[j]?) (fun i=>s.length-i)
def c3C(xs:List IV)(h:Heap)(K:KT):Prop:=match xs with
 | [.vslice none e1 n1 1 c1,.vslice none e2 n2 1 c2]=> ∃s w:List Int,(n1=s.length/\c1=s.map (IV.int .i64))/\(n2=w.length/\c2=w.map (IV.int .i64))/\(s.length<=w.length/\s.length<=1000000000)/\K (.bool (decide (s=w.take s.length))) h
 |_=>False
def a5K:=IV.int .i64
def b8B(s:List Int):=TV.v (.vslice none 0 s.length 1 (List.map a5K s))
def b8C(w:List Int):=TV.v (.vslice none 0 w.length 1 (List.map a5K w))
theorem f6F(s w:List Int)(e1 e2:Nat)(h:Heap)(Q:KT):dF (aV d9J) env 224 dV (tK 3 (g2T s w)) bT [.vslice none e1 (s).length 1 ((s).map (IV.int .i64)),.vslice none e2 (w).length 1 ((w).map (IV.int .i64))] h Q=(
 aC (aN [IV.vslice none 0 s.length 1 (List.map a5K s),IV.vslice none 0 w.length 1 (List.map a5K w)]) ((∃(x:Nat),some (b8B s)=some (b8B s)/\some (b8C w)=some (b8C w)/\tI 0=tI (↑x:Int)/\Heap.mk PT.nil 0=Heap.mk PT.nil 0/\(x<=s.length/\∀(j:Nat),j<x->s[j]?=w[j]?)/\True)/\∀(x:Nat)(b:FF),(x<=s.length/\∀(j:Nat),j<x->s[j]?=w[j]?)->aM (decide ((↑x:Int)< (↑s.length:Int))) (aC (decide ((0:Int)<=(↑x:Int)) &&decide ((↑x:Int)< (↑s.length:Int))) (aK .i64 (List.map a5K s) ((↑x:Int).toNat*1) fun n0=>aC (decide (0<=(↑x:Int)) &&decide ((↑x:Int)< (↑w.length:Int))) (aK .i64 (List.map a5K w) ((↑x:Int).toNat*1) fun n1=>aM (n0 !=n1) (Q (.bool false) h) (∃(x_1:Nat),some (b8B s)=some (b8B s)/\some (b8C w)=some (b8C w)/\tI (wW ((↑x:Int)+1))=tI (↑x_1:Int)/\Heap.mk PT.nil (0:Nat)=Heap.mk PT.nil 0/\(x_1<=s.length/\∀(j:Nat),j<x_1->s[j]?=w[j]?)/\s.length-x_1<s.length-x)))) (Q (.bool true) h))):=by kernel_rfl
theorem f6G: ∀xs h Q,c3C xs h Q->aU env 224 xs h Q:=by
 intro xs h Q hk;unfold c3C at hk;split at hk
 ·rename_i e1 n1 c1 e2 n2 c2;obtain⟨s,w,⟨rfl,rfl⟩,⟨rfl,rfl⟩,hb,hk⟩:=hk;refine aS (d9K) (f6F s w e1 e2 h Q) ?_;delta b8B b8C a5K tI wW;have tn: ∀x:Nat,(x:Int).toNat=x:=h0Z
  obtain⟨hl,hb⟩:=hb;refine aA (by simp only [aN,bL,cH,h1L]) ⟨⟨0,rfl,rfl,rfl,rfl,⟨h1N _,fun j hj=>by omega⟩,trivial⟩,?_⟩;rintro i _ ⟨hi,ha⟩
  try dsimp only at hi ha⊢
  refine aD (fun c=>?_) (fun c=>?_)
  ·rw [decide_eq_true_eq]at c;have hlt:i<s.length:=by omega
   have hlt2:i<w.length:=by omega
   simp only [tn];rw [h1W];refine aA (by simp;omega) (gH hlt (aA (by simp;omega) (gH hlt2 (aD (fun c1=>?_) (fun c1=>⟨i+1,.intro,.intro,?_,.intro,⟨hlt,fun j hj=>?_⟩,by(try dsimp only);omega⟩)))))
   ·rw [decide_eq_false (fun e=>?_)]at hk
    ·exact hk
    ·have:s[i]?=(w.take s.length)[i]?:=by rw [<-e]
     rw [h3L hlt,h0U hlt,h0U hlt2,h0V]at this;rw [this]at c1;simp at c1
   ·rw [h0X _ (by omega)];rfl
   ·rcases h2D j i with q|q
    ·exact ha j q
    ·obtain rfl:j=i:=by omega
     rw [bne_eq_false_iff_eq]at c1;rw [h0U hlt,h0U hlt2,c1]
  ·rw [decide_eq_false_iff_not]at c;rw [decide_eq_true (h3T fun j=>?_)]at hk
   ·exact hk
   ·rcases h2D j s.length with q|q
    ·rw [h3L q,ha j (by omega)]
    ·rw [h2E q,h2E (by simp;omega)]
 ·exact hk.elim
def c3D:=bB 224 c3C d9J
theorem c8H:aT env c3D:=aI f6G (d9K)
def c3E(xs:List IV)(h:Heap)(K:KT):Prop:=match xs with
 | [.int .i64 k]=>(1<=k/\k<=1000000)/\K (.int .i64 ((k-1)/2)) h
 |_=>False
theorem f6H(k:Int)(h:Heap)(Q:KT):dF (aV c3D) env 223 dV bT bT [.int .i64 k] h Q=(
 Q (.int .i64 (wW (Int.tdiv (wW (k-1)) (2:Int)))) h):=by kernel_rfl
theorem f6I: ∀xs h Q,c3E xs h Q->aU env 223 xs h Q:=by
 intro xs h Q hk;unfold c3E at hk;split at hk
 ·rename_i k;obtain⟨hb,hk⟩:=hk;refine aS (c8H) (f6H k h Q) ?_;delta wW;refine cO hk ?_
  congr 1
  rw [h0X (k-1) (by omega),h4U (by omega),h0X _ (by omega)]
 ·exact hk.elim
def d9L:=bB 223 c3E c3D
theorem e7I:aT env d9L:=aI f6I (c8H)
def b2K(xs:List IV)(h:Heap)(K:KT):Prop:=match xs with
 | [.int .i64 k]=> ∃m:Nat,(1<=m/\m<=16)/\k=2*(m:Int)+1/\∀w:List Int,w=lsL m->K (.vslice none 0 (w).length 1 ((w).map (IV.int .i64))) h
 |_=>False
theorem e7J: ∀xs h Q,b2K xs h Q->aU env 225 xs h Q:=by
 intro xs h Q hk;unfold b2K at hk;split at hk
 ·rename_i k;obtain⟨m,hm,rfl,hk⟩:=hk;have h2:m=1\/m=2\/m=3\/m=4\/m=5\/m=6\/m=7\/m=8\/m=9\/m=10\/m=11\/m=12\/m=13\/m=14\/m=15\/m=16:=by omega
  rcases h2 with rfl|rfl|rfl|rfl|rfl|rfl|rfl|rfl|rfl|rfl|rfl|rfl|rfl|rfl|rfl|rfl
  all_goals exact⟨400,_,h,by kernel_rfl,hk _ rfl⟩
 ·exact hk.elim
def b2L:=bB 225 b2K d9L
theorem b8D:aT env b2L:=aI e7J (e7I)
def d9M(xs:List IV)(h:Heap)(K:KT):Prop:=match xs with
 | [.vslice none e0 n0 3 c0,.agg [.int .i64 op,.int .i64 im,.vslice none e1 n1 1 c1]]=> ∃(l:List Nd)(ks:List Int),(n0=l.length/\c0=l.flatMap cN)/\(n1=ks.length/\c1=ks.map (IV.int .i64))/\op≠25/\K (.bool (lB op im)) h
 |_=>False
def yD(im:Int):=decide (im>=0)
def uJ:=IV.bool false
theorem g2U(l:List Nd)(op im:Int)(ks:List Int)(e0 e1:Nat)(h:Heap)(Q:KT):dF (aV b2L) env 206 dV bT bT [.vslice none e0 (l).length 3 ((l).flatMap cN),.agg [.int .i64 op,.int .i64 im,.vslice none e1 ks.length 1 (ks.map (IV.int .i64))]] h Q=(
 aC (aN [IV.vslice none 0 l.length 3 (List.flatMap cN l),IV.agg [.int .i64 op,iI im,IV.vslice none 0 ks.length 1 (List.map (IV.int .i64) ks)]]) (aM (op==1) (Q (.bool true) h) (aM (op==2) (aM (yD im) (Q (.bool (decide (im<=5))) h) (Q uJ h)) (aM (op==3) (aM (yD im) (Q (.bool (decide (im<=255))) h) (Q uJ h)) (aM (op==23) (aM (yD im) (Q (.bool (decide (im<=3))) h) (Q uJ h)) (aM (op==28) (aM (yD im) (Q (.bool (decide (im<=3))) h) (Q uJ h)) (aM (op==27) (aM (decide (im>=1)) (Q (.bool (decide (im<=1000016))) h) (Q uJ h)) (aM (op==30) (aM (yD im) (Q (.bool (decide (im<=7))) h) (Q uJ h)) (aM (op==31) (aM (yD im) (Q (.bool (decide (im<=15))) h) (Q uJ h)) (aM (op==25) (aC (true&&decide (0< (↑ks.length:Int))) (aK .i64 (List.map (IV.int .i64) ks) 0 fun n0=>aC (decide (0<=n0) &&decide (n0< (↑l.length:Int))) (bH 1 (List.flatMap cN l) (n0.toNat*3+2) fun(i1:Option Nat)(e2 l3:Nat)(c4:List IV)=>(1<=(↑l3:Int)/\(↑l3:Int)<=1000000)/\aM (yD im) (Q (.bool (decide (im<=wW (((↑l3:Int)-1)/ (2:Int)-1)))) h) (Q uJ h)))) (aM (yD im) (Q (.bool (decide (im<=0))) h) (Q uJ h)))))))))))):=by kernel_rfl
theorem f0J: ∀xs h Q,d9M xs h Q->aU env 206 xs h Q:=by
 intro xs h Q hk;unfold d9M at hk;split at hk
 ·rename_i e0 n0 c0 op im e1 n1 c1;obtain⟨l,ks,⟨rfl,rfl⟩,⟨rfl,rfl⟩,hb,hk⟩:=hk;refine aS (b8D) (g2U l op im ks e0 e1 h Q) ?_;delta yD uJ wW iI;have fin: ∀b:Bool,(b=true ↔ lB op im=true)->Q (.bool b) h:=fun b e=>by
   rw [<-Bool.eq_iff_iff]at e;rw [e];exact hk
  have hm:mxI 2=5/\mxI 3=255/\mxI 23=3/\mxI 28=3/\mxI 27=1000016/\mxI 30=7/\mxI 31=15:=by decide
  refine aA (by simp only [aN,bL,cH,gI,h1L]) ?_;unfold lB at fin;simp only [decide_eq_true_eq]at fin;refine aD (fun c1=>?_) (fun c1=>?_)
  ·exact fin _ (by rw [beq_iff_eq]at c1;simp [c1])
  refine aD (fun c2=>?_) (fun c2=>?_)
  ·rw [beq_iff_eq]at c2;subst c2;refine aD (fun d=>fin _ ?_) (fun d=>fin _ ?_)
   ·rw [decide_eq_true_eq]at d⊢;omega
   ·rw [decide_eq_false_iff_not]at d;simp only [h1X,false_iff];omega
  refine aD (fun c2=>?_) (fun c3=>?_)
  ·rw [beq_iff_eq]at c2;subst c2;refine aD (fun d=>fin _ ?_) (fun d=>fin _ ?_)
   ·rw [decide_eq_true_eq]at d⊢;omega
   ·rw [decide_eq_false_iff_not]at d;simp only [h1X,false_iff];omega
  refine aD (fun c2=>?_) (fun c4=>?_)
  ·rw [beq_iff_eq]at c2;subst c2;refine aD (fun d=>fin _ ?_) (fun d=>fin _ ?_)
   ·rw [decide_eq_true_eq]at d⊢;omega
   ·rw [decide_eq_false_iff_not]at d;simp only [h1X,false_iff];omega
  refine aD (fun c2=>?_) (fun c5=>?_)
  ·rw [beq_iff_eq]at c2;subst c2;refine aD (fun d=>fin _ ?_) (fun d=>fin _ ?_)
   ·rw [decide_eq_true_eq]at d⊢;omega
   ·rw [decide_eq_false_iff_not]at d;simp only [h1X,false_iff];omega
  refine aD (fun c2=>?_) (fun c6=>?_)
  ·rw [beq_iff_eq]at c2;subst c2;refine aD (fun d=>fin _ ?_) (fun d=>fin _ ?_)
   ·rw [decide_eq_true_eq]at d⊢;omega
   ·rw [decide_eq_false_iff_not]at d;simp only [h1X,false_iff];omega
  refine aD (fun c2=>?_) (fun c7=>?_)
  ·rw [beq_iff_eq]at c2;subst c2;refine aD (fun d=>fin _ ?_) (fun d=>fin _ ?_)
   ·rw [decide_eq_true_eq]at d⊢;omega
   ·rw [decide_eq_false_iff_not]at d;simp only [h1X,false_iff];omega
  refine aD (fun c2=>?_) (fun c8=>?_)
  ·rw [beq_iff_eq]at c2;subst c2;refine aD (fun d=>fin _ ?_) (fun d=>fin _ ?_)
   ·rw [decide_eq_true_eq]at d⊢;omega
   ·rw [decide_eq_false_iff_not]at d;simp only [h1X,false_iff];omega
  refine aD (fun c9=>absurd (beq_iff_eq.1 c9) hb) (fun c9=>?_);rw [beq_eq_false_iff_ne]at c1 c2 c3 c4 c5 c6 c7 c8 c9;have hx:mxI op= -1:=by unfold mxI;rw [if_neg (by omega),if_neg (by omega),if_neg (by omega),if_neg (by omega),if_neg (by omega),if_neg (by omega)]
  rw [hx]at fin;refine aD (fun d=>fin _ ?_) (fun d=>fin _ ?_)
  ·rw [decide_eq_true_eq]at d⊢;omega
  ·rw [decide_eq_false_iff_not]at d;simp only [h1X,false_iff];omega
 ·exact hk.elim
def d9N:=bB 206 d9M b2L
theorem d9O:aT env d9N:=aI f0J (b8D)
def d9P(xs:List IV)(h:Heap)(K:KT):Prop:=match xs with
 | [.agg [.int .i64 op,.int .i64 im,.vslice none e1 n1 1 c1],.vslice none e2 n2 1 c2]=> ∃(ks s:List Int),(n1=ks.length/\c1=ks.map (IV.int .i64))/\(n2=s.length/\c2=s.map (IV.int .i64))/\((op≠25/\op≠30/\op≠31)/\s.length<=1000000)/\K (.bool (vC op s)) h
 |_=>False
abbrev b8E(op:Int)(s:List Int)(h:Heap)(Q:KT):= ∃(s_1 w:List Int),(s.length=s_1.length/\List.map (IV.int .i64) s=List.map (IV.int .i64) s_1)/\((tS op).length=w.length/\List.map (IV.int .i64) (tS op)=List.map (IV.int .i64) w)/\(s_1.length<=w.length/\s_1.length<=1000000000)/\Q (.bool (decide (s_1=List.take s_1.length w)))
 h
def nV:=IV.bool false
def d9Q(s:List Int)(h:Heap)(Q:KT):=aM (decide ((↑s.length:Int)>=3)) (aM (Int.tmod (↑s.length:Int) (2:Int)==1) ((1<=(↑s.length:Int)/\(↑s.length:Int)<=1000000)/\aM (decide (((↑s.length:Int)-1)/ (2:Int)<=16)) (∃(m:Nat),(1<=m/\m<=16)/\(↑s.length:Int)=2*(↑m:Int)+1/\∀(w:List Int),w=2::(List.replicate
 m (1:Int)++(2:Int)::List.replicate (m-1) (1:Int))-> ∃(s_1 w_1:List Int),(s.length=s_1.length/\List.map (IV.int .i64) s=List.map (IV.int .i64) s_1)/\(w.length=w_1.length/\List.map (IV.int .i64) w=List.map (IV.int .i64) w_1)/\(s_1.length<=w_1.length/\s_1.length<=1000000000)
 /\Q (.bool (decide (s_1=List.take s_1.length w_1))) h) (Q nV h)) (Q nV h)) (Q nV h)
def uK(s:List Int):=List.map (IV.int .i64) s
def b8F(s:List Int):=true&&decide (0< (↑s.length:Int))
def d9R(s:List Int):=aC (true&& (decide (1<=(↑s.length:Int)) &&decide ((↑s.length:Int)<=(↑s.length:Int)))) False
theorem g2V(op im:Int)(ks s:List Int)(e1 e2:Nat)(h:Heap)(Q:KT):dF (aV d9N) env 205 dV bT bT [.agg [.int .i64 op,.int .i64 im,.vslice none e1 ks.length 1 (ks.map (IV.int .i64))],.vslice none e2 (s).length 1 ((s).map (IV.int .i64))] h Q=(
 aC (aN [IV.agg [.int .i64 op,iI im,IV.vslice none 0 ks.length 1 (List.map (IV.int .i64) ks)],IV.vslice none 0 s.length 1 (uK s)]) (aM (!oU op) (Q nV h) (aM (decide (ar op>=0)) (aM (ar op !=(↑(s.length):Int)) (Q nV h) (aM (op==31) (d9Q s h Q) (aM (op==30) (aM (decide ((↑s.length:Int)<1)) (Q nV h) (aM (decide ((↑s.length:Int)>7)) (Q nV h) (aC (b8F s) (aK .i64 (uK s) 0 fun n0=>aM (n0 !=(2:Int)) (Q nV h) (d9R s))))) (aM (op==22) (aC (true&&decide (1< (↑s.length:Int))) (aK .i64 (uK s) 1 fun n1=>aM (n1==2) (aC (b8F s) (aK .i64 (uK s) 0 fun n2=>aM (n2==1) (aC (true&&decide (2< (↑s.length:Int))) (aK .i64 (uK s) 2 fun n3=>Q (.bool (n3==2)) h)) (Q nV h))) (b8E op s h Q))) (b8E op s h Q))))) (aM (op==31) (d9Q s h Q) (aM (op==30) (aM (decide ((↑s.length:Int)< (1:Int))) (Q nV h) (aM (decide ((↑s.length:Int)>7)) (Q nV h) (aC (b8F s) (aK .i64 (uK s) 0 fun n4=>aM (n4 !=2) (Q nV h) (d9R s))))) (aM (op==22) (aC (true&&decide (1< (↑s.length:Int))) (aK .i64 (uK s) 1 fun n5=>aM (n5==2) (aC (b8F s) (aK .i64 (uK s) 0 fun n6=>aM (n6==1) (aC (true&&decide (2< (↑s.length:Int))) (aK .i64 (uK s) 2 fun n7=>Q (.bool (n7==(2:Int))) h)) (Q nV h))) (b8E op s h Q))) (b8E op s h Q))))))):=by kernel_rfl
theorem f0K: ∀xs h Q,d9P xs h Q->aU env 205 xs h Q:=by
 intro xs h Q hk;unfold d9P at hk;split at hk
 ·rename_i op im e1 n1 c1 e2 n2 c2;obtain⟨ks,s,⟨rfl,rfl⟩,⟨rfl,rfl⟩,hb,hk⟩:=hk;refine aS (d9O) (g2V op im ks s e1 e2 h Q) ?_;delta b8E d9Q uK b8F d9R nV iI;obtain⟨h3,hl⟩:=hb;refine aA (by simp only [aN,bL,cH,h1L]) (aD (fun c=>?_) (fun c=>?_))
  ·have e:vC op s=false:=by unfold vC;simp at c;simp [c]
   rw [e]at hk;exact hk
  rw [h3A]at c;have ha:=f2V c h3;refine aD (fun _=>?_) (fun d=>by rw [decide_eq_false_iff_not]at d;omega);refine aD (fun c1=>?_) (fun c1=>?_)
  ·have e:vC op s=false:=by unfold vC;rw [bne_iff_ne]at c1;simp [Ne.symm c1]
   rw [e]at hk;exact hk
  rw [bne_eq_false_iff_eq]at c1;have hv:vC op s=(if op=22/\s.getD 1 0=2 then decide (s=[1,2,2])else decide (s=(tS op).take s.length)):=by
   unfold vC
   rw [c,decide_eq_true c1.symm];rfl
  rw [hv]at hk;refine aD (fun d=>absurd (beq_iff_eq.1 d) h3.2.2) (fun _=>aD (fun d=>absurd (beq_iff_eq.1 d) h3.2.1) (fun _=>aD (fun d=>?_) (fun d=>?_)))
  ·rw [beq_iff_eq]at d;subst d;obtain⟨a,b,e,rfl⟩:=f2U (c1.symm.trans (by decide));refine aA (by simp) (gH (l:=[a,b,e]) (i:=1) (by simp) (aD (fun f=>aA (by simp) (gH (l:=[a,b,e]) (i:=0) (by simp) (aD (fun f1=>aA (by simp) (gH (l:=[a,b,e]) (i:=2) (by simp) ?_)) (fun f1=>?_)))) (fun f=>⟨[a,b,e],tS 22,⟨rfl,rfl⟩,⟨rfl,rfl⟩,⟨by show 3<=(tS 22).length;decide,by simp⟩,?_⟩)))
   ·simp at f f1;subst f f1;simp at hk;simp only [h6M,h6L];have e2:(e==2)=decide (e=2):=rfl;rw [e2];exact hk
   ·simp at f f1;subst f;simp [f1]at hk;exact hk
   ·simp at f;rw [if_neg (by simp [f])]at hk;exact hk
  ·rw [beq_eq_false_iff_ne]at d;rw [if_neg (fun q=>d q.1)]at hk;exact⟨s,tS op,⟨rfl,rfl⟩,⟨rfl,rfl⟩,⟨by omega,by omega⟩,hk⟩
 ·exact hk.elim
def d9S:=bB 205 d9P d9N
theorem d9T:aT env d9S:=aI f0K (d9O)
def b2M(xs:List IV)(h:Heap)(K:KT):Prop:=match xs with
 | [.vslice none e0 n0 3 c0,.agg [.int .i64 25,.int .i64 im,.vslice none e1 n1 1 c1]]=> ∃(l:List Nd)(ks:List Int),(n0=l.length/\c0=l.flatMap cN)/\(n1=ks.length/\c1=ks.map (IV.int .i64))/\(∃q:Int,ks=[q]/\(0<=q/\q<l.length)/\3<=(l.getD q.toNat default).ks.length/\(l.getD q.toNat default).ks.length<=33)/\K (.bool (decide (0<=im/\2*im+3<=(l.getD (ks.getD 0 0).toNat default).ks.length))) h
 |_=>False
theorem e7K(l:List Nd)(im:Int)(ks:List Int)(e0 e1:Nat)(h:Heap)(Q:KT):dF (aV d9S) env 206 dV bT bT [.vslice none e0 (l).length 3 ((l).flatMap cN),.agg [.int .i64 25,.int .i64 im,.vslice none e1 ks.length 1 (ks.map (IV.int .i64))]] h Q=(
 aC (aN [IV.vslice none 0 l.length 3 (List.flatMap cN l),IV.agg [.int .i64 25,iI im,IV.vslice none 0 ks.length 1 (List.map (IV.int .i64) ks)]]) (aC (true&&decide (0< (↑ks.length:Int))) (aK .i64 (List.map (IV.int .i64) ks) 0 fun n0=>aC (decide (0<=n0) &&decide (n0< (↑l.length:Int))) (bH 1 (List.flatMap cN l) (n0.toNat*3+2) fun(i1:Option Nat)(e2 l3:Nat)(c4:List IV)=>(1<=(↑l3:Int)/\(↑l3:Int)<=1000000)/\aM (decide (im>=0)) (Q (.bool (decide (im<=wW (((↑l3:Int)-1)/ (2:Int)-1)))) h) (Q (.bool false) h))))):=by kernel_rfl
theorem c8I: ∀xs h Q,b2M xs h Q->aU env 206 xs h Q:=by
 intro xs h Q hk;unfold b2M at hk;split at hk
 ·rename_i e0 n0 c0 im e1 n1 c1;obtain⟨l,ks,⟨rfl,rfl⟩,⟨rfl,rfl⟩,hb,hk⟩:=hk;refine aS (d9T) (e7K l im ks e0 e1 h Q) ?_;delta wW iI;obtain⟨q,rfl,hq,h3,h33⟩:=hb;have hlt:q.toNat<l.length:=by omega
  have eE:(l.getD q.toNat default).ks.length=(l[q.toNat]).ks.length:=by rw [h1A,h0U hlt];rfl
  replace hk:=(show Q (.bool (decide (0<=im/\2*im+3<=((l.getD q.toNat default).ks.length:Int)))) h from hk);rw [eE]at h3 h33 hk;refine aA (by simp only [aN,bL,cH,gI,h1L]) (aA (by simp) (gH (l:=[q]) (i:=0) (by simp) (aA (by simp;omega) (e7A hlt rfl ⟨⟨by omega,by omega⟩,?_⟩))));have hw:IntKind.i64.wrap ((((l[q.toNat]).ks.length:Int)-1)/2-1)=(((l[q.toNat]).ks.length:Int)-1)/2-1:=h0X _ (by omega);rw [hw];refine aD (fun c=>?_) (fun c=>?_)
  ·rw [decide_eq_true_eq]at c;refine cO hk ?_
   congr 1
   rw [h5Z,decide_eq_true_eq,decide_eq_true_eq];omega
  ·rw [decide_eq_false_iff_not]at c;refine cO hk ?_
   congr 1
   rw [decide_eq_false_iff_not];omega
 ·exact hk.elim
def c8J:=bB 206 b2M d9S
theorem d9U:aT env c8J:=aI c8I (d9T)
def c3F(xs:List IV)(h:Heap)(K:KT):Prop:=match xs with
 | [.vslice none e0 n0 3 c0,.agg [.int .i64 op,.int .i64 im,.vslice none e1 n1 1 c1]]=> ∃(l:List Nd)(ks:List Int),(n0=l.length/\c0=l.flatMap cN)/\(n1=ks.length/\c1=ks.map (IV.int .i64))/\(op=25-> ∃q:Int,ks=[q]/\(0<=q/\q<l.length)/\3<=(l.getD q.toNat default).ks.length/\(l.getD q.toNat default).ks.length<=33)/\K (.bool (wZ (eK l ⟨op,im,ks⟩) op im)) h
 |_=>False
theorem f6J: ∀xs h Q,c3F xs h Q->aU env 206 xs h Q:=by
 intro xs h Q hk;unfold c3F at hk;split at hk
 ·rename_i e0 n0 c0 op im e1 n1 c1;obtain⟨l,ks,⟨rfl,rfl⟩,⟨rfl,rfl⟩,hb,hk⟩:=hk;unfold wZ at hk
  by_cases o25:op=25
  ·subst o25;rw [if_pos rfl]at hk;exact c8I _ _ _ ⟨l,ks,⟨rfl,rfl⟩,⟨rfl,rfl⟩,hb rfl,hk⟩
  ·rw [if_neg o25]at hk;exact f0J _ _ _ ⟨l,ks,⟨rfl,rfl⟩,⟨rfl,rfl⟩,o25,hk⟩
 ·exact hk.elim
def c3G:=bB 206 c3F c8J
theorem c8K:aT env c3G:=aI f6J (d9U)
def b2N(xs:List IV)(h:Heap)(K:KT):Prop:=match xs with
 | [.agg [.int .i64 31,.int .i64 im,.vslice none e1 n1 1 c1],.vslice none e2 n2 1 c2]=> ∃(ks s:List Int),(n1=ks.length/\c1=ks.map (IV.int .i64))/\(n2=s.length/\c2=s.map (IV.int .i64))/\s.length<=1000000/\K (.bool (a3G s)) h
 |_=>False
theorem e7L(im:Int)(ks s:List Int)(e1 e2:Nat)(h:Heap)(Q:KT):dF (aV c3G) env 205 dV bT bT [.agg [.int .i64 31,.int .i64 im,.vslice none e1 ks.length 1 (ks.map (IV.int .i64))],.vslice none e2 (s).length 1 ((s).map (IV.int .i64))] h Q=(
 aC (aN [IV.agg [.int .i64 31,iI im,IV.vslice none 0 ks.length 1 (List.map (IV.int .i64) ks)],IV.vslice none 0 s.length 1 (List.map (IV.int .i64) s)]) (aM (decide ((↑s.length:Int)>=3)) (aM (Int.tmod (↑s.length:Int) (2:Int)==1) ((1<=(↑s.length:Int)/\(↑s.length:Int)<=1000000)/\aM (decide (((↑s.length:Int)-1)/ (2:Int)<=16)) (∃(m:Nat),(1<=m/\m<=16)/\(↑s.length:Int)=2*(↑m:Int)+1/\∀(w:List Int),w=2::(List.replicate m (1:Int)++(2:Int)::List.replicate (m-1) (1:Int))-> ∃(s_1:List Int),∃(w_1:List Int),(s.length=s_1.length/\List.map (IV.int .i64) s=List.map (IV.int .i64) s_1)/\(w.length=w_1.length/\List.map (IV.int .i64) w=List.map (IV.int .i64) w_1)/\(s_1.length<=w_1.length/\s_1.length<=1000000000)/\Q (.bool (decide (s_1=List.take s_1.length w_1))) h) (Q (.bool false) h)) (Q (.bool false) h)) (Q (.bool false) h))):=by kernel_rfl
theorem c8L: ∀xs h Q,b2N xs h Q->aU env 205 xs h Q:=by
 intro xs h Q hk;unfold b2N at hk;split at hk
 ·rename_i im e1 n1 c1 e2 n2 c2;obtain⟨ks,s,⟨rfl,rfl⟩,⟨rfl,rfl⟩,hl,hk⟩:=hk;refine aS (c8K) (e7L im ks s e1 e2 h Q) ?_;delta iI;have hz: ¬a3G s=true->Q (.bool false) h:=fun e=>by
   rw [h7R]at e;rw [e]at hk;exact hk
  have ho:=fun q:a3G s=true=>sD q
  refine aA (by simp only [aN,bL,cH,h1L]) (aD (fun c1=>?_) (fun c=>hz (fun q=>by rw [decide_eq_false_iff_not]at c;have:=ho q;omega)));rw [decide_eq_true_eq]at c1;rw [h3N (by omega)];refine aD (fun c2=>⟨⟨by omega,by omega⟩,?_⟩) (fun c=>hz (fun q=>by rw [beq_eq_false_iff_ne]at c;have:=ho q;omega));rw [beq_iff_eq]at c2;refine aD (fun c3=>?_) (fun c=>hz (fun q=>by rw [decide_eq_false_iff_not]at c;have:=ho q;omega));rw [decide_eq_true_eq]at c3;refine⟨s.length/2,⟨by omega,by omega⟩,by omega,fun w hw0=>?_⟩;have hw:w=lsL (s.length/2):=hw0;have hl2:w.length=s.length:=by rw [hw,c6C (by omega)];omega
  refine⟨s,w,⟨rfl,rfl⟩,⟨rfl,rfl⟩,⟨by omega,by omega⟩,cO hk ?_⟩
  congr 1
  rw [h1H (by omega),hw,h5Z,decide_eq_true_eq];exact⟨fun q=>(ho q).2.2.2,fun q=>by unfold a3G;simp only [h0Y,decide_eq_true_eq];exact⟨by omega,by omega,by omega,q⟩⟩
 ·exact hk.elim
def b2O:=bB 205 b2N c3G
theorem b8G:aT env b2O:=aI c8L (c8K)
def b2P(xs:List IV)(h:Heap)(K:KT):Prop:=match xs with
 | [.agg [.int .i64 25,.int .i64 im,.vslice none e1 n1 1 c1],.vslice none e2 n2 1 c2]=> ∃(ks s:List Int),(n1=ks.length/\c1=ks.map (IV.int .i64))/\(n2=s.length/\c2=s.map (IV.int .i64))/\s.length<=1000000/\K (.bool (decide (s=[3]))) h
 |_=>False
theorem e7M(im:Int)(ks s:List Int)(e1 e2:Nat)(h:Heap)(Q:KT):dF (aV b2O) env 205 dV bT bT [.agg [.int .i64 25,.int .i64 im,.vslice none e1 ks.length 1 (ks.map (IV.int .i64))],.vslice none e2 (s).length 1 ((s).map (IV.int .i64))] h Q=(
 aC (aN [IV.agg [.int .i64 25,iI im,IV.vslice none 0 ks.length 1 (List.map (IV.int .i64) ks)],IV.vslice none 0 s.length 1 (List.map (IV.int .i64) s)]) (aM ((1:Int) !=(↑s.length:Int)) (Q (.bool false) h) (∃(s_1:List Int),∃(w:List Int),(s.length=s_1.length/\List.map (IV.int .i64) s=List.map (IV.int .i64) s_1)/\((1:Nat)=w.length/\[iI 3]=List.map (IV.int .i64) w)/\(s_1.length<=w.length/\s_1.length<=1000000000)/\Q (.bool (decide (s_1=List.take s_1.length w))) h))):=by kernel_rfl
theorem c8M: ∀xs h Q,b2P xs h Q->aU env 205 xs h Q:=by
 intro xs h Q hk;unfold b2P at hk;split at hk
 ·rename_i im e1 n1 c1 e2 n2 c2;obtain⟨ks,s,⟨rfl,rfl⟩,⟨rfl,rfl⟩,hl,hk⟩:=hk;refine aS (b8G) (e7M im ks s e1 e2 h Q) ?_;delta iI;refine aA (by simp only [aN,bL,cH,h1L]) (aD (fun c=>?_) (fun c=>?_))
  ·rw [decide_eq_false (fun e=>by rw [e]at c;simp at c)]at hk;exact hk
  ·rw [bne_eq_false_iff_eq]at c;have hl1:s.length=1:=by omega
   refine⟨s,[3],⟨rfl,rfl⟩,⟨rfl,rfl⟩,⟨by simp [hl1],by omega⟩,?_⟩;rw [hl1];exact hk
 ·exact hk.elim
def b2Q:=bB 205 b2P b2O
theorem b8H:aT env b2Q:=aI c8M (b8G)
def g8H(s:List Int):Inv':=hJ (Nat×Nat×List Int) (fun x=>[(72,.v (.vslice none x.2.1 x.2.2.length 1 (x.2.2.map (IV.int .i64)))),(73,.v (.int .i64 (x.2.2.length:Int))),(74,.v (.int .i64 (x.1:Int)))]) (fun _=>[]) (fun _=>Heap.empty)
 (fun x=>x.2.2=s.drop 1/\x.1<=x.2.2.length/\∀j,j<x.1->x.2.2[j]?=some 1) (fun x=>x.2.2.length-x.1)
def b2R(xs:List IV)(h:Heap)(K:KT):Prop:=match xs with
 | [.agg [.int .i64 30,.int .i64 im,.vslice none e1 n1 1 c1],.vslice none e2 n2 1 c2]=> ∃(ks s:List Int),(n1=ks.length/\c1=ks.map (IV.int .i64))/\(n2=s.length/\c2=s.map (IV.int .i64))/\s.length<=1000000/\K (.bool (a1H s)) h
 |_=>False
def sY(x:Nat×Nat×List Int):=x.2.2
def a0Y:=IV.int .i64
abbrev d9V(s:List Int)(x:Nat×Nat×List Int):=x.2.2=List.drop 1 s/\x.1<=List.length (sY x)/\∀(j:Nat),j<x.1->(sY x)[j]?=some (1:Int)
def d9W(x:Nat×Nat×List Int):=TV.v (.vslice none x.2.1 ((sY x).length) 1 (List.map a0Y (sY x)))
def c8N(s:List Int):=(↑s.length:Int).toNat-1
theorem e7N(im:Int)(ks s:List Int)(e1 e2:Nat)(h:Heap)(Q:KT):dF (aV b2Q) env 205 dV (tK 11 (g8H s)) bT [.agg [.int .i64 30,.int .i64 im,.vslice none e1 ks.length 1 (ks.map (IV.int .i64))],.vslice none e2 (s).length 1 ((s).map (IV.int .i64))] h Q=(
 aC (aN [IV.agg [.int .i64 30,iI im,IV.vslice none 0 ks.length 1 (List.map a0Y ks)],IV.vslice none 0 s.length 1 (List.map a0Y s)]) (aM (decide ((↑s.length:Int)<1)) (Q (.bool false) h) (aM (decide ((↑s.length:Int)>7)) (Q (.bool false) h) (aC (true&&decide (0< (↑s.length:Int))) (aK .i64 (List.map a0Y s) 0 fun n0=>aM (n0 !=2) (Q (.bool false) h) (aC (true&& (decide (1<=(↑s.length:Int)) &&decide ((↑s.length:Int)<=(↑s.length:Int)))) ((∃(x:Nat×Nat×List Int),some (TV.v (.vslice none ((0:Nat)- (s.length- (↑s.length:Int).toNat)*1) (c8N s) 1 (List.take ((c8N s)*1) (List.drop 1 (List.map a0Y s)))))=some (d9W x)/\tI (↑(c8N s):Int)=tI (↑((sY x).length):Int)/\tI 0=tI (↑x.1:Int)/\Heap.mk PT.nil 0=Heap.mk PT.nil 0/\(d9V s x)/\True)/\∀(x:Nat×Nat×List Int)(b:FF),(d9V s x)->aM (decide ((↑x.1:Int)< (↑((sY x).length):Int))) (aC (decide (0<=(↑x.1:Int)) &&decide ((↑x.1:Int)< (↑((sY x).length):Int))) (aK .i64 (List.map a0Y (sY x)) ((↑x.1:Int).toNat*1) fun n1=>aM (n1 !=1) (Q (.bool false) h) (∃(x_1:Nat×Nat×List Int),some (d9W x)=some (TV.v (.vslice none x_1.2.1 x_1.2.2.length 1 (List.map a0Y ((x_1.2).2))))/\tI (↑((sY x).length):Int)=tI (↑x_1.2.2.length:Int)/\tI (wW ((↑x.1:Int)+1))=tI (↑(x_1.1):Int)/\Heap.mk PT.nil 0=Heap.mk PT.nil 0/\(x_1.2.2=List.drop 1 s/\x_1.1<=x_1.2.2.length/\∀(j:Nat),j<x_1.1->x_1.2.2[j]?=some (1:Int))/\x_1.2.2.length-x_1.1< (sY x).length-x.1))) (Q (.bool true) h)))))))):=by kernel_rfl
theorem c8O: ∀xs h Q,b2R xs h Q->aU env 205 xs h Q:=by
 intro xs h Q hk;unfold b2R at hk;split at hk
 ·rename_i im e1 n1 c1 e2 n2 c2;obtain⟨ks,s,⟨rfl,rfl⟩,⟨rfl,rfl⟩,hl,hk⟩:=hk;refine aS (b8H) (e7N im ks s e1 e2 h Q) ?_;delta sY a0Y d9V d9W c8N tI wW iI;have hz:a1H s=false->Q (.bool false) h:=fun e=>by rw [e]at hk;exact hk
  have ht:a1H s=true->Q (.bool true) h:=fun e=>by rw [e]at hk;exact hk
  have hn: ∀{p:Prop},(a1H s=true->p)-> ¬p->a1H s=false:=fun f n=>by
   cases e:a1H s
   ·rfl
   ·exact absurd (f e) n
  refine aA (by simp only [aN,bL,cH,h1L]) ?_
  cases s with
  |nil=>exact dW (fun c=>hz rfl) (fun c=>absurd (show(([]:List Int).length:Int)<1 by simp) c)
  |cons a r=>
   have hlr:(a::r).length=r.length+1:=h1O;have hc:a1H (a::r)=true->r.length<=6/\a=2/\(r.all fun x=>decide (x=1))=true:=fun e=>by
    simp only [a1H,h0Y,decide_eq_true_eq]at e;exact e
   refine dW (fun c=>absurd c (by rw [hlr];omega)) (fun _=>dW (fun c=>hz (hn hc (fun q=>by have:=q.1;rw [hlr]at c;omega))) (fun c6=>aA (by rw [h2G,decide_eq_true_eq,hlr];omega) (bV (n:=a) rfl (aD (fun c=>hz (hn hc (fun q=>?_))) (fun c2=>aA (by simp only [h2G,h0Y,decide_eq_true_eq,hlr];omega) ?_)))))
   ·rw [bne_iff_ne]at c;exact c q.2.1
   rw [bne_eq_false_iff_eq]at c2;have e1:(((a::r).length:Nat):Int).toNat-1=r.length:=by rw [h0Z,hlr];rfl
   rw [e1,h2H,List.drop_succ_cons,h4J,h1H (by rw [h1P];omega)];refine⟨⟨(0,_,r),rfl,rfl,rfl,rfl,⟨rfl,h1N _,fun j hj=>absurd hj (h4Q _)⟩,True.intro⟩,?_⟩;rintro⟨i,e,r2⟩ _ ⟨hr,hi,hj⟩;have hr:r2=r:=hr;subst hr;dsimp only at hi hj⊢;refine dW (fun ci=>?_) (fun ci=>ht ?_)
   ·have hlt:i<r2.length:=by omega
    refine aP (by omega) (bV (n:=r2[i]) (by rw [h0Z,h1W,h2A,h0U hlt];rfl) (aD (fun c=>hz (hn hc (fun q=>?_))) (fun c=>⟨(i+1,e,r2),rfl,rfl,(by(try dsimp only);rw [h0X _ (by omega)];rfl),rfl,⟨rfl,hlt,fun j hj2=>?_⟩,by dsimp only;omega⟩)))
    ·rw [bne_iff_ne]at c;exact c (by simpa using h2L.1 q.2.2 _ (h1B hlt))
    ·rw [bne_eq_false_iff_eq]at c;rcases h2D j i with z|z
     ·exact hj j z
     ·have hji:j=i:=by
       have:j<i+1:=hj2;omega
      subst hji;rw [h0U hlt,c]
   ·have h6:r2.length<=6:=by rw [hlr]at c6;omega
    simp only [a1H,h0Y,decide_eq_true_eq];refine⟨h6,c2,h2L.2 fun x hx=>?_⟩;obtain⟨j,hjl,rfl⟩:=h4L.1 hx;have:=hj j (by omega);rw [h0U hjl,h0V]at this;simpa using this
 ·exact hk.elim
def c8P:=bB 205 b2R b2Q
theorem d9X:aT env c8P:=aI c8O (b8H)
def c3H(xs:List IV)(h:Heap)(K:KT):Prop:=match xs with
 | [.agg [.int .i64 op,.int .i64 im,.vslice none e1 n1 1 c1],.vslice none e2 n2 1 c2]=> ∃(ks s:List Int),(n1=ks.length/\c1=ks.map (IV.int .i64))/\(n2=s.length/\c2=s.map (IV.int .i64))/\(True/\True/\s.length<=1000000)/\K (.bool (qV op s)) h
 |_=>False
theorem f6K: ∀xs h Q,c3H xs h Q->aU env 205 xs h Q:=by
 intro xs h Q hk;unfold c3H at hk;split at hk
 ·rename_i op im e1 n1 c1 e2 n2 c2;obtain⟨ks,s,⟨rfl,rfl⟩,⟨rfl,rfl⟩,⟨_,_,hl⟩,hk⟩:=hk;unfold qV at hk
  by_cases h30:op=30
  ·subst h30;rw [if_pos rfl]at hk;exact c8O _ _ _ ⟨ks,s,⟨rfl,rfl⟩,⟨rfl,rfl⟩,hl,hk⟩
  rw [if_neg h30]at hk;unfold a3P at hk
  by_cases o31:op=31
  ·subst o31;rw [if_pos rfl]at hk;exact c8L _ _ _ ⟨ks,s,⟨rfl,rfl⟩,⟨rfl,rfl⟩,hl,hk⟩
  rw [if_neg o31]at hk
  by_cases o25:op=25
  ·subst o25;rw [if_pos rfl]at hk;exact c8M _ _ _ ⟨ks,s,⟨rfl,rfl⟩,⟨rfl,rfl⟩,hl,hk⟩
  rw [if_neg o25]at hk;exact f0K _ _ _ ⟨ks,s,⟨rfl,rfl⟩,⟨rfl,rfl⟩,⟨⟨o25,h30,o31⟩,hl⟩,hk⟩
 ·exact hk.elim
def c3I:=bB 205 c3H c8P
theorem c8Q:aT env c3I:=aI f6K (d9X)
def g2W(l:List Nd)(i e0 id:Nat)(k0:List Int)(h:Heap):Inv':= .or
 (hJ (Nat×Nd) (fun x=>[(0,.v (.vslice none e0 (l).length 3 ((l).flatMap cN))),(1,.v (.int .i64 i)),(2,.v (.hslice id 0 k0.length 1)),(7,.l 7 0),(16,.v (.vslice none 0 (x.2.ks).length 1 ((x.2.ks).map (IV.int .i64)))),(17,.v (.int .i64 x.2.ks.length)),(18,.v (.int .i64 x.1)),(8,.v .nilslice)]) (fun x=>[(7,[.int .i64 x.2.op,.int .i64 x.2.im,.vslice none 0 (x.2.ks).length 1 ((x.2.ks).map (IV.int .i64))])]) (fun _=>h) (fun x=>l[i]?=some x.2/\x.1=0) (fun x=>x.2.ks.length-x.1))
 (hJ (Nat×Nd×List Int×Nat×Heap) (fun x=>[(0,.v (.vslice none e0 (l).length 3 ((l).flatMap cN))),(1,.v (.int .i64 i)),(2,.v (.hslice id 0 k0.length 1)),(7,.l 7 0),(16,.v (.vslice none 0 (x.2.1.ks).length 1 ((x.2.1.ks).map (IV.int .i64)))),(17,.v (.int .i64 x.2.1.ks.length)),(18,.v (.int .i64 x.1)),(8,.v (.vslice (some x.2.2.2.1) x.2.2.1.length x.2.2.1.length 1 (x.2.2.1.map (IV.int .i64))))]) (fun x=>[(7,[.int .i64 x.2.1.op,.int .i64 x.2.1.im,.vslice none 0 (x.2.1.ks).length 1 ((x.2.1.ks).map (IV.int .i64))])]) (fun x=>x.2.2.2.2) (fun x=>l[i]?=some x.2.1/\SIG l i x.1 x.2.2.1/\(0<x.1/\x.2.2.2.2.get x.2.2.2.1= .tip x.2.2.1.length/\x.2.2.2.1≠id)/\(x.2.2.2.2.get id=h.get id/\h.next<=x.2.2.2.2.next)) (fun x=>x.2.1.ks.length-x.1))
def f6L(xs:List IV)(h:Heap)(K:KT):Prop:=match xs with
 | [.vslice none e0 n0 3 c0,.int .i64 q,.hslice id 0 n2 1]=> ∃(l:List Nd)(i:Nat)(k0:List Int),(n0=l.length/\c0=l.flatMap cN/\q=(i:Int)/\n2=k0.length)/\SPH h id l i k0/\∀h2:Heap,h2.get id=h.get id/\h.next<=h2.next->K (.int .i64 (cC (l.take i) (aG (l.take i)) (l.getD i default))) h2
 |_=>False
def pI(l:List Nd)(e0:Nat):=TV.v (.vslice none e0 l.length 3 (List.flatMap cN l))
def cU:=IV.int .i64
def pJ(id:Nat)(k0:List Int):=TV.v (.hslice id 0 k0.length 1)
def pK(i:Nat):=TV.v (.int .i64 (↑i:Int))
def mZ:=iI 2
def pL:=iI 0
def pM:=TV.l 7 0
def a5L:=iI 1
def b8I(l_1:List Nd)(q:Int):=Nd.ks (List.getD l_1 q.toNat default)
def d9Y(h:Heap)(n10:Int):=TV.v (.vslice (some (h.next)) 1 1 1 [iI n10])
def a9J:=TV.v IV.nilslice
theorem g8I(l:List Nd)(i:Nat)(e0 id:Nat)(k0:List Int)(h:Heap)(Q:KT):dF (aV c3I) env 154 dV (tK 5 (g2W l i e0 id k0 h)) bT [.vslice none e0 (l).length 3 ((l).flatMap cN),.int .i64 i,.hslice id 0 k0.length 1] h Q=(
 aC (decide (0<=(↑i:Int)) &&decide ((↑i:Int)< (↑l.length:Int))) (aK .i64 (List.flatMap cN l) ((↑i:Int).toNat*3) fun n0=>aK .i64 (List.flatMap cN l) ((↑i:Int).toNat*3+1) fun n1=>bH 1 (List.flatMap cN l) ((↑i:Int).toNat*3+1+1) fun(i2:Option Nat)(e3 l4:Nat)(c5:List IV)=>((∃(x:Nat×Nd),some (pI l e0)=some (pI l e0)/\some (pK i)=some (pK i)/\some (pJ id k0)=some (pJ id k0)/\some pM=some pM/\some (TV.v (.vslice i2 e3 l4 (1:Nat) c5))=some (TV.v (.vslice none 0 ((Nd.ks x.2).length) 1 (List.map cU (Nd.ks x.2))))/\tI (↑l4:Int)=tI (↑((Nd.ks x.2).length):Int)/\some (TV.v pL)=tI (↑x.1:Int)/\some a9J=some a9J/\some [iI n0,iI n1,IV.vslice i2 e3 l4 1 c5]=some [iI (Nd.op x.2),iI (Nd.im x.2),IV.vslice none 0 ((Nd.ks (x.2)).length) 1 (List.map cU (Nd.ks x.2))]/\h=h/\(l[i]?=some x.2/\x.1=0)/\True) \/ ∃(x:Nat×Nd×List Int×Nat×Heap),some (pI l e0)=some (pI l e0)/\some (pK i)=some (pK i)/\some (pJ id k0)=some (pJ id k0)/\some pM=some pM/\some (TV.v (.vslice i2 e3 l4 1 c5))=some (TV.v (.vslice none 0 ((Nd.ks x.2.1).length) 1 (List.map cU (Nd.ks x.2.1))))/\tI (↑l4:Int)=tI (↑((Nd.ks x.2.1).length):Int)/\some (TV.v pL)=tI (↑x.1:Int)/\some a9J=some (TV.v (.vslice (some x.2.2.2.1) x.2.2.1.length x.2.2.1.length (1:Nat) (List.map cU x.2.2.1)))/\some [iI n0,iI n1,IV.vslice i2 e3 l4 1 c5]=some [iI (Nd.op x.2.1),iI (Nd.im x.2.1),IV.vslice none 0 ((Nd.ks x.2.1).length) 1 (List.map cU (Nd.ks x.2.1))]/\h=x.2.2.2.2/\(l[i]?=some x.2.1/\SIG l i x.1 x.2.2.1/\(0<x.1/\Heap.get (((x.2.2).2).2) x.2.2.2.1=IObj.tip x.2.2.1.length/\x.2.2.2.1≠id)/\Heap.get x.2.2.2.2 id=h.get id/\Heap.next h<=Heap.next (((x.2.2).2).2))/\True)/\(∀(x:Nat×Nd)(b:FF),l[i]?=some x.2/\x.1=0->aM (decide ((↑x.1:Int)< (↑((Nd.ks x.2).length):Int))) (aC (decide (0<=(↑x.1:Int)) &&decide ((↑x.1:Int)< (↑((Nd.ks (x.2)).length):Int))) (aK .i64 (List.map cU (Nd.ks x.2)) ((↑x.1:Int).toNat*1) fun n6=>aM (decide (n6<0)) (Q pL h) (aM (decide (n6>=(↑i:Int))) (Q pL h) (aC (decide (0<=n6) &&decide (n6< (↑k0.length:Int))) (aF h id fun r7=>aK .i64 r7 ((0:Nat)+n6.toNat*1) fun n8=>aM (n8==0) (Q pL h) (aC (decide (0<=n6) &&decide (n6< (↑k0.length:Int))) (aF h id fun r9=>aK .i64 r9 ((0:Nat)+n6.toNat*(1:Nat)) fun n10=>(∃(x_1:Nat×Nd),some (pI l e0)=some (pI l e0)/\some (pK i)=some (pK i)/\some (pJ id k0)=some (pJ id k0)/\some pM=some pM/\some (TV.v (.vslice none 0 ((Nd.ks x.2).length) 1 (List.map cU (Nd.ks (x.2)))))=some (TV.v (.vslice none 0 ((Nd.ks x_1.2).length) 1 (List.map cU (Nd.ks x_1.2))))/\tI (↑((Nd.ks x.2).length):Int)=tI (↑((Nd.ks x_1.2).length):Int)/\tI (wW ((↑x.1:Int)+1))=tI (↑x_1.1:Int)/\some (d9Y h n10)=some a9J/\some [iI (Nd.op x.2),iI (Nd.im x.2),IV.vslice none 0 ((Nd.ks x.2).length) 1 (List.map cU (Nd.ks x.2))]=some [iI (Nd.op x_1.2),iI (Nd.im x_1.2),IV.vslice none 0 ((Nd.ks x_1.2).length) 1 (List.map cU (Nd.ks x_1.2))]/\Heap.push h (IObj.tip (1:Nat))=h/\(l[i]?=some x_1.2/\x_1.1=0)/\List.length (Nd.ks x_1.2)-x_1.1< (Nd.ks x.2).length-x.1) \/ ∃(x_1:Nat×Nd×List Int×Nat×Heap),some (pI l e0)=some (pI l e0)/\some (pK i)=some (pK i)/\some (pJ id k0)=some (pJ id k0)/\some pM=some pM/\some (TV.v (.vslice none 0 ((Nd.ks x.2).length) 1 (List.map cU (Nd.ks x.2))))=some (TV.v (.vslice none 0 ((Nd.ks x_1.2.1).length) 1 (List.map cU (Nd.ks (x_1.2.1)))))/\tI (↑((Nd.ks x.2).length):Int)=tI (↑((Nd.ks x_1.2.1).length):Int)/\tI (wW ((↑x.1:Int)+1))=some (TV.v (iI (↑x_1.1:Int)))/\some (d9Y h n10)=some (TV.v (.vslice (some x_1.2.2.2.1) x_1.2.2.1.length x_1.2.2.1.length 1 (List.map cU (((x_1.2).2).1))))/\some [iI (Nd.op x.2),iI (Nd.im x.2),IV.vslice none 0 ((Nd.ks x.2).length) 1 (List.map cU (Nd.ks x.2))]=some [iI (Nd.op x_1.2.1),iI (Nd.im (x_1.2.1)),IV.vslice none 0 ((Nd.ks x_1.2.1).length) 1 (List.map cU (Nd.ks x_1.2.1))]/\Heap.push h (IObj.tip (1:Nat))=x_1.2.2.2.2/\(l[i]?=some x_1.2.1/\SIG l i x_1.1 x_1.2.2.1/\(0<x_1.1/\Heap.get x_1.2.2.2.2 x_1.2.2.2.1=IObj.tip x_1.2.2.1.length/\x_1.2.2.2.1≠id)/\Heap.get (x_1.2.2.2.2) id=h.get id/\Heap.next h<=Heap.next x_1.2.2.2.2)/\List.length (Nd.ks x_1.2.1)-x_1.1< (Nd.ks x.2).length-x.1))))))) (∃(ks s:List Int),((Nd.ks x.2).length=ks.length/\List.map cU (Nd.ks x.2)=List.map cU ks)/\((0:Nat)=s.length/\[]=List.map cU s)/\(True/\True/\s.length<=1000000)/\aM (!qV (Nd.op x.2) s) (Q pL h) (∃(l_1:List Nd),∃(ks:List Int),(l.length=l_1.length/\List.flatMap cN l=List.flatMap cN l_1)/\((Nd.ks x.2).length=ks.length/\List.map cU (Nd.ks x.2)=List.map cU ks)/\(Nd.op x.2=25-> ∃(q:Int),ks=[q]/\(0<=q/\q< (↑l_1.length:Int))/\3<=List.length (b8I l_1 q)/\List.length (b8I l_1 q)<=33)/\aM (!wZ (eK l_1 (Nd.mk (Nd.op x.2) (Nd.im x.2) ks)) (Nd.op x.2) (Nd.im x.2)) (Q pL h) (aM (Nd.op x.2==31) (Q (.int .i64 3) h) (aM (Nd.op x.2==26) (Q mZ h) (aM (Nd.op x.2==27) (Q mZ h) (aM (Nd.op x.2==28) (Q mZ h) (aM (Nd.op x.2==29) (Q mZ h) (aM (Nd.op x.2==30) (Q mZ h) (aM (Nd.op x.2==22) False (aM (Nd.op x.2==3) (aM (Int.tmod (Nd.im x.2) (16:Int)==0) (Q mZ h) (Q a5L h)) (aM (Nd.op x.2==25) (aM (Nd.im x.2==0) (Q mZ h) (Q a5L h)) (Q a5L h)))))))))))))/\∀(x:Nat×Nd×List Int×Nat×Heap)(b:FF),l[i]?=some x.2.1/\SIG l i x.1 x.2.2.1/\(0<x.1/\Heap.get x.2.2.2.2 x.2.2.2.1=IObj.tip x.2.2.1.length/\x.2.2.2.1≠id)/\Heap.get x.2.2.2.2 id=h.get id/\Heap.next h<=Heap.next x.2.2.2.2->aM (decide ((↑x.1:Int)< (↑((Nd.ks x.2.1).length):Int))) (aC (decide (0<=(↑x.1:Int)) &&decide ((↑x.1:Int)< (↑((Nd.ks x.2.1).length):Int))) (aK .i64 (List.map cU (Nd.ks x.2.1)) ((↑x.1:Int).toNat*1) fun n11=>aM (decide (n11<0)) (Q pL x.2.2.2.2) (aM (decide (n11>=(↑i:Int))) (Q pL x.2.2.2.2) (aC (decide (0<=n11) &&decide (n11< (↑k0.length:Int))) (aF x.2.2.2.2 id fun r12=>aK .i64 r12 ((0:Nat)+n11.toNat*(1:Nat)) fun n13=>aM (n13==0) (Q pL x.2.2.2.2) (aC (decide (0<=n11) &&decide (n11< (↑k0.length:Int))) (aF x.2.2.2.2 id fun r14=>aK .i64 r14 ((0:Nat)+n11.toNat*1) fun n15=>dG x.2.2.2.2 x.2.2.2.1 fun(m16:Nat)=>aC (Nat.beq m16 x.2.2.1.length&&Nat.ble ((x.2.2.1.length+1)*8) (140737488355328:Nat)) ((∃(x_1:Nat×Nd),some (pI l e0)=some (pI l e0)/\some (pK i)=some (pK i)/\some (pJ id k0)=some (pJ id k0)/\some pM=some pM/\some (TV.v (.vslice none 0 ((Nd.ks x.2.1).length) 1 (List.map cU (Nd.ks x.2.1))))=some (TV.v (.vslice none 0 ((Nd.ks x_1.2).length) 1 (List.map cU (Nd.ks x_1.2))))/\tI (↑((Nd.ks x.2.1).length):Int)=tI (↑((Nd.ks x_1.2).length):Int)/\tI (wW ((↑x.1:Int)+1))=tI (↑x_1.1:Int)/\some (TV.v (.vslice (some x.2.2.2.1) ((((x.2).2).1).length+1) (x.2.2.1.length+1) 1 (List.map cU x.2.2.1++ [iI n15])))=some a9J/\some [iI (Nd.op x.2.1),iI (Nd.im x.2.1),IV.vslice none (0:Nat) ((Nd.ks x.2.1).length) (1:Nat) (List.map cU (Nd.ks x.2.1))]=some [iI (Nd.op x_1.2),iI (Nd.im x_1.2),IV.vslice none 0 ((Nd.ks x_1.2).length) 1 (List.map cU (Nd.ks x_1.2))]/\Heap.set x.2.2.2.2 x.2.2.2.1 (IObj.tip (x.2.2.1.length+1))=h/\(l[i]?=some x_1.2/\x_1.1=0)/\List.length (Nd.ks x_1.2)-x_1.1< (Nd.ks x.2.1).length-x.1) \/ ∃(x_1:Nat×Nd×List Int×Nat×Heap),some (pI l e0)=some (pI l e0)/\some (pK i)=some (pK i)/\some (pJ id k0)=some (pJ id k0)/\some pM=some pM/\some (TV.v (.vslice none 0 ((Nd.ks x.2.1).length) 1 (List.map cU (Nd.ks x.2.1))))=some (TV.v (.vslice none 0 ((Nd.ks x_1.2.1).length) 1 (List.map cU (Nd.ks x_1.2.1))))/\tI (↑((Nd.ks (x.2.1)).length):Int)=tI (↑((Nd.ks x_1.2.1).length):Int)/\tI (wW ((↑x.1:Int)+1))=tI (↑x_1.1:Int)/\some (TV.v (.vslice (some x.2.2.2.1) (x.2.2.1.length+1) (x.2.2.1.length+1) 1 (List.map cU x.2.2.1++ [iI n15])))=some (TV.v (.vslice (some (x_1.2.2.2.1)) x_1.2.2.1.length x_1.2.2.1.length 1 (List.map cU x_1.2.2.1)))/\some [iI (Nd.op x.2.1),iI (Nd.im (x.2.1)),IV.vslice none 0 ((Nd.ks x.2.1).length) 1 (List.map cU (Nd.ks x.2.1))]=some [iI (Nd.op x_1.2.1),iI (Nd.im x_1.2.1),IV.vslice none 0 ((Nd.ks x_1.2.1).length) 1 (List.map cU (Nd.ks x_1.2.1))]/\Heap.set x.2.2.2.2 x.2.2.2.1 (IObj.tip (x.2.2.1.length+1))=((x_1.2.2).2).2/\(l[i]?=some x_1.2.1/\SIG l i x_1.1 x_1.2.2.1/\(0<x_1.1/\Heap.get x_1.2.2.2.2 x_1.2.2.2.1=IObj.tip ((((x_1.2).2).1).length)/\x_1.2.2.2.1≠id)/\Heap.get x_1.2.2.2.2 id=h.get id/\Heap.next h<=Heap.next x_1.2.2.2.2)/\List.length (Nd.ks x_1.2.1)-x_1.1< (Nd.ks (x.2.1)).length-x.1)))))))) (∃(ks s:List Int),((Nd.ks x.2.1).length=ks.length/\List.map cU (Nd.ks x.2.1)=List.map cU ks)/\(x.2.2.1.length=s.length/\List.map cU ((x.2.2).1)=List.map cU s)/\(True/\True/\s.length<=1000000)/\aM (!qV (Nd.op x.2.1) s) (Q pL x.2.2.2.2) (∃(l_1:List Nd),∃(ks:List Int),(l.length=l_1.length/\List.flatMap cN l=List.flatMap cN l_1)/\((Nd.ks x.2.1).length=ks.length/\List.map cU (Nd.ks x.2.1)=List.map cU ks)/\(Nd.op x.2.1=25-> ∃(q:Int),ks=[q]/\(0<=q/\q< (↑l_1.length:Int))/\3<=List.length (b8I l_1 q)/\List.length (b8I l_1 q)<=33)/\aM (!wZ (eK l_1 (Nd.mk (Nd.op x.2.1) (Nd.im x.2.1) ks)) (Nd.op x.2.1) (Nd.im x.2.1)) (Q pL x.2.2.2.2) (aM (Nd.op x.2.1==31) (Q (iI 3) x.2.2.2.2) (aM (Nd.op x.2.1==26) (Q mZ x.2.2.2.2) (aM (Nd.op x.2.1==27) (Q mZ x.2.2.2.2) (aM (Nd.op x.2.1==28) (Q mZ x.2.2.2.2) (aM (Nd.op x.2.1==29) (Q mZ x.2.2.2.2) (aM (Nd.op x.2.1==30) (Q mZ ((((x.2).2).2).2)) (aM (Nd.op x.2.1==22) (aC (true&&decide (1< (↑x.2.2.1.length:Int))) (aK .i64 (List.map cU x.2.2.1) 1 fun n17=>Q (.int .i64 n17) (((x.2.2).2).2))) (aM (Nd.op x.2.1==3) (aM (Int.tmod (Nd.im x.2.1) (16:Int)==0) (Q mZ x.2.2.2.2) (Q a5L x.2.2.2.2)) (aM (Nd.op x.2.1==25) (aM (Nd.im x.2.1==0) (Q mZ x.2.2.2.2) (Q a5L x.2.2.2.2)) (Q a5L x.2.2.2.2)))))))))))))):=by kernel_rfl
theorem g8J: ∀xs h Q,f6L xs h Q->aU env 154 xs h Q:=by
 intro xs h Q hk;unfold f6L at hk;split at hk
 ·rename_i e0 n0 c0 q id n2;obtain⟨l,i,k0,⟨rfl,rfl,rfl,rfl⟩,hb,hk⟩:=hk;refine aS (c8Q) (g8I l i e0 id k0 h Q) ?_;delta pI cU pJ pK mZ pL pM a5L b8I d9Y a9J tI wW iI;have tn: ∀x:Nat,(x:Int).toNat=x:=h0Z
  obtain⟨⟨hi,hops,hll⟩,hg,hid,hkl,hkt⟩:=hb;have hop:=(hops _ (h1B hi)).2;have hks:=(hops _ (h1B hi)).1;have eD:l.getD i default=l[i]:=by rw [h1A,h0U hi];rfl
  rw [eD]at hk;have fin: ∀(v:Int)(h2:Heap),v=cC (l.take i) (aG (l.take i)) l[i]->h2.get id=h.get id/\h.next<=h2.next->Q (.int .i64 v) h2:=by
   rintro _ h2 rfl e;exact hk h2 e
  have hsl:(aG (l.take i)).length=i:=by rw [bD,h1Y];omega
  have hk0: ∀q,(hq:q<i)-> ∃h2:q<k0.length,∃h3:q< (aG (l.take i)).length,k0[q]=(aG (l.take i))[q]:=fun q hq=>by
   refine⟨by omega,by omega,?_⟩;have e:(k0.take i)[q]?=(aG (l.take i))[q]?:=by rw [hkt]
   rw [h3L hq,h0U (by omega),h0U (by omega),h0V]at e;exact e
  have tail:=fun(k:List Int)(h:SIG l i l[i].ks.length k)=>Go.M10.SIG.finH h hi (h1D _)
  refine aA (by simp;omega) (a6X hi (by rw [tn]) ⟨.inl ⟨(0,l[i]),rfl,rfl,rfl,rfl,rfl,rfl,rfl,rfl,rfl,rfl,⟨h0U hi,rfl⟩,trivial⟩,?_,?_⟩)
  ·rintro⟨j,n⟩ _ ⟨hn,hj⟩;dsimp only at hn hj⊢;obtain rfl:l[i]=n:=by rw [h0U hi]at hn;exact h1M hn
   subst hj;refine aD (fun c=>?_) (fun c=>?_)
   ·rw [decide_eq_true_eq]at c;have hlt:0<l[i].ks.length:=by omega
    have hm:l[i].ks[0] ∈l[i].ks:=h1B hlt;refine aA (by simp;omega) (jM hlt rfl (aD (fun c2=>?_) (fun c2=>aD (fun c3=>?_) (fun c3=>?_))))
    ·rw [decide_eq_true_eq]at c2;exact fin _ _ (kF hm (a8K c2)).symm ⟨rfl,h1D _⟩
    ·rw [decide_eq_true_eq]at c3;exact fin _ _ (kF hm (a8L (by omega))).symm ⟨rfl,h1D _⟩
    rw [decide_eq_false_iff_not]at c2 c3;obtain⟨q1,q2,q3⟩:=hk0 (l[i].ks[0]).toNat (by omega);refine aA (by simp;omega) (aB hg (jM q1 (by omega) (aD (fun c4=>?_) (fun c4=>?_))))
    ·rw [beq_iff_eq,q3]at c4;exact fin _ _ (kF hm (a3F q2 c4)).symm ⟨rfl,h1D _⟩
    rw [beq_eq_false_iff_ne,q3]at c4;obtain⟨k1,k2⟩:=a0R (by omega) q2 c4;have hs:=(SIG.zero hi).step hi hlt k1;rw [k2]at hs;refine aA (by simp;omega) (aB hg (jM q1 (by omega) (.inr ⟨(1,l[i],[(aG (l.take i))[(l[i].ks[0]).toNat]],h.next,h.push (.tip 1)),rfl,rfl,rfl,rfl,rfl,rfl,rfl,(by rw [q3];rfl),rfl,rfl,⟨hn,hs,⟨Nat.one_pos,aR,h3H hid⟩,aJ hid,h4E _⟩,by dsimp only;omega⟩)))
   ·rw [decide_eq_false_iff_not]at c;have hz:l[i].ks.length=0:=by omega
    obtain⟨t1,t2⟩:=tail [] (by rw [hz];exact SIG.zero hi);refine⟨l[i].ks,[],⟨rfl,rfl⟩,⟨rfl,rfl⟩,⟨hop,trivial,by simp⟩,?_⟩;refine aD (fun c1=>fin _ _ ?_ ⟨rfl,h1D _⟩) (fun c1=>⟨l,l[i].ks,⟨rfl,rfl⟩,⟨rfl,rfl⟩,t2.2 (by simpa using c1),aD (fun c2=>fin _ _ ?_ ⟨rfl,h1D _⟩) (fun c2=>?_)⟩)
    ·rw [h2K]at c1;rw [t1,if_neg (fun e=>by rw [c1]at e;exact h6F e.1)]
    ·rw [h2K]at c2;rw [t1,if_neg (fun e=>by rw [c2]at e;exact h6F e.2)]
    rw [h3A]at c1 c2;rw [if_pos ⟨c1,c2⟩]at t1;have rest: ∀{a o:Int},(a==o)=false-> ¬a=o:=fun c=>by simpa using c
    have sv0H: ∀v:Int,c1D l[i].op l[i].im []=v->Q (.int .i64 v) h:=fun v e=>fin v _ (by rw [t1,e]) ⟨rfl,h1D _⟩
    by_cases o30:l[i].op=30
    ·simp only [o30];exact aD (fun d=>absurd d (by decide)) (fun _=>aD (fun d=>absurd d (by decide)) (fun _=>aD (fun d=>absurd d (by decide)) (fun _=>aD (fun d=>absurd d (by decide)) (fun _=>aD (fun d=>absurd d (by decide)) (fun _=>aD (fun _=>sv0H 2 (if_pos o30)) (fun d=>absurd d (by decide)))))))
    have sv0: ∀v:Int,a1I l[i].op l[i].im []=v->Q (.int .i64 v) h:=fun v e=>sv0H v ((c6L o30).trans e)
    have sv:l[i].op≠31->l[i].op≠25-> ∀v:Int,svo l[i].op l[i].im []=v->Q (.int .i64 v) h:=fun h1 h2 v e=>sv0 v (by unfold a1I;rw [if_neg h1,if_neg h2];exact e)
    refine aD (fun d=>sv0 3 (if_pos (beq_iff_eq.1 d))) (fun d31=>?_)
    by_cases o25:l[i].op=25
    ·simp only [o25];refine aD (fun d=>absurd d (by decide)) (fun _=>aD (fun d=>absurd d (by decide)) (fun _=>aD (fun d=>absurd d (by decide)) (fun _=>aD (fun d=>absurd d (by decide)) (fun _=>aD (fun d=>absurd d (by decide)) (fun _=>aD (fun d=>absurd d (by decide)) (fun _=>aD (fun d=>absurd d (by decide)) (fun _=>aD (fun _=>?_) (fun d=>absurd d (by decide)))))))));refine aD (fun e=>sv0 2 ?_) (fun e=>sv0 1 ?_)
     ·unfold a1I;rw [o25,if_neg (by decide),if_pos rfl,if_pos (beq_iff_eq.1 e)]
     ·unfold a1I;rw [o25,if_neg (by decide),if_pos rfl,if_neg (rest e)]
    replace sv:=sv (rest d31) o25;unfold svo at sv;refine aD (fun d=>sv _ (if_pos (.inl (beq_iff_eq.1 d)))) (fun d2=>aD (fun d=>sv _ (if_pos (.inr (.inl (beq_iff_eq.1 d))))) (fun d3=>aD (fun d=>sv _ (if_pos (.inr (.inr (.inl (beq_iff_eq.1 d)))))) (fun d4=>aD (fun d=>sv _ (if_pos (.inr (.inr (.inr (beq_iff_eq.1 d)))))) (fun d5=>aD (fun d=>absurd (beq_iff_eq.1 d) o30) (fun d6=>?_)))));have nn: ¬ (l[i].op=26\/l[i].op=27\/l[i].op=28\/l[i].op=29):=by
     have:=rest d2;have:=rest d3;have:=rest d4;have:=rest d5;omega
    rw [if_neg nn]at sv;refine aD (fun d=>?_) (fun d7=>aD (fun d=>?_) (fun d8=>aD (fun d=>absurd (beq_iff_eq.1 d) o25) (fun _=>sv _ (by rw [if_neg (rest d7),if_neg (rest d8)]))))
    ·rw [beq_iff_eq]at d;have h3:vC 22 []=false:=by decide
     unfold qV a3P at c1;rw [d,if_neg (by decide),if_neg (by decide),if_neg (by decide),h3]at c1
     cases c1
    ·rw [if_neg (rest d7),if_pos (beq_iff_eq.1 d)]at sv;refine aD (fun e=>sv _ (if_pos (beq_iff_eq.1 e))) (fun e=>sv _ (if_neg (rest e)))
  ·rintro⟨j,n,k,idK,g⟩ _ ⟨hn,hsi,⟨hj0,hgk,hne⟩,hgi⟩;dsimp only at hn hsi hj0 hgk hne hgi⊢;obtain rfl:l[i]=n:=by rw [h0U hi]at hn;exact h1M hn
   have hkj:k.length=j/\j<=l[i].ks.length:=by
    obtain⟨n,h1,h2,_⟩:=hsi;rw [hn]at h1
    cases h1
    exact⟨h2.2,h2.1⟩
   have hg2:g.get id= .cells (k0.map (IV.int .i64)):=hgi.1.trans hg;refine aD (fun c=>?_) (fun c=>?_)
   ·rw [decide_eq_true_eq]at c;have hlt:j<l[i].ks.length:=by omega
    have hm:l[i].ks[j] ∈l[i].ks:=h1B hlt;refine aA (by simp;omega) (jM hlt (by rw [h1W,tn]) (aD (fun c2=>?_) (fun c2=>aD (fun c3=>?_) (fun c3=>?_))))
    ·rw [decide_eq_true_eq]at c2;exact fin _ _ (kF hm (a8K c2)).symm hgi
    ·rw [decide_eq_true_eq]at c3;exact fin _ _ (kF hm (a8L (by omega))).symm hgi
    rw [decide_eq_false_iff_not]at c2 c3;obtain⟨q1,q2,q3⟩:=hk0 (l[i].ks[j]).toNat (by omega);refine aA (by simp;omega) (aB hg2 (jM q1 (by omega) (aD (fun c4=>?_) (fun c4=>?_))))
    ·rw [beq_iff_eq,q3]at c4;exact fin _ _ (kF hm (a3F q2 c4)).symm hgi
    rw [beq_eq_false_iff_ne,q3]at c4;obtain⟨k1,k2⟩:=a0R (by omega) q2 c4;have hs:=hsi.step hi hlt k1;rw [k2]at hs;refine aA (by simp;omega) (aB hg2 (jM q1 (by omega) (bE hgk (aA (by simp only [h0Y,bY,h1S,true_and];omega) (.inr ⟨(j+1,l[i],k++ [(aG (l.take i))[(l[i].ks[j]).toNat]],idK,g.set idK (.tip (k.length+1))),rfl,rfl,rfl,rfl,rfl,rfl,?_,?_,rfl,?_,⟨hn,hs,⟨h5J _,by rw [aH];simp,hne⟩,by rw [aE hne.symm];exact hgi.1,hgi.2⟩,by dsimp only;omega⟩)))))
    ·rw [h0X _ (by omega)];rfl
    ·rw [q3];simp
    ·rfl
   ·rw [decide_eq_false_iff_not]at c;obtain rfl:j=l[i].ks.length:=by omega
    obtain⟨t1,t2⟩:=tail k hsi;refine⟨l[i].ks,k,⟨rfl,rfl⟩,⟨rfl,rfl⟩,⟨hop,trivial,by omega⟩,?_⟩;refine aD (fun c1=>fin _ _ ?_ hgi) (fun c1=>⟨l,l[i].ks,⟨rfl,rfl⟩,⟨rfl,rfl⟩,t2.2 (by simpa using c1),aD (fun c2=>fin _ _ ?_ hgi) (fun c2=>?_)⟩)
    ·rw [h2K]at c1;rw [t1,if_neg (fun e=>by rw [c1]at e;exact h6F e.1)]
    ·rw [h2K]at c2;rw [t1,if_neg (fun e=>by rw [c2]at e;exact h6F e.2)]
    rw [h3A]at c1 c2;rw [if_pos ⟨c1,c2⟩]at t1;have rest: ∀{a o:Int},(a==o)=false-> ¬a=o:=fun c=>by simpa using c
    have sv0H: ∀v:Int,c1D l[i].op l[i].im k=v->Q (.int .i64 v) g:=fun v e=>fin v _ (by rw [t1,e]) hgi
    by_cases o30:l[i].op=30
    ·simp only [o30];exact aD (fun d=>absurd d (by decide)) (fun _=>aD (fun d=>absurd d (by decide)) (fun _=>aD (fun d=>absurd d (by decide)) (fun _=>aD (fun d=>absurd d (by decide)) (fun _=>aD (fun d=>absurd d (by decide)) (fun _=>aD (fun _=>sv0H 2 (if_pos o30)) (fun d=>absurd d (by decide)))))))
    have sv0: ∀v:Int,a1I l[i].op l[i].im k=v->Q (.int .i64 v) g:=fun v e=>sv0H v ((c6L o30).trans e)
    have sv:l[i].op≠31->l[i].op≠25-> ∀v:Int,svo l[i].op l[i].im k=v->Q (.int .i64 v) g:=fun h1 h2 v e=>sv0 v (by unfold a1I;rw [if_neg h1,if_neg h2];exact e)
    refine aD (fun d=>sv0 3 (if_pos (beq_iff_eq.1 d))) (fun d31=>?_)
    by_cases o25:l[i].op=25
    ·simp only [o25];refine aD (fun d=>absurd d (by decide)) (fun _=>aD (fun d=>absurd d (by decide)) (fun _=>aD (fun d=>absurd d (by decide)) (fun _=>aD (fun d=>absurd d (by decide)) (fun _=>aD (fun d=>absurd d (by decide)) (fun _=>aD (fun d=>absurd d (by decide)) (fun _=>aD (fun d=>absurd d (by decide)) (fun _=>aD (fun _=>?_) (fun d=>absurd d (by decide)))))))));refine aD (fun e=>sv0 2 ?_) (fun e=>sv0 1 ?_)
     ·unfold a1I;rw [o25,if_neg (by decide),if_pos rfl,if_pos (beq_iff_eq.1 e)]
     ·unfold a1I;rw [o25,if_neg (by decide),if_pos rfl,if_neg (rest e)]
    replace sv:=sv (rest d31) o25;unfold svo at sv;refine aD (fun d=>sv _ (if_pos (.inl (beq_iff_eq.1 d)))) (fun d2=>aD (fun d=>sv _ (if_pos (.inr (.inl (beq_iff_eq.1 d))))) (fun d3=>aD (fun d=>sv _ (if_pos (.inr (.inr (.inl (beq_iff_eq.1 d)))))) (fun d4=>aD (fun d=>sv _ (if_pos (.inr (.inr (.inr (beq_iff_eq.1 d)))))) (fun d5=>aD (fun d=>absurd (beq_iff_eq.1 d) o30) (fun d6=>?_)))));have nn: ¬ (l[i].op=26\/l[i].op=27\/l[i].op=28\/l[i].op=29):=by
     have:=rest d2;have:=rest d3;have:=rest d4;have:=rest d5;omega
    rw [if_neg nn]at sv;refine aD (fun d=>?_) (fun d7=>aD (fun d=>?_) (fun d8=>aD (fun d=>absurd (beq_iff_eq.1 d) o25) (fun _=>sv _ (by rw [if_neg (rest d7),if_neg (rest d8)]))))
    ·rw [beq_iff_eq]at d;rw [if_pos d]at sv;have hlen:(k.length:Int)=ar l[i].op:=by
      unfold qV a3P at c1;rw [d,if_neg (by decide),if_neg (by decide),if_neg (by decide)]at c1;unfold vC at c1;rw [<-d]at c1;simp only [h0Y,decide_eq_true_eq]at c1;exact c1.2.1
     have h22:ar 22=3:=by decide
     rw [d,h22]at hlen;have hlt:1<k.length:=by omega
     refine aA (by simp;omega) (jM hlt (by omega) (sv _ ?_));rw [h1A,h0U hlt];rfl
    ·rw [if_neg (rest d7),if_pos (beq_iff_eq.1 d)]at sv;refine aD (fun e=>sv _ (if_pos (beq_iff_eq.1 e))) (fun e=>sv _ (if_neg (rest e)))
 ·exact hk.elim
def f6M:=bB 154 f6L c3I
theorem f0L:aT env f6M:=aI g8J (c8Q)
def g2X(l:List Nd)(e1:Nat):Inv':=hJ (Nat×Nat×Heap×List Int) (fun x=>[(0,.v (.vslice none e1 (l).length 3 ((l).flatMap cN))),(3,.v (.hslice x.2.1 0 l.length 1)),(9,.v (.int .i64 l.length)),(10,.v (.int .i64 x.1))]) (fun _=>[]) (fun x=>x.2.2.1)
 (fun x=>x.1<=l.length/\x.2.2.1.get x.2.1= .cells (x.2.2.2.map (IV.int .i64))/\x.2.2.2.length=l.length/\x.2.1<x.2.2.1.next/\x.2.2.2.take x.1=aG (l.take x.1)) (fun x=>l.length-x.1)
def b2S(xs:List IV)(h:Heap)(K:KT):Prop:=match xs with
 | [.vslice none e1 n1 3 c1]=> ∃l:List Nd,(n1=l.length/\c1=l.flatMap cN)/\((∀x∈l,x.ks.length<=1000000/\True)/\l.length<=1000000)/\∀(h2:Heap)(id:Nat),h2.get id= .cells ((aG l).map (IV.int .i64))->K (.hslice id 0 l.length 1) h2
 |_=>False
def tX(x:Nat×Nat×Heap×List Int):=x.2.2
def tY(l:List Nd):=l.length
def d9Z(l:List Nd)(e1:Nat):=TV.v (.vslice none e1 (tY l) 3 (List.flatMap cN l))
def e0A(l:List Nd):=TV.v (.int .i64 (↑(tY l):Int))
def a5M(x:Nat×Nat×Heap×List Int):=x.2.1
theorem e7O(l:List Nd)(e1:Nat)(h:Heap)(Q:KT):dF (aV f6M) env 83 dV (tK 4 (g2X l e1)) bT [.vslice none e1 (l).length 3 ((l).flatMap cN)] h Q=(
 aC (decide (0<=(↑(tY l):Int)) && (decide ((↑(tY l):Int)<=(↑(tY l):Int)) && (decide ((↑(tY l):Int)<=9223372036854775807) &&decide ((8:Int)*(↑(tY l):Int)<=140737488355328)))) ((∃(x:Nat×Nat×Heap×List Int),some (d9Z l e1)=some (d9Z l e1)/\some (TV.v (.hslice (h.next) 0 ((↑(tY l):Int).toNat) 1))=some (TV.v (.hslice (a5M x) 0 (tY l) 1))/\some (e0A l)=some (e0A l)/\tI 0=tI (↑x.1:Int)/\Heap.push h (IObj.cells (fF ((↑(tY l):Int).toNat) [iI 0]))=(tX x).1/\(x.1<=l.length/\Heap.get ((tX x).1) (a5M x)=IObj.cells (List.map (IV.int .i64) ((tX x).2))/\List.length ((tX x).2)=l.length/\Prod.fst (x.2)< ((tX x).1).next/\List.take x.1 ((tX x).2)=aG (List.take x.1 l))/\True)/\∀(x:Nat×Nat×Heap×List Int)(b:FF),x.1<=l.length/\Heap.get ((tX x).1) (a5M x)=IObj.cells (List.map (IV.int .i64) ((tX x).2))/\List.length ((tX x).2)=l.length/\x.2.1< ((tX x).1).next/\List.take x.1 ((tX x).2)=aG (List.take x.1 l)->aM (decide ((↑x.1:Int)< (↑(tY l):Int))) (∃(l_1:List Nd),∃(i:Nat),∃(k0:List Int),(l.length=l_1.length/\List.flatMap cN l=List.flatMap cN l_1/\(↑x.1:Int)=(↑i:Int)/\l.length=k0.length)/\SPH ((tX x).1) (a5M x) l_1 i k0/\∀(h2:Heap),h2.get (a5M x)=((tX x).1).get (a5M x)/\Heap.next ((tX x).1)<=Heap.next h2->aC (decide (0<=(↑x.1:Int)) &&decide ((↑x.1:Int)< (↑(tY l):Int))) (aF h2 (a5M x) fun r0=>aC (Nat.ble ((0:Nat)+(↑x.1:Int).toNat*1+1) r0.length) (∃(x_1:Nat×Nat×Heap×List Int),some (d9Z l e1)=some (d9Z l e1)/\some (TV.v (.hslice (a5M x) 0 (tY l) 1))=some (TV.v (.hslice x_1.2.1 0 (tY l) 1))/\some (e0A l)=some (e0A l)/\tI (wW ((↑x.1:Int)+1))=tI (↑x_1.1:Int)/\Heap.set h2 (a5M x) (IObj.cells (List.take ((0:Nat)+(↑x.1:Int).toNat*1) r0++ [iI (cC (List.take i l_1) (aG (List.take i l_1)) (List.getD l_1 i default))]++List.drop ((0:Nat)+(↑x.1:Int).toNat*1+1) r0))=x_1.2.2.1/\(x_1.1<=l.length/\Heap.get x_1.2.2.1 x_1.2.1=IObj.cells (List.map (IV.int .i64) x_1.2.2.2)/\List.length (x_1.2.2.2)=l.length/\x_1.2.1<x_1.2.2.1.next/\List.take x_1.1 x_1.2.2.2=aG (List.take x_1.1 l))/\l.length-x_1.1<l.length-x.1))) (Q (.hslice (a5M x) 0 (tY l) 1) ((tX x).1)))):=by kernel_rfl
theorem e7P: ∀xs h Q,b2S xs h Q->aU env 83 xs h Q:=by
 intro xs h Q hk;unfold b2S at hk;split at hk
 ·rename_i e1 n1 c1;obtain⟨l,⟨rfl,rfl⟩,hb,hk⟩:=hk;refine aS (f0L) (e7O l e1 h Q) ?_;delta tX d9Z e0A a5M tY tI wW iI;have tn: ∀x:Nat,(x:Int).toNat=x:=h0Z
  obtain⟨hops,hll⟩:=hb;refine aA (by simp;omega) ⟨⟨(0,h.next,h.push (.cells (fF (l.length:Int).toNat [.int .i64 0])),List.replicate l.length 0),rfl,(by rw [tn]),rfl,rfl,rfl,⟨h1N _,(by rw [aR,tn,a8I]),by simp,h1G _,rfl⟩,trivial⟩,?_⟩;rintro⟨i,id,g,k0⟩ _ ⟨hi,hg,hkl,hid,hkt⟩;dsimp only at hi hg hkl hid hkt⊢;refine aD (fun c=>?_) (fun c=>?_)
  ·rw [decide_eq_true_eq]at c;have hlt:i<l.length:=by omega
   refine⟨l,i,k0,⟨rfl,rfl,rfl,hkl.symm⟩,⟨⟨hlt,hops,hll⟩,hg,hid,hkl,hkt⟩,fun h2 ⟨e2,n2⟩=>aA (by simp;omega) (aB (e2.trans hg) (aA (by rw [h1S];simp;omega) ?_))⟩;have eD:l.getD i default=l[i]:=by rw [h1A,h0U hlt];rfl
   rw [eD];have hv:(k0.map (IV.int .i64)).take (0+(i:Int).toNat*1)++ [.int .i64 (cC (l.take i) (aG (l.take i)) l[i])]++(k0.map (IV.int .i64)).drop (0+(i:Int).toNat*1+1)=(k0.take i++ [cC (l.take i) (aG (l.take i)) l[i]]++k0.drop (i+1)).map (IV.int .i64):=by
    rw [tn,h1Q,h1W];simp
   have h1:(k0.take i).length=i:=by rw [h1Y];omega
   refine⟨(i+1,id,h2.set id (.cells ((k0.take i++ [cC (l.take i) (aG (l.take i)) l[i]]++k0.drop (i+1)).map (IV.int .i64))),k0.take i++ [cC (l.take i) (aG (l.take i)) l[i]]++k0.drop (i+1)),rfl,rfl,rfl,?_,?_,⟨hlt,aH,?_,h1C hid n2,?_⟩,by dsimp only;omega⟩
   ·rw [h0X _ (by omega)];rfl
   ·rw [hv]
   ·simp;omega
   ·rw [b5L hlt,<-hkt];dsimp only;rw [h2Y (by simp;omega),h1H (by simp;omega)]
  ·rw [decide_eq_false_iff_not]at c;obtain rfl:i=l.length:=by omega
   rw [h1H (by omega),h5Q]at hkt;subst hkt;exact hk g id hg
 ·exact hk.elim
def b2T:=bB 83 b2S f6M
theorem b8J:aT env b2T:=aI e7P (f0L)
def c3J(xs:List IV)(h:Heap)(K:KT):Prop:=match xs with
 | [.vslice none e1 n1 3 c1,.int .i64 i]=> ∃l:List Nd,(n1=l.length/\c1=l.flatMap cN)/\((∀x∈l,x.ks.length<=1000000/\True)/\l.length<=1000000/\0<=i/\i<l.length)/\K (.int .i64 ((aG l).getD i.toNat 0)) h
 |_=>False
theorem f6N(l:List Nd)(i:Int)(e1:Nat)(h:Heap)(Q:KT):dF (aV b2T) env 41 dV bT bT [.vslice none e1 (l).length 3 ((l).flatMap cN),.int .i64 i] h Q=(
 aC (aN [IV.vslice none 0 l.length 3 (List.flatMap cN l),iI i]) (aM (decide (i<0)) (Q (.int .i64 0) h) (aM (decide (i>=(↑l.length:Int))) (Q (.int .i64 0) h) (aC (true&& (decide (0<=wW (i+1)) &&decide (wW (i+1)<=(↑l.length:Int)))) (∃(l_1:List Nd),((wW (i+1)).toNat-0=l_1.length/\List.take (((wW (i+1)).toNat-0)*3) (List.drop 0 (List.flatMap cN l))=List.flatMap cN l_1)/\((∀(x:Nd),x∈l_1->List.length (Nd.ks x)<=1000000/\True)/\l_1.length<=1000000)/\∀(h2:Heap)(id:Nat),h2.get id=IObj.cells (List.map (IV.int .i64) (aG l_1))->aC (decide (0<=i) &&decide (i< (↑l_1.length:Int))) (aF h2 id fun r0=>aK .i64 r0 ((0:Nat)+i.toNat*1) fun n1=>Q (.int .i64 n1) h)))))):=by kernel_rfl
theorem f6O: ∀xs h Q,c3J xs h Q->aU env 41 xs h Q:=by
 intro xs h Q hk;unfold c3J at hk;split at hk
 ·rename_i e1 n1 c1 i;obtain⟨l,⟨rfl,rfl⟩,hb,hk⟩:=hk;refine aS (b8J) (f6N l i e1 h Q) ?_;delta wW iI;have tn: ∀x:Nat,(x:Int).toNat=x:=h0Z
  obtain⟨hb1,hbl,hi0,hi1⟩:=hb;have hw:IntKind.i64.wrap (i+1)=i+1:=h0X _ (by omega);rw [hw];have hlt:i.toNat<l.length:=by omega
  have e3:(i+1).toNat-0=i.toNat+1:=by omega
  refine aA (by simp only [aN,bL,gI,h1L]) (aD (fun c=>absurd (of_decide_eq_true c) (by omega)) (fun _=>aD (fun c=>absurd (of_decide_eq_true c) (by omega)) (fun _=>aA (by simp;omega) ⟨l.take (i.toNat+1),⟨by rw [e3,h1Y];omega,by rw [e3,h4J,c8D]⟩,⟨fun x hx=>hb1 x (h4X hx),by rw [h1Y];omega⟩,fun h2 id hg=>?_⟩)));have hq:i.toNat< (aG (l.take (i.toNat+1))).length:=by rw [bD,h1Y];omega
  refine aA (by simp;omega) (aB hg (jM hq (by omega) (cO hk ?_)))
  congr 1
  rw [sC (jZ (h5S (i.toNat+1) l)) hq,h1A,h0U hq];rfl
 ·exact hk.elim
def c3K:=bB 41 c3J b2T
theorem c8R:aT env c3K:=aI f6O (b8J)
def alI(l:List Nd)(io k:Nat)(h:Heap):Inv':= .or
 (hJ Nat (fun x=>[(0,.v (.vslice (some io) (l.length*3+6) (l.length+2) 3 (l.flatMap cN++ [.int .i64 26,.int .i64 0,.vslice none 0 0 1 [],.int .i64 1,.int .i64 0,.vslice none 0 0 1 []]))),(1,.v (.int .i64 (k:Int))),(6,.v (.int .i64 (l.length:Int))),(7,.v (.vslice none 1 1 1 [.int .i64 (l.length:Int)])),(8,.v (.int .i64 1))]) (fun _=>[]) (fun _=>h.set io (.tip (l.length*3+6))) (fun x=>x=1/\True) (fun x=>k-x))
 (hJ (Nat×Heap×Nat×List Int) (fun x=>[(0,.v (.vslice (some io) (l.length*3+6) (l.length+2) 3 (l.flatMap cN++ [.int .i64 26,.int .i64 0,.vslice none 0 0 1 [],.int .i64 1,.int .i64 0,.vslice none 0 0 1 []]))),(1,.v (.int .i64 (k:Int))),(6,.v (.int .i64 (l.length:Int))),(7,.v (.vslice (some x.2.2.1) x.2.2.2.length x.2.2.2.length 1 (x.2.2.2.map (IV.int .i64)))),(8,.v (.int .i64 (x.1:Int)))]) (fun _=>[]) (fun x=>x.2.1)
 (fun x=>(1<=x.1/\x.1<=k/\x.2.2.2=(l.length:Int)::List.replicate (x.1-1) ((l.length:Int)+1))/\x.2.1.get io= .tip (l.length*3+6)/\x.2.1.get x.2.2.1= .tip x.2.2.2.length/\x.2.2.1≠io/\h.next<=x.2.2.1/\x.2.2.1<x.2.1.next/\∀j,j<h.next->j≠io->x.2.1.get j=h.get j) (fun x=>k-x.1))
def c8S(xs:List IV)(h:Heap)(K:KT):Prop:=match xs with
 | [.vslice (some io) e0 n0 3 c0,.int .i64 q]=> ∃(l:List Nd)(k:Nat),(n0=l.length/\e0=l.length*3/\c0=l.flatMap cN/\q=(k:Int))/\(1<=k/\k<=16/\l.length<=100000)/\h.get io= .tip (l.length*3)/\io<h.next/\∀(h2:Heap)(cc:List IV),cc=l.flatMap cN++Keep.loopC l.length k->h2.get io= .tip ((l.length+3)*3)/\h.next<=h2.next/\(∀j,j<h.next->j≠io->h2.get j=h.get j)->K (.tuple [.vslice (some io) ((l.length+3)*3) (l.length+3) 3 cc,.int .i64 ((l.length+2:Nat):Int)]) h2
 |_=>False
def pN:=[iI 26,iI 0,IV.vslice none 0 0 1 [],iI 1,iI 0,IV.vslice none 0 0 1 []]
def eX(l:List Nd):=l.length*3+6
def gQ(l:List Nd)(io:Nat):=TV.v (.vslice (some io) (eX l) (l.length+2) 3 (List.flatMap cN l++pN))
def b8K(l:List Nd):=(↑l.length:Int)+1
def kZ(l:List Nd):=wW (b8K l)
def jS(l:List Nd):=TV.v (.int .i64 (↑l.length:Int))
def jT(l:List Nd):=TV.v (.vslice none 1 1 1 [iI (↑l.length:Int)])
def jU(k:Nat):=(↑k:Int).toNat-0
def lU(l:List Nd):=l.length*3+6+3
def jV(k:Nat):=TV.v (.int .i64 (↑k:Int))
def lV(l:List Nd)(io:Nat)(h:Heap):=(h.set io (IObj.tip (eX l))).push (IObj.tip (2:Nat))
def iG(l:List Nd):=l.length+2+1
def nW(l:List Nd):=[iI (↑l.length:Int),iI (kZ l)]
def yE(l:List Nd):=wW ((↑l.length:Int)+2)
def uL:=TV.v (.int .i64 1)
def nX:=IV.int .i64
def sZ(yy:Nat×Heap×Nat×List Int):=yy.2.2
def a9K(l:List Nd):=[iI (kZ l)]
def vR(h:Heap)(io k:Nat)(l:List Nd)(y0:IV)(y1:Int)(y2:Heap)(y3:Nat):Prop:= ∃(yy:Nat×Heap×Nat×List Int),some (gQ l io)=some (gQ l io)/\some (jV k)=some (jV k)/\some (jS l)=some (jS l)/\some (TV.v (y0))=some (TV.v (.vslice (some ((sZ yy).1)) (((sZ yy).2).length) (((sZ yy).2).length) 1 (List.map nX
 ((sZ yy).2))))/\tI (y1)=tI (↑yy.1:Int)/\y2=yy.2.1/\((1<=yy.1/\yy.1<=k/\Prod.snd (sZ yy)=(↑l.length:Int)::List.replicate (yy.1-1) (b8K l))/\Heap.get yy.2.1 io=IObj.tip (eX l)/\Heap.get yy.2.1 ((sZ yy).1)=IObj.tip (((sZ yy).2).length)
 /\Prod.fst (sZ yy)≠io/\Heap.next h<=Prod.fst (sZ yy)/\Prod.fst (sZ yy)<yy.2.1.next/\∀(j:Nat),j<h.next->j≠io->Heap.get yy.2.1 j=h.get j)/\k-yy.1<y3
theorem g2Y(l:List Nd)(io k:Nat)(h:Heap)(Q:KT):dF (aV c3K) env 166 dV (tK 6 (alI l io k h)) bT [.vslice (some io) (l.length*3) l.length 3 (l.flatMap cN),.int .i64 (k:Int)] h Q=(
 dG h io fun(m0:Nat)=>aC (Nat.beq m0 (l.length*3) &&Nat.ble ((l.length+2)*40) (140737488355328:Nat)) (((∃(x:Nat),some (gQ l io)=some (gQ l io)/\some (jV k)=some (jV k)/\some (jS l)=some (jS l)/\some (jT l)=some (jT l)/\some uL=some uL/\Heap.set h io (IObj.tip (eX l))=h.set io (IObj.tip (eX l))/\(x=1/\True)/\True) \/ ∃(x:Nat×Heap×Nat×List Int),some (gQ l io)=some (gQ l io)/\some (jV k)=some (jV k)/\some (jS l)=some (jS l)/\some (jT l)=some (TV.v (.vslice (some x.2.2.1) x.2.2.2.length x.2.2.2.length 1 (List.map nX x.2.2.2)))/\some uL=tI (↑x.1:Int)/\Heap.set h io (IObj.tip (eX l))=x.2.1/\((1<=x.1/\x.1<=k/\x.2.2.2=(↑l.length:Int)::List.replicate (x.1-1) (b8K l))/\Heap.get x.2.1 io=IObj.tip (eX l)/\Heap.get x.2.1 x.2.2.1=IObj.tip x.2.2.2.length/\x.2.2.1≠io/\Heap.next h<=x.2.2.1/\x.2.2.1<x.2.1.next/\∀(j:Nat),j<h.next->j≠io->Heap.get x.2.1 j=h.get j)/\True)/\(∀(x:Nat)(b:FF),x=1/\True->aM (decide (1< (↑k:Int))) ((∃(x_1:Nat),some (gQ l io)=some (gQ l io)/\some (jV k)=some (jV k)/\some (jS l)=some (jS l)/\some (TV.v (.vslice (some (h.next)) 2 2 1 (nW l)))=some (jT l)/\tI 2=some uL/\Heap.push (h.set io (IObj.tip (eX l))) (IObj.tip (2:Nat))=h.set io (IObj.tip (eX l))/\(x_1=1/\True)/\k-x_1<k-x) \/vR h io k l (IV.vslice (some (h.next)) 2 2 1 (nW l)) (2:Int) (lV l io h) (k-x)) (aC (true&& (decide (0<=(↑k:Int)) &&decide ((↑k:Int)<=2))) (aM (Nat.beq (jU k) (0:Nat)) (dG (lV l io h) io fun(m1:Nat)=>aC (Nat.beq m1 (eX l) &&Nat.ble ((iG l)*(40:Nat)) (140737488355328:Nat)) (Q (.tuple [.vslice (some io) (lU l) (iG l) 3 (List.flatMap cN l++pN++ [iI 31,iI 0,IV.vslice none 0 2 1 (nW l)]),iI (yE l)]) ((lV l io h).set io (IObj.tip (lU l))))) (dG (lV l io h) (h.next) fun(m2:Nat)=>aC (Nat.beq m2 (2:Nat) &&Nat.ble (((2:Nat)+(jU k))*8) (140737488355328:Nat)) (dG ((lV l io h).set (h.next) (IObj.tip ((2:Nat)+(jU k)*1))) io fun(m3:Nat)=>aC (Nat.beq m3 (eX l) &&Nat.ble ((iG l)*40) (140737488355328:Nat)) (Q (.tuple [.vslice (some io) (lU l) (iG l) 3 (List.flatMap cN l++pN++ [iI 31,iI 0,IV.vslice none 0 ((2:Nat)+(jU k)) (1:Nat) (iI (↑l.length:Int)::iI (kZ l)::List.take ((jU k)*1) (nW l))]),iI (yE l)]) (((lV l io h).set (h.next) (IObj.tip ((2:Nat)+(jU k)*1))).set io (IObj.tip (lU l)))))))))/\∀(x:Nat×Heap×Nat×List Int)(b:FF),((1<=x.1/\x.1<=k/\x.2.2.2=(↑l.length:Int)::List.replicate (x.1-1) (b8K l))/\Heap.get x.2.1 io=IObj.tip (eX l)/\Heap.get x.2.1 (x.2.2.1)=IObj.tip x.2.2.2.length/\x.2.2.1≠io/\Heap.next h<=x.2.2.1/\x.2.2.1<x.2.1.next/\∀(j:Nat),j<h.next->j≠io->Heap.get (x.2.1) j=h.get j)->aM (decide ((↑x.1:Int)< (↑k:Int))) (dG x.2.1 x.2.2.1 fun(m4:Nat)=>aC (Nat.beq m4 x.2.2.2.length&&Nat.ble ((x.2.2.2.length+(1:Nat))*8) (140737488355328:Nat)) ((∃(x_1:Nat),some (gQ l io)=some (gQ l io)/\some (jV k)=some (jV k)/\some (jS l)=some (jS l)/\some (TV.v (.vslice (some x.2.2.1) (x.2.2.2.length+1) (x.2.2.2.length+1) 1 (List.map nX x.2.2.2++(a9K l))))=some (jT l)/\tI (wW ((↑x.1:Int)+1))=some uL/\Heap.set x.2.1 ((x.2.2).1) (IObj.tip (x.2.2.2.length+1))=h.set io (IObj.tip (eX l))/\(x_1=1/\True)/\k-x_1<k-x.1) \/vR h io k l (IV.vslice (some x.2.2.1) (x.2.2.2.length+(1:Nat)) (x.2.2.2.length+1) 1 (List.map nX x.2.2.2++(a9K l))) (wW ((↑x.1:Int)+1)) (x.2.1.set x.2.2.1 (IObj.tip ((x.2.2.2).length+1))) (k-x.1))) (dG x.2.1 x.2.2.1 fun(m5:Nat)=>aC (Nat.beq m5 x.2.2.2.length&&Nat.ble ((x.2.2.2.length+1)*8) (140737488355328:Nat)) (aC (true&& (decide (0<=(↑k:Int)) &&decide ((↑k:Int)<=(↑(x.2.2.2.length+1):Int)))) (aM (Nat.beq (jU k) (0:Nat)) (dG (x.2.1.set x.2.2.1 (IObj.tip (((x.2.2).2).length+1))) io fun(m6:Nat)=>aC (Nat.beq m6 (eX l) &&Nat.ble ((iG l)*40) (140737488355328:Nat)) (Q (.tuple [.vslice (some io) (lU l) (iG l) 3 (List.flatMap cN l++pN++ [iI 31,iI 0,IV.vslice none (0:Nat) (x.2.2.2.length+1) (1:Nat) (List.map nX x.2.2.2++(a9K l))]),iI (yE l)]) ((x.2.1.set x.2.2.1 (IObj.tip (((x.2.2).2).length+1))).set io (IObj.tip (lU l))))) (dG (x.2.1.set x.2.2.1 (IObj.tip (x.2.2.2.length+1))) x.2.2.1 fun(m7:Nat)=>aC (Nat.beq m7 (((x.2.2).2).length+1) &&Nat.ble ((x.2.2.2.length+1+(jU k))*8) (140737488355328:Nat)) (dG ((x.2.1.set x.2.2.1 (IObj.tip (x.2.2.2.length+(1:Nat)))).set x.2.2.1 (IObj.tip (x.2.2.2.length+1+(jU k)*1))) io fun(m8:Nat)=>aC (Nat.beq m8 (eX l) &&Nat.ble ((iG l)*40) (140737488355328:Nat)) (Q (.tuple [.vslice (some io) (lU l) (iG l) 3 (List.flatMap cN l++pN++ [iI 31,iI 0,IV.vslice none 0 (x.2.2.2.length+1+(jU k)) 1 (List.map nX x.2.2.2++(a9K l)++List.take ((jU k)*(1:Nat)) (List.drop 0 (List.map nX x.2.2.2++(a9K l))))]),iI (yE l)]) (((x.2.1.set x.2.2.1 (IObj.tip (x.2.2.2.length+1))).set (x.2.2.1) (IObj.tip (x.2.2.2.length+1+(jU k)*1))).set io (IObj.tip (lU l))))))))))):=by kernel_rfl
theorem f0M: ∀xs h Q,c8S xs h Q->aU env 166 xs h Q:=by
 intro xs h Q hk;unfold c8S at hk;split at hk
 ·rename_i io e0 n0 c0 q;obtain⟨l,k,⟨rfl,rfl,rfl,rfl⟩,hb,ht,hio,hk⟩:=hk;refine aS (c8R) (g2Y l io k h Q) ?_;delta vR gQ pN eX kZ jS jT jU lU jV lV iG nW yE uL nX sZ a9K b8K tI wW iI;obtain⟨h1,h2,h3⟩:=hb;have w1:IntKind.i64.wrap ((l.length:Int)+1)=(l.length:Int)+1:=h0X _ (by omega);have w2:IntKind.i64.wrap ((l.length:Int)+2)=((l.length+2:Nat):Int):=by rw [h0X _ (by omega)];rfl
  rw [w1,w2];simp only [h0Z,h7X,h1W];refine bE ht (aA (by simp only [h0Y,bY,h1S,true_and];omega) ⟨.inl ⟨1,.intro,.intro,.intro,.intro,.intro,.intro,⟨rfl,True.intro⟩,True.intro⟩,?_,?_⟩)
  ·rintro x _ ⟨rfl,_⟩;have hioN:io≠h.next:=h4P hio;refine dW (fun c=> .inr ⟨(2,_,h.next,[(l.length:Int),(l.length:Int)+1]),.intro,.intro,.intro,(by rfl),(by rfl),(by rfl),⟨⟨by show 1<=2;omega,by show 2<=k;omega,rfl⟩,?_,aR,hioN.symm,h1D _,h1G _,fun j hj hji=>?_⟩,by show k-2<k-1;omega⟩) (fun c=>?_)
   ·exact(aJ (show io< (h.set io _).next from hio)).trans aH
   ·exact(aJ (show j< (h.set io (.tip (l.length*3+6))).next from hj)).trans (aE hji)
   ·have hk1:k=1:=by omega
    subst hk1;refine aA (by decide) (bf (by decide) (bE aR (aA (by decide) (bE ((aE hioN).trans ((aJ (show io< (h.set io _).next from hio)).trans aH)) (aA (by simp only [h0Y,bY,h1S,true_and];omega) ?_)))));refine cast (congrArg (fun z=>Q z _) ?_) (hk _ _ (h3M) ⟨by rw [aH];congr 1;omega,h4E _,fun j hj hji=>?_⟩)
    ·rw [sE,show(l.length+3)*3=l.length*3+6+3 by omega];rfl
    ·exact(aE hji).trans ((aE (h4P hj)).trans ((aJ (show j< (h.set io (.tip (l.length*3+6))).next from hj)).trans (aE hji)))
  ·rintro⟨j,g,jk,ks⟩ _ ⟨⟨j1,j2,eks⟩,gio,gjk,hne,hjk,hjn,hfr⟩;dsimp only at j1 j2 eks gio gjk hne hjk hjn hfr⊢;have hlen:ks.length=j:=by
    rw [eks,h1O,h3D];omega
   refine dW (fun c=>bE gjk (aA (by simp only [h0Y,bY,h1S,true_and];omega) (.inr ⟨(j+1,g.set jk (.tip (ks.length+1)),jk,ks++ [(l.length:Int)+1]),.intro,.intro,.intro,(by simp),(by(try dsimp only);rw [h0X _ (by omega)];rfl),rfl,⟨⟨h5J _,by(try dsimp only);omega,?_⟩,(aE hne.symm).trans gio,?_,hne,hjk,hjn,fun q hq hqi=>(aE (by omega)).trans (hfr q hq hqi)⟩,by(try dsimp only);omega⟩))) (fun c=>?_)
   ·(try dsimp only)
    rw [eks,h3E,<-List.replicate_succ',show j-1+1=j+1-1 by omega]
   ·(try dsimp only)
    rw [h1E];exact aH
   ·have hjk1:j=k:=by omega
    subst hjk1;refine bE gjk (aA (by simp only [h0Y,bY,h1S,true_and];omega) (aA (by simp only [h2G,h0Y,decide_eq_true_eq];omega) (bf (by rw [zB];omega) (bE aH (aA (by simp only [h0Y,bY,h1S,true_and];omega) (bE ((aE hne.symm).trans ((aE hne.symm).trans gio)) (aA (by simp only [h0Y,bY,h1S,true_and];omega) ?_)))))));refine cast (congrArg (fun z=>Q z _) ?_) (hk _ _ (h3M) ⟨by rw [aH];congr 1;omega,by show h.next<=g.next;omega,fun q hq hqi=>(aE hqi).trans ((aE (by omega)).trans ((aE (by omega)).trans (hfr q hq hqi)))⟩);rw [sE,show(l.length+3)*3=l.length*3+6+3 by omega,a8R h1 eks,h4J,h2Y (by rw [h1P];omega),h1H (by rw [h1P];omega)];simp only [h3O,h1E,h2H,h4D,h1O,h1U,hlen]
 ·exact hk.elim
def e0B:=bB 166 c8S c3K
theorem e0C:aT env e0B:=aI f0M (c8R)
def anI(k:Nat)(h:Heap):Inv':= .or
 (hJ Nat (fun x=>[(0,.v (.vslice (some h.next) 6 2 3 ([.int .i64 26,.int .i64 0,.vslice none 0 0 1 [],.int .i64 1,.int .i64 0,.vslice none 0 0 1 []]))),(1,.v (.int .i64 (k:Int))),(6,.v (.int .i64 0)),(7,.v (.vslice none 1 1 1 [.int .i64 0])),(8,.v (.int .i64 1))]) (fun _=>[]) (fun _=>h.push (.tip 6)) (fun x=>x=1/\True) (fun x=>k-x))
 (hJ (Nat×Heap×Nat×List Int) (fun x=>[(0,.v (.vslice (some h.next) 6 2 3 ([.int .i64 26,.int .i64 0,.vslice none 0 0 1 [],.int .i64 1,.int .i64 0,.vslice none 0 0 1 []]))),(1,.v (.int .i64 (k:Int))),(6,.v (.int .i64 0)),(7,.v (.vslice (some x.2.2.1) x.2.2.2.length x.2.2.2.length 1 (x.2.2.2.map (IV.int .i64)))),(8,.v (.int .i64 (x.1:Int)))]) (fun _=>[]) (fun x=>x.2.1)
 (fun x=>(1<=x.1/\x.1<=k/\x.2.2.2=(0:Int)::List.replicate (x.1-1) (1:Int))/\x.2.1.get h.next= .tip 6/\x.2.1.get x.2.2.1= .tip x.2.2.2.length/\x.2.2.1≠h.next/\h.next<x.2.2.1/\x.2.2.1<x.2.1.next/\∀j,j<h.next->x.2.1.get j=h.get j) (fun x=>k-x.1))
def c8T(xs:List IV)(h:Heap)(K:KT):Prop:=match xs with
 | [.nilslice,.int .i64 q]=> ∃(k:Nat),q=(k:Int)/\(1<=k/\k<=16)/\∀(h2:Heap)(cc:List IV),cc=Keep.loopC 0 k->h2.get h.next= .tip 9/\h.next<h2.next/\(∀j,j<h.next->h2.get j=h.get j)->K (.tuple [.vslice (some h.next) 9 3 3 cc,.int .i64 2]) h2
 |_=>False
def a1K(h:Heap):=TV.v (.vslice (some (h.next)) 6 2 3 [iI 26,iI 0,IV.vslice none 0 0 1 [],iI 1,iI 0,IV.vslice none 0 0 1 []])
def b9J:=TV.v (.vslice none 1 1 1 [iI 0])
def a1U:=TV.v (.int .i64 0)
def a0T(k:Nat):=(↑k:Int).toNat-0
def a6H:=IObj.tip (6:Nat)
def b9K(h:Heap):=(h.push a6H).push (IObj.tip (2:Nat))
def a1Z(k:Nat):=TV.v (.int .i64 (↑k:Int))
def d4Y:=[iI 0,iI 1]
def b9L:=TV.v (.int .i64 1)
def b9M:=[iI 1]
def a6I:=IV.int .i64
def a3C(yy:Nat×Heap×Nat×List Int):=yy.2.2
def f2C(h:Heap):=IV.vslice (some (h.next+1)) 2 2 1 d4Y
def f2D(k:Nat)(h:Heap):=(b9K h).set (h.next+1) (IObj.tip ((2:Nat)+(a0T k)*1))
def c6R:=IObj.tip (9:Nat)
def d2Y(h:Heap)(k:Nat)(y0:IV)(y1:Int)(y2:Heap)(y3:Nat):Prop:= ∃(yy:Nat×Heap×Nat×List Int),some (a1K h)=some (a1K h)/\some (a1Z k)=some (a1Z k)/\some a1U=some a1U/\some (TV.v (y0))=some (TV.v (.vslice (some ((a3C yy).1)) (((a3C yy).2).length) (((a3C yy).2).length) 1 (List.map a6I ((a3C
 yy).2))))/\tI (y1)=tI (↑yy.1:Int)/\y2=yy.2.1/\((1<=yy.1/\yy.1<=k/\Prod.snd (a3C yy)=0::List.replicate (yy.1-1) (1:Int))/\Heap.get yy.2.1 (h.next)=IObj.tip (6:Nat)/\Heap.get yy.2.1 ((a3C yy).1)=IObj.tip (((a3C yy).2).length)/\Prod.fst (a3C yy)
 ≠Heap.next h/\Heap.next h< (a3C yy).1/\Prod.fst (a3C yy)<yy.2.1.next/\∀(j:Nat),j<h.next->Heap.get yy.2.1 j=h.get j)/\k-yy.1<y3
theorem g2Z(k:Nat)(h:Heap)(Q:KT):dF (aV e0B) env 166 dV (tK 6 (anI k h)) bT [.nilslice,.int .i64 (k:Int)] h Q=(
 ((∃(x:Nat),some (a1K h)=some (a1K h)/\some (a1Z k)=some (a1Z k)/\some a1U=some a1U/\some b9J=some b9J/\some b9L=some b9L/\Heap.push h a6H=h.push a6H/\(x=1/\True)/\True) \/ ∃(x:Nat×Heap×Nat×List Int),some (a1K h)=some (a1K h)/\some (a1Z k)=some (a1Z k)/\some a1U=some a1U/\some b9J=some (TV.v (.vslice (some x.2.2.1) x.2.2.2.length x.2.2.2.length 1 (List.map a6I x.2.2.2)))/\some b9L=tI (↑x.1:Int)/\Heap.push h a6H=x.2.1/\((1<=x.1/\x.1<=k/\x.2.2.2=0::List.replicate (x.1-1) (1:Int))/\Heap.get x.2.1 (h.next)=IObj.tip (6:Nat)/\Heap.get x.2.1 x.2.2.1=IObj.tip x.2.2.2.length/\x.2.2.1≠Heap.next h/\Heap.next h<x.2.2.1/\x.2.2.1< (x.2.1).next/\∀(j:Nat),j<h.next->Heap.get x.2.1 j=h.get j)/\True)/\(∀(x:Nat)(b:FF),x=1/\True->aM (decide (1< (↑k:Int))) ((∃(x_1:Nat),some (a1K h)=some (a1K h)/\some (a1Z k)=some (a1Z k)/\some a1U=some a1U/\some (TV.v (f2C h))=some b9J/\tI 2=some b9L/\Heap.push (h.push a6H) (IObj.tip (2:Nat))=h.push a6H/\(x_1=1/\True)/\k-x_1<k-x) \/d2Y h k (f2C h) (2:Int) (b9K h) (k-x)) (aC (true&& (decide ((0:Int)<=(↑k:Int)) &&decide ((↑k:Int)<=2))) (aM (Nat.beq (a0T k) (0:Nat)) (dG (b9K h) (h.next) fun(m0:Nat)=>aC (Nat.beq m0 (6:Nat) &&true) (Q (.tuple [.vslice (some (h.next)) 9 3 3 [iI 26,iI (0:Int),IV.vslice none 0 0 1 [],iI 1,iI 0,IV.vslice none 0 0 1 [],iI 31,iI 0,IV.vslice none 0 2 1 d4Y],iI (2:Int)]) ((b9K h).set (h.next) c6R))) (dG (b9K h) (h.next+1) fun(m1:Nat)=>aC (Nat.beq m1 (2:Nat) &&Nat.ble (((2:Nat)+(a0T k))*8) (140737488355328:Nat)) (dG (f2D k h) (h.next) fun(m2:Nat)=>aC (Nat.beq m2 (6:Nat) &&true) (Q (IV.tuple [.vslice (some (h.next)) 9 3 3 [iI 26,iI 0,IV.vslice none 0 0 1 [],iI 1,iI 0,IV.vslice none 0 0 1 [],iI (31:Int),iI 0,IV.vslice none 0 ((2:Nat)+(a0T k)) 1 (iI 0::iI 1::List.take ((a0T k)*1) d4Y)],iI 2]) ((f2D k h).set (h.next) c6R)))))))/\∀(x:Nat×Heap×Nat×List Int)(b:FF),((1<=x.1/\x.1<=k/\x.2.2.2=0::List.replicate (x.1-1) (1:Int))/\Heap.get x.2.1 (h.next)=IObj.tip (6:Nat)/\Heap.get x.2.1 ((x.2.2).1)=IObj.tip x.2.2.2.length/\x.2.2.1≠Heap.next h/\Heap.next h<x.2.2.1/\x.2.2.1<x.2.1.next/\∀(j:Nat),j<h.next->Heap.get ((x.2).1) j=h.get j)->aM (decide ((↑x.1:Int)< (↑k:Int))) (dG x.2.1 x.2.2.1 fun(m3:Nat)=>aC (Nat.beq m3 x.2.2.2.length&&Nat.ble ((x.2.2.2.length+1)*(8:Nat)) (140737488355328:Nat)) ((∃(x_1:Nat),some (a1K h)=some (a1K h)/\some (a1Z k)=some (a1Z k)/\some a1U=some a1U/\some (TV.v (.vslice (some x.2.2.1) (x.2.2.2.length+1) (((x.2.2).2).length+1) 1 (List.map a6I x.2.2.2++b9M)))=some b9J/\tI (wW ((↑x.1:Int)+1))=some b9L/\Heap.set x.2.1 x.2.2.1 (IObj.tip (x.2.2.2.length+1))=h.push a6H/\(x_1=1/\True)/\k-x_1<k-x.1) \/d2Y h k (IV.vslice (some x.2.2.1) (x.2.2.2.length+1) ((((x.2).2).2).length+1) 1 (List.map a6I x.2.2.2++b9M)) (wW ((↑x.1:Int)+1)) (x.2.1.set x.2.2.1 (IObj.tip (x.2.2.2.length+1))) (k-x.1))) (dG x.2.1 x.2.2.1 fun(m4:Nat)=>aC (Nat.beq m4 x.2.2.2.length&&Nat.ble ((x.2.2.2.length+1)*8) (140737488355328:Nat)) (aC (true&& (decide ((0:Int)<=(↑k:Int)) &&decide ((↑k:Int)<=(↑(x.2.2.2.length+1):Int)))) (aM (Nat.beq (a0T k) (0:Nat)) (dG (x.2.1.set x.2.2.1 (IObj.tip (x.2.2.2.length+1))) (h.next) fun(m5:Nat)=>aC (Nat.beq m5 (6:Nat) &&true) (Q (.tuple [.vslice (some (h.next)) 9 3 3 [iI 26,iI 0,IV.vslice none 0 0 1 [],iI 1,iI 0,IV.vslice none 0 0 1 [],iI 31,iI 0,IV.vslice none 0 (x.2.2.2.length+1) 1 (List.map a6I x.2.2.2++b9M)],iI 2]) ((x.2.1.set x.2.2.1 (IObj.tip (x.2.2.2.length+1))).set (h.next) c6R))) (dG (x.2.1.set x.2.2.1 (IObj.tip (x.2.2.2.length+(1:Nat)))) x.2.2.1 fun(m6:Nat)=>aC (Nat.beq m6 (x.2.2.2.length+1) &&Nat.ble ((x.2.2.2.length+1+(a0T k))*8) (140737488355328:Nat)) (dG (((x.2.1).set x.2.2.1 (IObj.tip (x.2.2.2.length+1))).set x.2.2.1 (IObj.tip (x.2.2.2.length+1+(a0T k)*1))) (h.next) fun(m7:Nat)=>aC (Nat.beq m7 (6:Nat) &&true) (Q (.tuple [.vslice (some (h.next)) 9 3 3 [iI 26,iI 0,IV.vslice none 0 0 1 [],iI 1,iI 0,IV.vslice none 0 0 1 [],iI 31,iI 0,IV.vslice none 0 (x.2.2.2.length+1+(a0T k)) 1 (List.map a6I x.2.2.2++b9M++List.take ((a0T k)*1) (List.drop 0 (List.map a6I x.2.2.2++b9M)))],iI 2]) (((x.2.1.set x.2.2.1 (IObj.tip (x.2.2.2.length+1))).set x.2.2.1 (IObj.tip (x.2.2.2.length+1+(a0T k)*1))).set (h.next) c6R)))))))):=by kernel_rfl
theorem f0N: ∀xs h Q,c8T xs h Q->aU env 166 xs h Q:=by
 intro xs h Q hk;unfold c8T at hk;split at hk
 ·rename_i q;obtain⟨k,rfl,hb,hk⟩:=hk;refine aS (e0C) (g2Z k h Q) ?_;delta d2Y a1K b9J a1U a0T b9K a1Z d4Y b9L b9M a6I a3C a6H f2C f2D c6R tI wW iI;obtain⟨h1,h2⟩:=hb;simp only [h0Z,h7X,h1W];refine⟨.inl ⟨1,.intro,.intro,.intro,.intro,.intro,.intro,⟨rfl,True.intro⟩,True.intro⟩,?_,?_⟩
  ·rintro x _ ⟨rfl,_⟩;have g0:((h.push (.tip 6)).push (.tip 2)).get h.next= .tip 6:=(aJ (show h.next< (h.push (.tip 6)).next from h1G _)).trans aR;have gj: ∀j,j<h.next->((h.push (.tip 6)).push (.tip 2)).get j=h.get j:=fun j hj=>(aJ (show j< (h.push (.tip 6)).next from h1T hj)).trans (aJ hj)
   refine dW (fun c=> .inr ⟨(2,_,h.next+1,[0,1]),.intro,.intro,.intro,(by rfl),(by rfl),(by rfl),⟨⟨by show 1<=2;omega,by show 2<=k;omega,rfl⟩,g0,aR,h3H (h1G _),h1G _,h1G _,gj⟩,by show k-2<k-1;omega⟩) (fun c=>?_);have hk1:k=1:=by omega
   subst hk1;refine aA (by decide) (bf (by decide) (bE aR (aA (by decide) (bE ((aE (h4P (h1G _))).trans g0) (aA rfl ?_)))));refine cast (congrArg (fun z=>Q z _) ?_) (hk _ _ rfl ⟨aH,h1T (h1G _),fun j hj=>(aE (h4P hj)).trans ((aE (h4P (h1T hj))).trans (gj j hj))⟩);rfl
  ·rintro⟨j,g,jk,ks⟩ _ ⟨⟨j1,j2,eks⟩,gio,gjk,hne,hjk,hjn,hfr⟩;dsimp only at j1 j2 eks gio gjk hne hjk hjn hfr⊢;have hlen:ks.length=j:=by
    rw [eks,h1O,h3D];omega
   refine dW (fun c=>bE gjk (aA (by simp only [h0Y,bY,h1S,true_and];omega) (.inr ⟨(j+1,g.set jk (.tip (ks.length+1)),jk,ks++ [1]),.intro,.intro,.intro,(by simp),(by(try dsimp only);rw [h0X _ (by omega)];rfl),rfl,⟨⟨h5J _,by(try dsimp only);omega,?_⟩,(aE hne.symm).trans gio,?_,hne,hjk,hjn,fun q hq=>(aE (by omega)).trans (hfr q hq)⟩,by(try dsimp only);omega⟩))) (fun c=>?_)
   ·(try dsimp only)
    rw [eks,h3E,<-List.replicate_succ',show j-1+1=j+1-1 by omega]
   ·(try dsimp only)
    rw [h1E];exact aH
   ·have hjk1:j=k:=by omega
    subst hjk1;refine bE gjk (aA (by simp only [h0Y,bY,h1S,true_and];omega) (aA (by simp only [h2G,h0Y,decide_eq_true_eq];omega) (bf (by rw [zB];omega) (bE aH (aA (by simp only [h0Y,bY,h1S,true_and];omega) (bE ((aE hne.symm).trans ((aE hne.symm).trans gio)) (aA rfl ?_)))))));refine cast (congrArg (fun z=>Q z _) ?_) (hk _ _ rfl ⟨aH,by show h.next<g.next;omega,fun q hq=>(aE (by omega)).trans ((aE (by omega)).trans ((aE (by omega)).trans (hfr q hq)))⟩);have e:=sE (l:=[]) (k:=j);rw [h3U]at e;have e2:=a8R (n:=0) h1 eks;rw [show Keep.loopC 0 j=(iW ([]:List Nd).length j).flatMap cN from rfl,e,show([]:List Nd).length=0 from rfl,e2,h4J,h2Y (by rw [h1P];omega),h1H (by rw [h1P];omega)];simp only [h3O,h1E,h2H,h4D,h1O,h1U,hlen];rfl
 ·exact hk.elim
def f0O:=bB 166 c8T e0B
theorem f6P:aT env f0O:=aI f0N (e0C)
def f6Q(xs:List IV)(h:Heap)(K:KT):Prop:=match xs with
 | [a,b]=>c8S [a,b] h K\/c8T [a,b] h K
 |_=>False
theorem g8K: ∀xs h Q,f6Q xs h Q->aU env 166 xs h Q:=by
 intro xs h Q hk;unfold f6Q at hk;split at hk
 ·exact hk.elim (f0M _ _ _) (f0N _ _ _)
 ·exact hk.elim
def f6R:=bB 166 f6Q f0O
theorem f0P:aT env f6R:=aI g8K (f6P)
def b2U(xs:List IV)(h:Heap)(K:KT):Prop:=match xs with
 | [.int .i64 k]=>(1<=k/\k<=1000000)/\K (.int .i64 ((k-1)/2)) h
 |_=>False
theorem e7Q(k:Int)(h:Heap)(Q:KT):dF (aV f6R) env 99 dV bT bT [.int .i64 k] h Q=(
 Q (.int .i64 (wW (Int.tdiv (wW (k-1)) (2:Int)))) h):=by kernel_rfl
theorem e7R: ∀xs h Q,b2U xs h Q->aU env 99 xs h Q:=by
 intro xs h Q hk;unfold b2U at hk;split at hk
 ·rename_i k;obtain⟨hb,hk⟩:=hk;refine aS (f0P) (e7Q k h Q) ?_;delta wW;refine cO hk ?_
  congr 1
  rw [h0X (k-1) (by omega),h4U (by omega),h0X _ (by omega)]
 ·exact hk.elim
def b2V:=bB 99 b2U f6R
theorem b8L:aT env b2V:=aI e7R (f0P)
def e7S(l:List Nd)(i:Nat)(k0:List Int)(id:Nat)(h:Heap)(j:Nat)(g:Heap)(iF iK:Nat)(few:List Nd)(kids:List Int):Prop:=(j<=(l.getD i default).ks.length/\(few,kids)=iD ([],[]) (kY l i j k0))/\(g.get iF= .tip (few.length*3)/\g.get iK= .tip kids.length)/\(iF≠id/\iK≠id/\iF≠iK)/\(iF<g.next/\iK<g.next)/\g.get id=h.get id/\h.next<=g.next
def g8L(l:List Nd)(i e0 id:Nat)(k0:List Int)(h:Heap):Inv':= .or
 (hJ Nat (fun x=>[(0,.v (.vslice none e0 (l).length 3 ((l).flatMap cN))),(1,.v (.hslice id 0 k0.length 1)),(2,.v (.int .i64 (i:Int))),(16,.v (.vslice none 0 ((l.getD i default).ks).length 1 (((l.getD i default).ks).map (IV.int .i64)))),(17,.v (.int .i64 (l.getD i default).ks.length)),(18,.v (.int .i64 0)),(7,.v .nilslice),(8,.v .nilslice)]) (fun _=>[]) (fun _=>h) (fun x=>x=0/\True) (fun x=>(l.getD i default).ks.length-x))
 (hJ (Nat×Heap×Nat×Nat×List Nd×List Int) (fun x=>[(0,.v (.vslice none e0 (l).length 3 ((l).flatMap cN))),(1,.v (.hslice id 0 k0.length 1)),(2,.v (.int .i64 (i:Int))),(16,.v (.vslice none 0 ((l.getD i default).ks).length 1 (((l.getD i default).ks).map (IV.int .i64)))),(17,.v (.int .i64 (l.getD i default).ks.length)),(18,.v (.int .i64 (x.1:Int))),(7,.v (.vslice (some x.2.2.1) (x.2.2.2.2.1.length*3) x.2.2.2.2.1.length 3 (x.2.2.2.2.1.flatMap cN))),(8,.v (.vslice (some x.2.2.2.1) x.2.2.2.2.2.length x.2.2.2.2.2.length 1 (x.2.2.2.2.2.map (IV.int .i64))))]) (fun _=>[]) (fun x=>x.2.1)
 (fun x=>e7S l i k0 id h x.1 x.2.1 x.2.2.1 x.2.2.2.1 x.2.2.2.2.1 x.2.2.2.2.2/\True) (fun x=>(l.getD i default).ks.length-x.1))
def c3L(xs:List IV)(h:Heap)(K:KT):Prop:=match xs with
 | [.vslice none e0 n0 3 c0,.hslice id 0 n2 1,.int .i64 q]=> ∃(l:List Nd)(i:Nat)(k0:List Int),(n0=l.length/\c0=l.flatMap cN/\q=(i:Int)/\n2=k0.length)/\(NGP l i k0/\h.get id= .cells (k0.map (IV.int .i64))/\id<h.next)/\∀h2:Heap,h2.get id=h.get id/\h.next<=h2.next->K (.int .i64 (cC (l.take i) (aG (l.take i)) (l.getD i default))) h2
 |_=>False
def kJ(l:List Nd)(i:Nat):=Nd.ks (List.getD l i default)
def a1M:=IV.int .i64
def zV(l:List Nd)(i:Nat):=TV.v (.vslice none 0 ((kJ l i).length) 1 (List.map a1M (kJ l i)))
def zW(l:List Nd)(i:Nat):=TV.v (.int .i64 (↑((kJ l i).length):Int))
def b2W(l:List Nd):=List.flatMap cN l
def vS(l:List Nd)(e0:Nat):=TV.v (.vslice none e0 l.length 3 (b2W l))
def vT(id:Nat)(k0:List Int):=TV.v (.hslice id 0 k0.length 1)
def vU(i:Nat):=TV.v (.int .i64 (↑i:Int))
def e7T:=[iI 26,iI 0,IV.vslice none 0 0 1 []]
def e7U:=[iI 1,iI 0,IV.vslice none 0 0 1 []]
def d2E(l:List Nd)(i:Nat):=decide (0<=(↑i:Int)) &&decide ((↑i:Int)< (↑l.length:Int))
def b8M:=TV.v (.int .i64 0)
def e7V(h:Heap):=IV.vslice (some (h.next+1)) 1 1 1 [iI 0]
def vV:=TV.v IV.nilslice
def f6S(h2:Heap):=IV.vslice (some (h2.next)) 1 1 1 [iI 2]
def e0D(h:Heap):=h.push (IObj.tip (3:Nat))
def d2F:=IObj.tip (1:Nat)
abbrev f6T(l:List Nd):= ∀(x:Nd),x∈l->List.length (Nd.ks x)<=1000000/\True
def d2G(l_1:List Nd):=l_1.length+3
def f6U(h:Heap):=IV.vslice (some (h.next)) 3 1 3 e7U
def f6V(h:Heap):=IV.vslice (some (h.next)) 3 1 3 e7T
def e0E(e0 i id x:Nat)(h:Heap)(k0:List Int)(l:List Nd)(y0:IV):Prop:= ∃(yy:Nat),some (vS l e0)=some (vS l e0)/\some (vT id k0)=some (vT id k0)/\some (vU i)=some (vU i)/\some (zV l i)=some (zV l i)/\some (zW l i)=some (zW l i)/\tI 1=some b8M/\some (TV.v (y0))=some vV/\some (TV.v (e7V h))=some vV/\Heap.push (e0D h) d2F
 =h/\(yy=0/\True)/\List.length (kJ l i)-yy< (kJ l i).length-x
def e0F(e0 i id:Nat)(h:Heap)(k0:List Int)(l:List Nd)(x:Nat×Heap×Nat×Nat×List Nd×List Int)(y0:IV):Prop:= ∃(yy:Nat),some (vS l e0)=some (vS l e0)/\some (vT id k0)=some (vT id k0)/\some (vU i)=some (vU i)/\some (zV l i)=some (zV l i)/\some (zW l i)=some (zW l i)/\tI (wW ((↑x.1:Int)+1))=some b8M/\some (TV.v (y0))=some vV/\some (TV.v (.vslice (some x.2.2.2.1)
 (x.2.2.2.2.2.length+1) (x.2.2.2.2.2.length+1) 1 (List.map a1M x.2.2.2.2.2++ [iI (↑x.2.2.2.2.1.length:Int)])))=some vV/\Heap.set (x.2.1.set x.2.2.1 (IObj.tip (x.2.2.2.2.1.length*3+3))) x.2.2.2.1 (IObj.tip (x.2.2.2.2.2.length+1))=h/\(yy=0/\True)/\List.length (kJ l i)-
 yy< (kJ l i).length-x.1
def a5N(e0 i id:Nat)(h:Heap)(k0:List Int)(l:List Nd)(y0:Int)(y1 y2:IV)(y3:Heap)(y4:Nat):Prop:= ∃(yy:Nat×Heap×Nat×Nat×List Nd×List Int),some (vS l e0)=some (vS l e0)/\some (vT id k0)=some (vT id k0)/\some (vU i)=some (vU i)/\some (zV l i)=some (zV l i)/\some (zW l i)=some (zW l i)/\tI (y0)=tI (↑yy.1:Int)/\some (TV.v (y1))=some (TV.v (.vslice
 (some yy.2.2.1) (yy.2.2.2.2.1.length*3) yy.2.2.2.2.1.length 3 (List.flatMap cN yy.2.2.2.2.1)))/\some (TV.v (y2))=some (TV.v (.vslice (some yy.2.2.2.1) yy.2.2.2.2.2.length yy.2.2.2.2.2.length 1 (List.map a1M yy.2.2.2.2.2)))/\y3=yy.2.1/\(((yy.1<=List.length (kJ l i)/\(yy.2.2.2.2.1,yy.2.2.2.2.2)
 =iD ([],[]) (kY l i yy.1 k0))/\(yy.2.1.get yy.2.2.1=IObj.tip (yy.2.2.2.2.1.length*3)/\Heap.get yy.2.1 yy.2.2.2.1=IObj.tip yy.2.2.2.2.2.length)/\(yy.2.2.1≠id/\yy.2.2.2.1≠id/\yy.2.2.1≠yy.2.2.2.1)/\(yy.2.2.1<yy.2.1.next/\yy.2.2.2.1<yy.2.1.next)/\Heap.get yy.2.1
 id=h.get id/\Heap.next h<=Heap.next yy.2.1)/\True)/\List.length (kJ l i)-yy.1<y4
theorem f6W(l:List Nd)(i:Nat)(e0 id:Nat)(k0:List Int)(h:Heap)(Q:KT):dF (aV b2V) env 98 dV (tK 5 (g8L l i e0 id k0 h)) bT [.vslice none e0 (l).length 3 ((l).flatMap cN),.hslice id 0 k0.length 1,.int .i64 (i:Int)] h Q=(
 aC (d2E l i) (bH 1 (b2W l) ((↑i:Int).toNat*3+2) fun(i0:Option Nat)(e1 l2:Nat)(c3:List IV)=>((∃(x:Nat),some (vS l e0)=some (vS l e0)/\some (vT id k0)=some (vT id k0)/\some (vU i)=some (vU i)/\some (TV.v (.vslice i0 e1 l2 (1:Nat) c3))=some (zV l i)/\tI (↑l2:Int)=some (zW l i)/\some b8M=some b8M/\some vV=some vV/\some vV=some vV/\h=h/\(x=0/\True)/\True) \/ ∃(x:Nat×Heap×Nat×Nat×List Nd×List Int),some (vS l e0)=some (vS l e0)/\some (vT id k0)=some (vT id k0)/\some (vU i)=some (vU i)/\some (TV.v (.vslice i0 e1 l2 1 c3))=some (zV l i)/\tI (↑l2:Int)=some (zW l i)/\some b8M=tI (↑x.1:Int)/\some vV=some (TV.v (.vslice (some x.2.2.1) (x.2.2.2.2.1.length*3) x.2.2.2.2.1.length (3:Nat) (List.flatMap cN x.2.2.2.2.1)))/\some vV=some (TV.v (.vslice (some x.2.2.2.1) x.2.2.2.2.2.length x.2.2.2.2.2.length 1 (List.map a1M x.2.2.2.2.2)))/\h=x.2.1/\(((x.1<=List.length (kJ l i)/\(x.2.2.2.2.1,x.2.2.2.2.2)=iD ([],[]) (kY l i x.1 k0))/\(x.2.1.get x.2.2.1=IObj.tip (x.2.2.2.2.1.length*3)/\Heap.get x.2.1 x.2.2.2.1=IObj.tip x.2.2.2.2.2.length)/\(x.2.2.1≠id/\Prod.fst (x.2.2.2)≠id/\x.2.2.1≠x.2.2.2.1)/\(x.2.2.1<x.2.1.next/\x.2.2.2.1<x.2.1.next)/\Heap.get x.2.1 id=h.get id/\Heap.next h<=Heap.next x.2.1)/\True)/\True)/\(∀(x:Nat)(b:FF),x=0/\True->aM (decide (0< (↑((kJ l i).length):Int))) (aC (true&&decide (0< (↑((kJ l i).length):Int))) (aK .i64 (List.map a1M (kJ l i)) 0 fun n4=>aC (decide (0<=n4) &&decide (n4< (↑k0.length:Int))) (aF h id fun r5=>aK .i64 r5 ((0:Nat)+n4.toNat*1) fun n6=>aM (n6==1) ((e0E e0 i id x h k0 l (f6U h)) \/a5N e0 i id h k0 l (1:Int) (f6U h) (e7V h) ((e0D h).push d2F) ((kJ l i).length-x)) (aM (n6==2) ((e0E e0 i id x h k0 l (f6V h)) \/a5N e0 i id h k0 l (1:Int) (f6V h) (e7V h) ((e0D h).push d2F) ((kJ l i).length-x)) (aC (decide (0<=n4) &&decide (n4< (↑(l.length):Int))) (bH 1 (b2W l) (n4.toNat*3+2) fun(i7:Option Nat)(e8 l9:Nat)(c10:List IV)=>(1<=(↑l9:Int)/\(↑l9:Int)<=1000000)/\(False\/ ∃(k:Nat),((↑l9:Int)-1)/ (2:Int)=(↑k:Int)/\(1<=k/\k<=16)/\∀(h2:Heap)(cc:List IV),cc=Keep.loopC (0:Nat) k->(h2.get (h.next)=IObj.tip (9:Nat)/\Heap.next h<h2.next/\∀(j:Nat),j<h.next->Heap.get h2 j=h.get j)->(∃(x_1:Nat),some (vS l e0)=some (vS l e0)/\some (vT id k0)=some (vT id k0)/\some (vU i)=some (vU i)/\some (zV l i)=some (zV l i)/\some (zW l i)=some (zW l i)/\tI 1=some b8M/\some (TV.v (.vslice (some (h.next)) 9 3 3 cc))=some vV/\some (TV.v (f6S h2))=some vV/\Heap.push h2 d2F=h/\(x_1=0/\True)/\List.length (kJ l i)-x_1< (kJ l i).length-x) \/a5N e0 i id h k0 l (1:Int) (IV.vslice (some (h.next)) 9 3 3 cc) (f6S h2) (h2.push d2F) ((kJ l i).length-x)))))))) (aC (d2E l i) (aK .i64 (b2W l) ((↑i:Int).toNat*3+0) fun n11=>aC (d2E l i) (aK .i64 (b2W l) ((↑i:Int).toNat*3+1) fun n12=> ∃(l:List Nd),((1:Nat)=l.length/\[iI n11,iI n12,IV.vslice none 0 (0:Nat) 1 []]=List.flatMap cN l)/\((f6T l)/\l.length<=1000000/\(0:Int)<=0/\0< (↑l.length:Int))/\Q (.int .i64 (List.getD (aG l) 0 0)) (e0D h)))))/\∀(x:Nat×Heap×Nat×Nat×List Nd×List Int)(b:FF),e7S l i k0 id h x.1 x.2.1 x.2.2.1 x.2.2.2.1 x.2.2.2.2.1 x.2.2.2.2.2/\True->aM (decide ((↑x.1:Int)< (↑((kJ l i).length):Int))) (aC (decide (0<=(↑x.1:Int)) &&decide ((↑x.1:Int)< (↑((kJ l i).length):Int))) (aK .i64 (List.map a1M (kJ l i)) ((↑x.1:Int).toNat*1) fun n13=>aC (decide (0<=n13) &&decide (n13< (↑k0.length:Int))) (aF x.2.1 id fun r14=>aK .i64 r14 ((0:Nat)+n13.toNat*1) fun n15=>aM (n15==1) (dG x.2.1 x.2.2.1 fun(m16:Nat)=>aC (Nat.beq m16 (x.2.2.2.2.1.length*3) &&Nat.ble ((x.2.2.2.2.1.length+1)*40) (140737488355328:Nat)) (dG (x.2.1.set x.2.2.1 (IObj.tip (x.2.2.2.2.1.length*3+3))) x.2.2.2.1 fun(m17:Nat)=>aC (Nat.beq m17 x.2.2.2.2.2.length&&Nat.ble ((((((x.2.2).2).2).2).length+1)*8) (140737488355328:Nat)) ((e0F e0 i id h k0 l x (IV.vslice (some x.2.2.1) (x.2.2.2.2.1.length*3+3) ((((((x.2).2).2).2).1).length+1) 3 (List.flatMap cN x.2.2.2.2.1++e7U))) \/a5N e0 i id h k0 l (wW ((↑x.1:Int)+1)) (IV.vslice (some x.2.2.1) (((((x.2.2).2).2).1).length*3+3) (x.2.2.2.2.1.length+1) 3 (List.flatMap cN x.2.2.2.2.1++e7U)) (IV.vslice (some x.2.2.2.1) ((x.2.2.2.2.2).length+1) (x.2.2.2.2.2.length+1) 1 (List.map a1M x.2.2.2.2.2++ [iI (↑(((((x.2.2).2).2).1).length):Int)])) ((x.2.1.set x.2.2.1 (IObj.tip (x.2.2.2.2.1.length*3+3))).set x.2.2.2.1 (IObj.tip (((x.2.2.2.2).2).length+1))) ((kJ l i).length-x.1)))) (aM (n15==2) (dG x.2.1 x.2.2.1 fun(m18:Nat)=>aC (Nat.beq m18 (x.2.2.2.2.1.length*3) &&Nat.ble ((x.2.2.2.2.1.length+1)*40) (140737488355328:Nat)) (dG (x.2.1.set x.2.2.1 (IObj.tip (x.2.2.2.2.1.length*3+(3:Nat)))) x.2.2.2.1 fun(m19:Nat)=>aC (Nat.beq m19 x.2.2.2.2.2.length&&Nat.ble ((x.2.2.2.2.2.length+1)*8) (140737488355328:Nat)) ((e0F e0 i id h k0 l x (IV.vslice (some x.2.2.1) (x.2.2.2.2.1.length*3+3) (x.2.2.2.2.1.length+1) 3 (List.flatMap cN ((x.2.2.2.2).1)++e7T))) \/a5N e0 i id h k0 l (wW ((↑x.1:Int)+1)) (IV.vslice (some x.2.2.1) (x.2.2.2.2.1.length*3+3) ((x.2.2.2.2.1).length+1) 3 (List.flatMap cN x.2.2.2.2.1++e7T)) (IV.vslice (some x.2.2.2.1) (x.2.2.2.2.2.length+1) (x.2.2.2.2.2.length+1) 1 (List.map a1M x.2.2.2.2.2++ [iI (↑x.2.2.2.2.1.length:Int)])) (((x.2.1).set x.2.2.1 (IObj.tip (x.2.2.2.2.1.length*3+3))).set x.2.2.2.1 (IObj.tip (x.2.2.2.2.2.length+1))) ((kJ l i).length-x.1)))) (aC (decide (0<=n13) &&decide (n13< (↑l.length:Int))) (bH 1 (b2W l) (n13.toNat*3+2) fun(i20:Option Nat)(e21 l22:Nat)(c23:List IV)=>(1<=(↑l22:Int)/\(↑l22:Int)<=1000000)/\((∃(l_1:List Nd),∃(k:Nat),(x.2.2.2.2.1.length=l_1.length/\x.2.2.2.2.1.length*3=l_1.length*3/\List.flatMap cN x.2.2.2.2.1=List.flatMap cN l_1/\((↑l22:Int)-1)/ (2:Int)=(↑k:Int))/\(1<=k/\k<=16/\l_1.length<=100000)/\Heap.get x.2.1 x.2.2.1=IObj.tip (l_1.length*3)/\x.2.2.1<x.2.1.next/\∀(h2:Heap)(cc:List IV),cc=List.flatMap cN l_1++Keep.loopC l_1.length k->(h2.get x.2.2.1=IObj.tip ((d2G l_1)*3)/\Heap.next x.2.1<=Heap.next h2/\∀(j:Nat),j< ((x.2).1).next->j≠x.2.2.1->Heap.get h2 j=x.2.1.get j)->dG h2 x.2.2.2.1 fun(m24:Nat)=>aC (Nat.beq m24 x.2.2.2.2.2.length&&Nat.ble ((((x.2.2.2.2).2).length+1)*8) (140737488355328:Nat)) ((∃(x_1:Nat),some (vS l e0)=some (vS l e0)/\some (vT id k0)=some (vT id k0)/\some (vU i)=some (vU i)/\some (zV l i)=some (zV l i)/\some (zW l i)=some (zW l i)/\tI (wW ((↑x.1:Int)+1))=some b8M/\some (TV.v (.vslice (some x.2.2.1) ((d2G l_1)*3) (d2G l_1) 3 cc))=some vV/\some (TV.v (.vslice (some x.2.2.2.1) (x.2.2.2.2.2.length+1) (x.2.2.2.2.2.length+1) 1 (List.map a1M x.2.2.2.2.2++ [iI (↑(l_1.length+2):Int)])))=some vV/\Heap.set h2 x.2.2.2.1 (IObj.tip (x.2.2.2.2.2.length+1))=h/\(x_1=0/\True)/\List.length (kJ l i)-x_1< (kJ l i).length-x.1) \/a5N e0 i id h k0 l (wW ((↑x.1:Int)+1)) (IV.vslice (some x.2.2.1) ((d2G l_1)*3) (d2G l_1) 3 cc) (IV.vslice (some x.2.2.2.1) (x.2.2.2.2.2.length+1) (x.2.2.2.2.2.length+1) 1 (List.map a1M x.2.2.2.2.2++ [iI (↑(l_1.length+2):Int)])) (h2.set x.2.2.2.1 (IObj.tip ((x.2.2.2.2.2).length+1))) ((kJ l i).length-x.1))) \/False))))))) (aC (d2E l i) (aK .i64 (b2W l) ((↑i:Int).toNat*3+0) fun n25=>aC (d2E l i) (aK .i64 (b2W l) ((↑i:Int).toNat*(3:Nat)+1) fun n26=>dG x.2.1 x.2.2.1 fun(m27:Nat)=>aC (Nat.beq m27 (x.2.2.2.2.1.length*3) &&Nat.ble ((x.2.2.2.2.1.length+(1:Nat))*40) (140737488355328:Nat)) (∃(l:List Nd),(x.2.2.2.2.1.length+1=l.length/\List.flatMap cN x.2.2.2.2.1++ [iI n25,iI n26,IV.vslice none (0:Nat) x.2.2.2.2.2.length (1:Nat) (List.map a1M x.2.2.2.2.2)]=List.flatMap cN l)/\((f6T l)/\l.length<=1000000/\0<=wW ((↑((x.2.2.2.2.1).length+1):Int)-1)/\wW ((↑(x.2.2.2.2.1.length+1):Int)-1)< (↑l.length:Int))/\Q (.int .i64 (List.getD (aG l) ((wW ((↑(x.2.2.2.2.1.length+1):Int)-1)).toNat) 0)) (x.2.1.set x.2.2.1 (IObj.tip (x.2.2.2.2.1.length*3+3))))))))):=by kernel_rfl
theorem f6X: ∀xs h Q,c3L xs h Q->aU env 98 xs h Q:=by
 intro xs h Q hk;unfold c3L at hk;split at hk
 ·rename_i e0 n0 c0 id n2 q;obtain⟨l,i,k0,⟨rfl,rfl,rfl,rfl⟩,hb,hk⟩:=hk;refine aS (b8L) (f6W l i e0 id k0 h Q) ?_;delta e0E e0F a5N zV zW vS vT kJ vU e7T e7U d2E b8M e7V vV a1M f6S e0D d2F f6T d2G f6U f6V b2W tI wW iI;have tn: ∀x:Nat,(x:Int).toNat=x:=h0Z
  obtain⟨hp,hg,hid⟩:=hb;have hi:=hp.hi;have hkl:=hp.hkl;have hll:=hp.hll;have eD:l.getD i default=l[i]:=by rw [h1A,h0U hi];rfl
  have e0:(l.flatMap cN)[i*3]?=some (.int .i64 (l.getD i default).op):=by rw [eD];exact a8J hi (j:=0) (by omega)
  have e1:(l.flatMap cN)[i*3+1]?=some (.int .i64 (l.getD i default).im):=by rw [eD];exact a8J hi (j:=1) (by omega)
  have kq: ∀j,(hj:j< (l.getD i default).ks.length)-> ∃(q1:((l.getD i default).ks[j]).toNat<k0.length),(0<=(l.getD i default).ks[j]/\(l.getD i default).ks[j]<l.length)/\k0[((l.getD i default).ks[j]).toNat]=k0.getD ((l.getD i default).ks[j]).toNat 0/\(k0.getD ((l.getD i default).ks[j]).toNat 0=1\/k0.getD ((l.getD i default).ks[j]).toNat 0=2\/k0.getD ((l.getD i default).ks[j]).toNat 0=3)/\(k0.getD ((l.getD i default).ks[j]).toNat 0=3->(l.getD ((l.getD i default).ks[j]).toNat default).ks.length%2=1/\3<=(l.getD ((l.getD i default).ks[j]).toNat default).ks.length/\(l.getD ((l.getD i default).ks[j]).toNat default).ks.length<=33):=fun j hj=>by
   obtain⟨a,b,c,d,e⟩:=hp.kid (h1B hj);exact⟨b,⟨a.1,by omega⟩,by rw [h1A (l:=k0),h0U b];rfl,d,e⟩
  refine aA (by simp;omega) (e7A hi (by rw [tn]) ?_);rw [<-eD];refine⟨.inl ⟨0,rfl,rfl,rfl,rfl,rfl,rfl,rfl,rfl,rfl,⟨rfl,trivial⟩,trivial⟩,?_,?_⟩
  ·rintro x _ ⟨rfl,_⟩;have est:(([]:List Nd),([]:List Int))=iD ([],[]) (kY l i 0 k0):=rfl;refine dW (fun c=>?_) (fun c=>?_)
   ·have hj:0< (l.getD i default).ks.length:=by omega
    obtain⟨q1,q2,q3,q4,q5⟩:=kq 0 hj;refine aA (by rw [h2G,decide_eq_true_eq];omega) (jM hj rfl (aP ⟨q2.1,by omega⟩ (aB hg (jM q1 (by omega) ?_))));rw [q3];have gid2: ∀(o p:IObj),((h.push o).push p).get id=h.get id:=fun o p=>(aJ (show id< (h.push o).next from h1T hid)).trans (aJ hid)
    have gF2: ∀(o p:IObj),((h.push o).push p).get h.next=o:=fun o p=>(aJ (show h.next< (h.push o).next from h1G _)).trans aR
    rcases q4 with s|s|s
    ·rw [s];exact bt rfl (.inr ⟨(1,_,h.next,h.next+1,[⟨1,0,[]⟩],[0]),(by rfl),(by rfl),(by rfl),(by rfl),(by rfl),(by rfl),(by rfl),(by rfl),(by rfl),⟨⟨⟨hj,a8S hj est s⟩,⟨gF2 _ _,aR⟩,⟨by dsimp only;omega,by dsimp only;omega,by dsimp only;omega⟩,⟨by show h.next<h.next+1+1;omega,by show h.next+1<h.next+1+1;omega⟩,gid2 _ _,by show h.next<=h.next+1+1;omega⟩,trivial⟩,by dsimp only;omega⟩)
    ·rw [s];exact bf rfl (bt rfl (.inr ⟨(1,_,h.next,h.next+1,[⟨26,0,[]⟩],[0]),(by rfl),(by rfl),(by rfl),(by rfl),(by rfl),(by rfl),(by rfl),(by rfl),(by rfl),⟨⟨⟨hj,a8T hj est s⟩,⟨gF2 _ _,aR⟩,⟨by dsimp only;omega,by dsimp only;omega,by dsimp only;omega⟩,⟨by show h.next<h.next+1+1;omega,by show h.next+1<h.next+1+1;omega⟩,gid2 _ _,by show h.next<=h.next+1+1;omega⟩,trivial⟩,by dsimp only;omega⟩))
    ·rw [s];have h33:=q5 s;have hm:(l.getD ((l.getD i default).ks[0]).toNat default)=l[((l.getD i default).ks[0]).toNat]:=by rw [h1A,h0U (by omega)];rfl
     refine bf rfl (bf rfl (aP q2 (e7A (show((l.getD i default).ks[0]).toNat<l.length by omega) rfl ⟨by rw [<-hm];omega,.inr ⟨((l.getD ((l.getD i default).ks[0]).toNat default).ks.length-1)/2,by rw [<-hm];omega,by omega,fun h2 cc hcc ⟨g1,g2,g3⟩=> .inr ⟨(1,h2.push (.tip 1),h.next,h2.next,iW 0 (((l.getD ((l.getD i default).ks[0]).toNat default).ks.length-1)/2),[2]),rfl,rfl,rfl,rfl,rfl,rfl,(by rw [hcc];rfl),rfl,rfl,⟨⟨⟨hj,a8U hj est s⟩,⟨(aJ g2).trans g1,aR⟩,⟨by dsimp only;omega,by dsimp only;omega,by dsimp only;omega⟩,⟨h1T g2,h1G _⟩,(aJ (Nat.lt_trans hid g2)).trans (g3 id hid),by show h.next<=h2.next+1;omega⟩,trivial⟩,by dsimp only;omega⟩⟩⟩)))
   ·have hz:(l.getD i default).ks.length=0:=by omega
    have fin:=hp.fin (few:=[]) (kids:=[]) (by rw [hz];exact est);refine aP ⟨by omega,by omega⟩ (bF (by rw [tn];exact e0) (aP ⟨by omega,by omega⟩ (bF (by rw [tn];exact e1) ⟨[⟨(l.getD i default).op,(l.getD i default).im,[]⟩],⟨rfl,rfl⟩,⟨fun x hx=>?_,by simp,by simp,by simp⟩,cO (hk _ ⟨aJ hid,h4E _⟩) ?_⟩)))
    ·rw [h2J.1 hx];exact⟨by simp,trivial⟩
    ·rw [<-fin];rfl
  ·rintro⟨j,g,iF,iK,few,kids⟩ _ ⟨st,_⟩;obtain⟨⟨hj0,est⟩,⟨gF,gK⟩,⟨nF,nK,nFK⟩,⟨lF,lK⟩,hgi,hnx⟩:=(show e7S l i k0 id h j g iF iK few kids from st);obtain⟨z1,z2,z3,z4⟩:=hp.sz hj0 est;dsimp only;have hg2:g.get id= .cells (k0.map (IV.int .i64)):=hgi.trans hg;refine dW (fun c=>?_) (fun c=>?_)
   ·have hj:j< (l.getD i default).ks.length:=by omega
    obtain⟨q1,q2,q3,q4,q5⟩:=kq j hj;refine aP ⟨by omega,by omega⟩ (jM hj (by rw [h1W,tn]) (aP ⟨q2.1,by omega⟩ (aB hg2 (jM q1 (by omega) ?_))));rw [q3];have hw:IntKind.i64.wrap ((j:Int)+1)=((j+1:Nat):Int):=by rw [h0X _ (by omega)];rfl
    have gK2:(g.set iF (.tip (few.length*3+3))).get iK= .tip kids.length:=by rw [aE nFK.symm];exact gK
    have aft: ∀(few2:List Nd)(e2:Int),few2.length=few.length+1->(few2,kids++ [e2])=iD ([],[]) (kY l i (j+1) k0)->e7S l i k0 id h (j+1) ((g.set iF (.tip (few.length*3+3))).set iK (.tip (kids.length+1))) iF iK few2 (kids++ [e2]):=fun few2 e2 hl he=>by
     refine⟨⟨hj,he⟩,⟨?_,?_⟩,⟨nF,nK,nFK⟩,⟨lF,lK⟩,?_,hnx⟩
     ·rw [aE nFK,aH];congr 1;omega
     ·rw [aH,h1E];rfl
     ·rw [aE nK.symm,aE nF.symm];exact hgi
    rcases q4 with s|s|s
    ·rw [s];exact bt rfl (bE gF (aA (by simp only [h0Y,bY,h1S,true_and];omega) (bE gK2 (aA (by simp only [h0Y,bY,h1S,true_and];omega) (.inr ⟨(j+1,_,iF,iK,few++ [⟨1,0,[]⟩],kids++ [(few.length:Int)]),(by rfl),(by rfl),(by rfl),(by rfl),(by rfl),(by dsimp only;rw [hw]),(by simp only [h1E,h1O,h1U,h3M];rw [h3B];rfl),(by simp only [h1E,h1O,h1U,h3O];rfl),(by rfl),⟨aft _ _ (by simp) (a8S hj est s),trivial⟩,by dsimp only;omega⟩)))))
    ·rw [s];exact bf rfl (bt rfl (bE gF (aA (by simp only [h0Y,bY,h1S,true_and];omega) (bE gK2 (aA (by simp only [h0Y,bY,h1S,true_and];omega) (.inr ⟨(j+1,_,iF,iK,few++ [⟨26,0,[]⟩],kids++ [(few.length:Int)]),(by rfl),(by rfl),(by rfl),(by rfl),(by rfl),(by dsimp only;rw [hw]),(by simp only [h1E,h1O,h1U,h3M];rw [h3B];rfl),(by simp only [h1E,h1O,h1U,h3O];rfl),(by rfl),⟨aft _ _ (by simp) (a8T hj est s),trivial⟩,by dsimp only;omega⟩))))))
    ·rw [s];have h33:=q5 s;have hm:(l.getD ((l.getD i default).ks[j]).toNat default)=l[((l.getD i default).ks[j]).toNat]:=by rw [h1A,h0U (by omega)];rfl
     refine bf rfl (bf rfl (aP q2 (e7A (show((l.getD i default).ks[j]).toNat<l.length by omega) rfl ⟨by rw [<-hm];omega,.inl ⟨few,((l.getD ((l.getD i default).ks[j]).toNat default).ks.length-1)/2,⟨rfl,rfl,rfl,by rw [<-hm];omega⟩,⟨by omega,by omega,by omega⟩,gF,lF,fun h2 cc hcc ⟨g1,g2,g3⟩=>?_⟩⟩)));have gK3:h2.get iK= .tip kids.length:=(g3 iK lK nFK.symm).trans gK;refine bE gK3 (aA (by simp only [h0Y,bY,h1S,true_and];omega) (.inr ⟨(j+1,h2.set iK (.tip (kids.length+1)),iF,iK,few++iW few.length (((l.getD ((l.getD i default).ks[j]).toNat default).ks.length-1)/2),kids++ [((few.length+2:Nat):Int)]),rfl,rfl,rfl,rfl,rfl,(by dsimp only;rw [hw]),?_,(by simp only [h1E,h1O,h1U,h3O];rfl),rfl,⟨⟨⟨hj,a8U hj est s⟩,⟨?_,?_⟩,⟨nF,nK,nFK⟩,⟨h1C lF g2,h1C lK g2⟩,?_,h2F hnx g2⟩,trivial⟩,by dsimp only;omega⟩))
     ·dsimp only;rw [hcc,h1E,h3M];rfl
     ·dsimp only;rw [aE nFK,g1,h1E];rfl
     ·dsimp only;rw [aH,h1E];rfl
     ·dsimp only;rw [aE nK.symm,g3 id (by omega) nF.symm];exact hgi
   ·have hjl:j=(l.getD i default).ks.length:=by omega
    rw [hjl]at est;have fin:=hp.fin est;have hw1:IntKind.i64.wrap (((few.length+1:Nat):Int)-1)=(few.length:Int):=by rw [h0X _ (by omega)];omega
    refine aP ⟨by omega,by omega⟩ (bF (by rw [tn];exact e0) (aP ⟨by omega,by omega⟩ (bF (by rw [tn];exact e1) (bE gF (aA (by simp only [h0Y,bY,h1S,true_and];omega) ⟨few++ [⟨(l.getD i default).op,(l.getD i default).im,kids⟩],⟨by simp,?_⟩,⟨fun x hx=>?_,by simp;omega,by rw [hw1];omega,by rw [hw1];simp;omega⟩,cO (hk _ ⟨?_,?_⟩) ?_⟩)))))
    ·rw [h3M];rfl
    ·rcases h2S.1 hx with hx|hx
     ·exact⟨z4 x hx,trivial⟩
     ·rw [h2J.1 hx];exact⟨by show kids.length<=1000000;omega,trivial⟩
    ·rw [aE nF.symm];exact hgi
    ·exact hnx
    ·rw [hw1,tn,fin]
 ·exact hk.elim
def c3M:=bB 98 c3L b2V
theorem c8U:aT env c3M:=aI f6X (b8L)
end Go.Proofs.YtkonebkblgemkaaGreat
end
end
