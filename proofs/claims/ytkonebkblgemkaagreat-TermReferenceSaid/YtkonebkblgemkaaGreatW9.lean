/-
  Texts of this proof, one after the other.
  Conditions: none.
-/
import Derived.Test.YtkonebkblgemkaaGreatW8
set_option linter.unusedVariables false
set_option linter.unusedSimpArgs false
set_option maxRecDepth 100000
set_option maxHeartbeats 4000000
noncomputable section
variable{i j m b:Nat}{x y z u v:Int}{h g:Go.Pv.Heap}{c d l:List Go.Pv.IV}{A B C:List Go.M15.Nd}{K L:Y12}{p s t:Go.Pv.IV}{F:List Go.M10.E}{D:Go.Pv.Meta}{V W:List Go.Value}{T U:Go.TypeId}{o:Bool}{X Y:Go.Value}{G:Go.M10.BSt}{O:Go.Oper}{N:Y10}{H:Array Go.Value}
section
namespace Go.Proofs.YtkonebkblgemkaaGreat
open Go.Pv Go.M15 Go.M10 Go.M29
def nbI(s:Y11)(m:Nat):Inv':=eY (Nat×Int) (fun x=>[(0,.v (.str s)),(1,.v (.int .u64 (m:Int))),(6,.v (.int .u64 x.2)),(7,.v (.int .i64 (x.1:Int)))]) (fun _=>[]) (fun _=>Heap.empty) (fun x=>(x.1<=s.length/\x.1<=19)/\O4 s x.1 x.2/\(1<x.1->s[0]?≠some 48)) (fun x=>20-x.1)
def a1R(xs:Y14)(h:Heap)(K:KT):Prop:=match xs with
 | [.str s,.int .u64 n1]=> ∃m:Nat,n1=(m:Int)/\(m<=18446744073709551615/\s.length<=1000000)/\K (rNm s m) h
 |_=>False
def yQ:=IV.tuple [.int .u64 0,IV.bool false]
def Ei(m:Nat):=TV.v (.int .u64 (m:Int))
def Ej(x:Nat×Int):=(x.1:Int).toNat
def Kw(m:Nat)(s:Y11)(x:Nat×Int)(y0:IV):Prop:= ∃(g:Nat×Int),some (TV.v (.str s))=some (TV.v (.str s))/\some (Ei m)=some (Ei m)/\some (TV.v (y0))=some (TV.v (.int .u64 g.2))/\tI (wW ((x.1:Int)+1))=tI (g.1:Int)/\Heap.mk PT.nil 0=Heap.mk PT.nil 0/\((g.1<=s.length/\g.1<=19)/\O4 s g.1 g.2/\(1<g.1->s[(0
 :Nat)]?≠some (48:UInt8)))/\(20:Nat)-g.1<20-x.1
theorem d1T(s:Y11)(m:Nat)(h:Heap)(Q:KT):dF (aS noC) env 163 dL (kR 4 (nbI s m)) bS [.str s,.int .u64 (m:Int)] h Q=(
 (∃(x:Nat×Int),some (TV.v (.str s))=some (TV.v (.str s))/\some (Ei m)=some (Ei m)/\some (TV.v (.int .u64 0))=some (TV.v (.int .u64 x.2))/\tI 0=tI (x.1:Int)/\Heap.mk PT.nil 0=Heap.mk PT.nil 0/\((x.1<=s.length/\x.1<=19)/\O4 s x.1 x.2/\(1<x.1->s[(0:Nat)]?≠some (48:UInt8)))/\True)/\∀(x:Nat×Int)(b:FF),(x.1<=s.length/\x.1<=19)/\O4 s x.1 x.2/\(1<x.1->s[(0:Nat)]?≠some (48:UInt8))->aJ (decide ((x.1:Int)< (s.length:Int))) (gN s (Ej x) fun g=>aJ (decide (g<48)) (Q yQ h) (gN s (Ej x) fun i=>aJ (decide (i>57)) (Q yQ h) (aJ ((x.1:Int)==1) (gN s 0 fun j=>aJ (j==48) (Q yQ h) (aJ (decide ((x.1:Int)>18)) (Q yQ h) (gN s (Ej x) fun l=>Kw m s x (IV.int .u64 (IntKind.wrap .u64 (IntKind.wrap .u64 ((10:Int)*x.2)+IntKind.wrap .u64 (IntKind.wrap .u8 (l-48)))))))) (aJ (decide ((x.1:Int)>18)) (Q yQ h) (gN s (Ej x) fun c4=>Kw m s x (IV.int .u64 (IntKind.wrap .u64 (IntKind.wrap .u64 ((10:Int)*x.2)+IntKind.wrap .u64 (IntKind.wrap .u8 (c4-48)))))))))) (aJ (s==[]) (Q yQ h) (aJ (decide (x.2>(m:Int))) (Q yQ h) (Q (.tuple [.int .u64 x.2,IV.bool true]) h)))):=by kernel_rfl
theorem d1U: ∀xs h Q,a1R xs h Q->aO env 163 xs h Q:=by
 intro xs h Q l;unfold a1R at l;split at l
 ·rename_i s n1;obtain⟨m,rfl,X,l⟩:=l;refine aN (jR env) (d1T s m h Q) ?_;delta Kw yQ Ei Ej tI wW;have Y: ∀x:Nat,(x:Int).toNat=x:=AE
  obtain⟨Z,hs⟩:=X;have z:mD s m=none->Q (.tuple [.int .u64 0,.bool false]) h:=fun e=>by
   unfold rNm at l;rw [e]at l;exact l
  refine⟨⟨(0,0),IR,IR,IR,IR,IR,⟨⟨AR _,IN⟩,Dz s,fun q=>by cases q⟩,trivial⟩,?_⟩;rintro⟨i,n⟩ _ ⟨⟨hi,A⟩,O,L⟩;dsimp only at hi A O L⊢;have p:=(show O4 s i n from O);refine dA (fun c=>?_) (fun c=>?_)
  ·have g:i<s.length:=IM;have e0:s[0]?=some (s[0]'IM):=AA _;rw [Y];refine gV g (dA (fun u=>z (zQ g IM)) (fun u=>gV g (dA (fun G=>z (zQ g IM)) (fun G=>aC (fun D=>?_) (fun D=>?_)))))
   ·have V:i=1:=by have:=eq_of_beq D;omega
    refine gV IM (aC (fun c4=>z ?_) (fun c4=>dA (fun K=>IM) (fun K=>gV g ⟨(i+1,_),IR,IR,IR,(by rw [AB _ IM];rfl),IR,⟨⟨g,IS⟩,p.step g IM IM,fun _=>?_⟩,IS⟩)))
    ·have T:(s[0]'IM).toNat=48:=by have:=eq_of_beq c4;omega
     exact c0D IM (by rw [e0];exact congrArg some (UInt8.toNat_inj.1 T))
    ·rw [e0];intro q;rw [AX q]at c4
     cases c4
   ·have V:i≠1:=fun e=>by rw [e]at D;cases D
    refine dA (fun K=>z (Rg IM)) (fun K=>gV g ⟨(i+1,_),IR,IR,IR,(by rw [AB _ IM];rfl),IR,⟨⟨g,IS⟩,p.step g IM IM,fun _=>?_⟩,IS⟩);rcases BC 1 i with d|d
    ·exact L d
    ·dsimp only at*
     omega
  obtain rfl:i=s.length:=IM;refine aC (fun u=>z ?_) (fun u=>?_)
  ·rw [eq_of_beq u];exact Rh
  have h0:s≠[]:=fun e=>by rw [e]at u;cases u
  have j:=p.all (m:=m) h0 A L;refine dA (fun G=>z (by rw [j,if_neg IM])) (fun G=>?_);rw [if_pos IM]at j;unfold rNm at l;rw [j]at l;have e:=p.2.1;rw [DR]at e;rw [e];exact l
 ·exact l.elim
def a1S:=aT 163 a1R noC
theorem a1T:aP env a1S:=aF d1U (jR env)
def a1U(xs:Y14)(h:Heap)(K:KT):Prop:=match xs with
 | [.str s]=>s.length<=1000000/\K (rIn s) h
 |_=>False
def a1V(s:Y11)(h:Heap)(Q:KT):=(∃(m:Nat),(9223372036854775807:Int)=(m:Int)/\(m<=18446744073709551615/\s.length<=1000000)/\Q (.tuple [.int .i64 (wW (↑(Option.getD (mD s m) 0):Int)),IV.bool (Option.isSome (mD s m))]) h)
def Ek(s:Y11):=List.take ((s.length:Int).toNat-1) (List.drop 1 s)
def a1W:=IV.tuple [.int .i64 0,IV.bool false]
theorem d1V(s:Y11)(h:Heap)(Q:KT):dF (aS a1S) env 162 dL bS bS [.str s] h Q=(
 aJ (s==[]) (a1V s h Q) (gN s 0 fun g=>aJ (g !=45) (a1V s h Q) (aD (true&& (decide (1<=(s.length:Int)) &&decide ((s.length:Int)<=(s.length:Int)))) (∃(m:Nat),(9223372036854775808:Int)=(m:Int)/\(m<=(18446744073709551615:Nat)/\List.length (Ek s)<=1000000)/\aJ (!Option.isSome (mD (Ek s) m)) (Q a1W h) (aJ ((↑(Option.getD (mD (Ek s) m) 0):Int)==0) (Q a1W h) (Q (.tuple [.int .i64 (wW (wW ((0:Int)-wW (IntKind.wrap .u64 ((↑(Option.getD (mD (Ek s) m) 0):Int)-1)))-1)),IV.bool true]) h)))))):=by kernel_rfl
theorem d1W: ∀xs h Q,a1U xs h Q->aO env 162 xs h Q:=by
 intro xs h Q g;unfold a1U at g;split at g
 ·rename_i s;refine aN (a1T) (d1V s h Q) ?_;delta a1V Ek a1W wW;have A: ∀x:Nat,(x:Int).toNat=x:=AE
  obtain⟨hs,g⟩:=g;have i:(s=[] \/ ∃c t,s=c::t/\c≠45)->Q (.tuple [.int .i64 (IntKind.wrap .i64 ((Option.getD (mD s 9223372036854775807) 0:Nat):Int)),.bool (Option.isSome (mD s 9223372036854775807))]) h:=fun c=>by
   have l:kS s=(mD s 9223372036854775807).map fun n:Nat=>(n:Int):=by
    rcases c with rfl| ⟨c,t,rfl,u⟩
    ·rfl
    ·exact if_neg u
   unfold rIn at g;rw [l]at g
   cases e:mD s 9223372036854775807 with
   |none=>
    rw [e]at g;exact g
   |some n=>
    rw [e]at g;have:=(jT e).2.2;dsimp only [Option.getD_some];rw [AB _ IM];exact g
  refine aC (fun c=>⟨9223372036854775807,rfl,⟨IN,hs⟩,i (.inl (eq_of_beq c))⟩) (fun c=>?_)
  cases s with
  |nil=>cases c
  |cons a t=>
   refine gV (Nat.zero_lt_succ _) (aC (fun j=>⟨9223372036854775807,rfl,⟨IN,hs⟩,i (.inr ⟨a,t,rfl,fun e=>by subst e;cases j⟩)⟩) (fun j=>?_));have ha:a=45:=UInt8.toNat_inj.1 (by
    rw [bne_eq_false_iff_eq]at j;exact Int.ofNat.inj j)
   subst ha;have p:List.take ((((45::t:Y11).length:Nat):Int).toNat-1) (List.drop 1 (45::t))=t:=IP;rw [p];rw [AK]at hs;refine aA (by simp;omega) ⟨9223372036854775808,rfl,⟨IN,IM⟩,?_⟩;unfold rIn kS at g;dsimp only at g;rw [if_pos rfl]at g
   cases e:mD t 9223372036854775808 with
   |none=>
    rw [e]at g;exact aC (fun _=>g) (fun q=>by cases q)
   |some n=>
    rw [e]at g;have z:=(jT e).2.2;dsimp only [Option.getD_some,Option.isSome_some]at g⊢;refine aC (fun q=>by cases q) (fun _=>aC (fun q=>?_) (fun q=>?_))
    ·have:n=0:=by have:=eq_of_beq q;omega
     rw [if_pos this]at g;exact g
    ·have h0:n≠0:=fun e=>by rw [e]at q;cases q
     rw [if_neg h0]at g;rw [d1F IM];exact g
 ·exact g.elim
def a1X:=aT 162 a1U a1S
theorem a1Y:aP env a1X:=aF d1W (a1T)
def wqC(s t:Y11)(b:Bool):Prop:=(b=true/\s=45::t) \/ (b=false/\t=s/\s.head?≠some 45)
def wqA(s:Y11):Inv':=eY (Y11×Bool) (fun x=>[(4,.v (.str x.1)),(5,.v (.bool x.2))]) (fun _=>[]) (fun _=>Heap.empty) (fun x=>wqC s x.1 x.2/\True) (fun _=>0)
def wqZ(s t:Y11)(b:Bool):Prop:=wqC s t b/\(1<=t.length/\t.length<=19)/\(t[0]?=some 48-> ¬1<t.length/\b=false)
def wqB(s:Y11):Inv':=eY (Y11×Bool) (fun x=>[(4,.v (.str x.1)),(5,.v (.bool x.2))]) (fun _=>[]) (fun _=>Heap.empty) (fun x=>wqZ s x.1 x.2/\True) (fun _=>0)
def wqI(s:Y11):Inv':=eY (Y11×Bool×Nat×Int) (fun x=>[(4,.v (.str x.1)),(5,.v (.bool x.2.1)),(6,.v (.int .u64 x.2.2.2)),(7,.v (.int .i64 (x.2.2.1:Int)))]) (fun _=>[]) (fun _=>Heap.empty) (fun x=>wqZ s x.1 x.2.1/\x.2.2.1<=x.1.length/\O4 x.1 x.2.2.1 x.2.2.2) (fun x=>20-x.2.2.1)
def wqD(s:Y11):Inv':=eY (Y11×Bool×Int) (fun x=>[(5,.v (.bool x.2.1)),(6,.v (.int .u64 x.2.2))]) (fun _=>[]) (fun _=>Heap.empty) (fun x=>wqZ s x.1 x.2.1/\O4 x.1 x.1.length x.2.2) (fun _=>0)
def a1Z(xs:Y14)(h:Heap)(K:KT):Prop:=match xs with
 | [.str s]=>s.length<=1000000/\K (rIn s) h
 |_=>False
def vD:=IV.tuple [.int .i64 0,IV.bool false]
abbrev a2A(s:Y11)(g:Y11×Bool):=g.2=true/\s=(45:UInt8)::g.1\/g.2=false/\g.1=s/\List.head? s≠some (45:UInt8)
def U3(s:Y11)(y0:IV)(i:Bool):Prop:= ∃(g:Y11×Bool),some (TV.v (y0))=some (TV.v (.str g.1))/\some (TV.v (.bool (i)))=some (TV.v (.bool g.2))/\Heap.mk PT.nil 0=Heap.mk PT.nil 0/\((a2A s g)/\True)/\True
def Kx(s:Y11)(x:Y11×Bool):Prop:= ∃(g:Y11×Bool),some (TV.v (.str x.1))=some (TV.v (.str g.1))/\some (TV.v (.bool x.2))=some (TV.v (.bool g.2))/\Heap.mk PT.nil 0=Heap.mk PT.nil 0/\(((a2A s g)/\(1<=g.1.length/\g.1.length<=19)/\(g.1[(0:Nat)]?=some (48:UInt8)-> ¬1<g.1.length/\g.2=false))/\
 True)/\True
theorem d1Y(s:Y11)(h:Heap)(Q:KT):dF (aS a1X) env 159 dL (kR 10 (wqI s)) (icS (N6 6 (wqA s) (N6 8 (wqB s) (kR 15 (wqD s))))) [.str s] h Q=(
 aJ (decide ((s.length:Int)>0)) (gN s 0 fun i=>aJ (i==45) (aD (true&& (decide (1<=(s.length:Int)) &&decide ((s.length:Int)<=(s.length:Int)))) (U3 s (IV.str (List.take ((s.length:Int).toNat- (1:Nat)) (List.drop 1 s))) (i==45))) (U3 s (IV.str s) (i==45))) (U3 s (IV.str s) false)/\(∀(x:Y11×Bool)(b:FF),wqC s x.1 x.2/\True->aJ (decide ((x.1.length:Int)<1)) (Q vD h) (aJ (decide (((x.1.length):Int)>19)) (Q vD h) (gN x.1 0 fun j=>aJ (j==48) (aJ (decide ((x.1.length:Int)>1)) (Q vD h) (aJ x.2 (Q vD h) (Kx s x))) (Kx s x))))/\(∀(x:Y11×Bool)(b:FF),wqZ s (x.1) x.2/\True->(∃(g:Y11×Bool×Nat×Int),some (TV.v (.str x.1))=some (TV.v (.str g.1))/\some (TV.v (.bool x.2))=some (TV.v (.bool g.2.1))/\some (TV.v (.int .u64 0))=some (TV.v (.int .u64 g.2.2.2))/\tI 0=tI (g.2.2.1:Int)/\Heap.mk PT.nil 0=Heap.mk PT.nil 0/\(((g.2.1=true/\s=(45:UInt8)::g.1\/Prod.fst g.2=false/\g.1=s/\List.head? s≠some (45:UInt8))/\(1<=g.1.length/\g.1.length<=19)/\(g.1[(0:Nat)]?=some (48:UInt8)-> ¬1<g.1.length/\g.2.1=false))/\Prod.fst g.2.2<=g.1.length/\O4 g.1 g.2.2.1 g.2.2.2)/\True)/\∀(x:Y11×Bool×Nat×Int)(b:FF),wqZ s x.1 x.2.1/\x.2.2.1<=List.length x.1/\O4 x.1 x.2.2.1 x.2.2.2->aJ (decide ((x.2.2.1:Int)< (x.1.length:Int))) (gN x.1 ((x.2.2.1:Int).toNat) fun l=>aJ (decide (l<48)) (Q vD h) (gN x.1 ((x.2.2.1:Int).toNat) fun p=>aJ (decide (p>57)) (Q vD h) (gN x.1 ((x.2.2.1:Int).toNat) fun c4=> ∃(g:Y11×Bool×Nat×Int),some (TV.v (.str x.1))=some (TV.v (.str g.1))/\some (TV.v (.bool x.2.1))=some (TV.v (.bool g.2.1))/\some (TV.v (.int .u64 (IntKind.wrap .u64 (IntKind.wrap .u64 ((10:Int)*x.2.2.2)+IntKind.wrap .u64 (IntKind.wrap .u8 (c4-48))))))=some (TV.v (.int .u64 g.2.2.2))/\tI (wW ((x.2.2.1:Int)+1))=tI ((g.2.2.1):Int)/\Heap.mk PT.nil 0=Heap.mk PT.nil 0/\(((g.2.1=true/\s=(45:UInt8)::g.1\/g.2.1=false/\g.1=s/\List.head? s≠some (45:UInt8))/\(1<=g.1.length/\List.length g.1<=19)/\(g.1[(0:Nat)]?=some (48:UInt8)-> ¬1<g.1.length/\g.2.1=false))/\g.2.2.1<=g.1.length/\O4 g.1 g.2.2.1 ((g.2.2).2))/\(20:Nat)-g.2.2.1<20-x.2.2.1))) (∃(g:Y11×Bool×Int),some (TV.v (.bool x.2.1))=some (TV.v (.bool g.2.1))/\some (TV.v (.int .u64 ((x.2.2).2)))=some (TV.v (.int .u64 g.2.2))/\Heap.mk PT.nil 0=Heap.mk PT.nil 0/\(((g.2.1=true/\s=(45:UInt8)::g.1\/g.2.1=false/\g.1=s/\List.head? s≠some (45:UInt8))/\((1:Nat)<=g.1.length/\g.1.length<=19)/\(g.1[(0:Nat)]?=some (48:UInt8)-> ¬1<g.1.length/\g.2.1=false))/\O4 g.1 g.1.length g.2.2)/\True))/\(∀(x:Y11×Bool×Int)(b:FF),wqZ s x.1 x.2.1/\O4 x.1 x.1.length x.2.2->aJ x.2.1 (aJ (decide (x.2.2>9223372036854775808)) (Q vD h) (aJ x.2.1 (Q (.tuple [.int .i64 (wW (IntKind.wrap .u64 ((0:Int)-x.2.2))),IV.bool true]) h) (Q (.tuple [.int .i64 (wW x.2.2),IV.bool true]) h))) (aJ (decide (x.2.2>9223372036854775807)) (Q vD h) (aJ x.2.1 (Q (.tuple [.int .i64 (wW (IntKind.wrap .u64 ((0:Int)-x.2.2))),IV.bool true]) h) (Q (.tuple [.int .i64 (wW x.2.2),IV.bool true]) h))))/\True):=by kernel_rfl
theorem d1Z: ∀xs h Q,a1Z xs h Q->aO env 159 xs h Q:=by
 intro xs h Q j;unfold a1Z at j;split at j
 ·rename_i s;refine aN (a1Y) (d1Y s h Q) ?_;delta U3 Kx vD a2A tI wW;have tn: ∀x:Nat,(x:Int).toNat=x:=AE
  obtain⟨hs,j⟩:=j;have Z:kS s=none->Q (.tuple [.int .i64 0,.bool false]) h:=fun e=>by
   unfold rIn at j;rw [e]at j;exact j
  have D: ∀(t:Y11)(b:Bool),wqC s t b->mD t 9223372036854775808=none\/ (b=true/\val t=0)->Q (.tuple [.int .i64 0,.bool false]) h:=fun t b g u=>by
   have e:kS s=none:=by
    rcases g with⟨rfl,rfl⟩| ⟨rfl,rfl,O⟩
    ·unfold kS
     dsimp only;rw [if_pos rfl]
     cases e:mD t 9223372036854775808 with
     |none=>rfl
     |some n=>
      rcases u with q| ⟨_,q⟩
      ·rw [q]at e;cases e
      ·exact if_pos ((jT e).2.1.trans q)
    ·rcases u with q| ⟨q,_⟩
     ·cases t with
      |nil=>rfl
      |cons c r=>
       have g:c≠45:=fun e=>O (by rw [e];rfl)
       unfold kS
       dsimp only;rw [if_neg g,a0W (m:=9223372036854775807) (m2:=9223372036854775808) IN,q];rfl
     ·cases q
   exact Z e
  refine⟨?_,?_,?_,?_,trivial⟩
  ·refine dA (fun c=>?_) (fun c=>?_)
   ·refine gV IM (aC (fun A=>?_) (fun A=>?_))
    ·cases s with
     |nil=>cases c
     |cons a t=>
      have ha:a=45:=UInt8.toNat_inj.1 (Int.ofNat.inj (eq_of_beq A));subst ha;have et:List.take ((((45::t:Y11).length:Nat):Int).toNat-1) (List.drop 1 (45::t))=t:=IP;rw [et];refine aA (by simp;omega) ⟨(t,true),IR,IR,IR,⟨.inl ⟨rfl,rfl⟩,trivial⟩,trivial⟩
    ·refine⟨(s,false),IR,by rw [A],IR,⟨.inr ⟨rfl,rfl,fun e=>?_⟩,trivial⟩,trivial⟩
     cases s with
     |nil=>cases e
     |cons a t=>
      rw [List.head?_cons,AC]at e;subst e
      cases A
   ·refine⟨(s,false),IR,IR,IR,⟨.inr ⟨rfl,rfl,fun e=>?_⟩,trivial⟩,trivial⟩
    cases s with
    |nil=>cases e
    |cons a t=>rw [AK]at c;omega
  ·rintro⟨t,b⟩ _ ⟨g,_⟩;have g:=(show wqC s t b from g);dsimp only;refine dA (fun c=>D t b g (.inl ?_)) (fun c=>dA (fun A=>D t b g (.inl (Rg IM))) (fun A=>gV IM (aC (fun G=>?_) (fun G=>?_))))
   ·rw [show t=[]from BZ IM];exact Rh
   ·have e0:t[0]?=some 48:=by
     rw [AA IM];exact congrArg some (UInt8.toNat_inj.1 (Int.ofNat.inj (eq_of_beq G)))
    refine dA (fun V=>D t b g (.inl (c0D IM e0))) (fun V=>aC (fun c4=>D t b g (.inr ⟨c4,?_⟩)) (fun c4=>⟨(t,b),IR,IR,IR,⟨⟨g,⟨IS,IS⟩,fun _=>⟨IS,c4⟩⟩,trivial⟩,trivial⟩))
    cases t with
    |nil=>cases e0
    |cons x r=>
     rw [AK]at V;have hr:r=[]:=BZ IM;have Y:x=48:=AX e0;rw [hr,Y];rfl
   ·refine⟨(t,b),IR,IR,IR,⟨⟨g,⟨IS,IS⟩,fun e=>?_⟩,trivial⟩,trivial⟩;dsimp only at e;rw [AA IM,AC]at e;rw [e]at G
    cases G
  ·rintro⟨t,b⟩ _ ⟨z,_⟩;refine⟨⟨(t,b,0,0),IR,IR,IR,IR,IR,⟨z,AR _,Dz t⟩,trivial⟩,?_⟩;rintro⟨t,b,i,n⟩ _ ⟨z,hi,u⟩;have z:=(show wqZ s t b from z);have u:=(show O4 t i n from u);have K:=z.2.1;dsimp only at hi⊢;refine dA (fun c=>?_) (fun c=>?_)
   ·have l:i<t.length:=IM;rw [tn];exact gV l (dA (fun A=>D t b z.1 (.inl (zQ l IM))) (fun A=>gV l (dA (fun G=>D t b z.1 (.inl (zQ l IM))) (fun G=>gV l ⟨(t,b,i+1,_),IR,IR,IR,(by rw [AB _ IM];rfl),IR,⟨z,l,u.step l IM IM⟩,IS⟩))))
   ·obtain rfl:i=t.length:=IM;exact⟨(t,b,n),IR,IR,IR,⟨z,u⟩,trivial⟩
  ·rintro⟨t,b,n⟩ _ ⟨z,u⟩;obtain⟨g,⟨X,K⟩,L⟩:=(show wqZ s t b from z);have u:=(show O4 t t.length n from u);have h0:t≠[]:=fun e=>by rw [e]at X;exact absurd X IN
   have p:=fun m=>u.all (m:=m) h0 K (fun q e=>(L e).1 q)
   have T:=u.2.1;rw [DR]at T;dsimp only;rcases g with⟨rfl,rfl⟩| ⟨rfl,rfl,O⟩
   ·refine aC (fun _=>?_) (fun q=>by cases q);refine dA (fun c=>D t true (.inl ⟨rfl,rfl⟩) (.inl (by rw [p,if_neg IM]))) (fun c=>aC (fun _=>?_) (fun q=>by cases q));have hv:0<val t:=by
     cases t with
     |nil=>exact absurd rfl h0
     |cons x r=>
      have Y:=u.1 x (by rw [DR];exact BJ);refine b4O ?_;rcases BC 48 x.toNat with d|d
      ·exact d
      ·have:x=48:=UInt8.toNat_inj.1 (show x.toNat=48 by omega);have:=(L (by rw [this];rfl)).2
       cases this
    have e:=p 9223372036854775808;rw [if_pos IM]at e;unfold rIn kS at j;dsimp only at j;rw [if_pos rfl,e]at j;dsimp only at j;rw [if_neg IM]at j;rw [d5W IM,T];exact j
   ·refine aC (fun q=>by cases q) (fun _=>?_);refine dA (fun c=>Z (by
     cases t with
     |nil=>rfl
     |cons x r=>
      have g:x≠45:=fun q=>O (by rw [q];rfl)
      unfold kS
      dsimp only;rw [if_neg g,p,if_neg IM];rfl)) (fun c=>aC (fun q=>by cases q) (fun _=>?_))
    have e:=p 9223372036854775807;rw [if_pos IM]at e;have e2:kS t=some (val t:Int):=by
     cases t with
     |nil=>exact absurd rfl h0
     |cons x r=>
      have g:x≠45:=fun q=>O (by rw [q];rfl)
      unfold kS
      dsimp only;rw [if_neg g,e];rfl
    unfold rIn at j;rw [e2]at j;rw [AB _ IM,T];exact j
 ·exact j.elim
def a2B:=aT 159 a1Z a1X
theorem a2C:aP env a2B:=aF d1Z (a1Y)
def b5A(s:Y11)(Q:KT)(h:Heap):List (Y11)->Int->Prop
 | [],_=>Q (.tuple [.int .i64 0,.bool false]) h
 |x::r,i=>aJ (x==s) (Q (.tuple [.int .i64 i,.bool true]) h) (b5A s Q h r (i+1))
theorem opL{s:Y11}{Q:KT}{h:Heap} : ∀(l:List (Y11))(i:Int),Q (.tuple [.int .i64 ((Kk s l i).getD 0),.bool (Kk s l i).isSome]) h->b5A s Q h l i
 | [],i,hk=>hk
 |x::r,i,hk=>by
  rw [Kk]at hk;refine aC (fun c=>?_) (fun c=>opL r (i+1) ?_)
  ·rw [if_pos (eq_of_beq c)]at hk;exact hk
  ·rw [if_neg fun e=>by rw [beq_eq_false_iff_ne]at c;exact c e]at hk;exact hk
def D9(xs:Y14)(h:Heap)(K:KT):Prop:=match xs with
 | [.int .i64 op]=>K (.int .i64 (pS op)) h
 |_=>False
theorem a2D(op:Int)(h:Heap)(Q:KT):dF (aS a2B) env 207 dL bS bS [.int .i64 op] h Q=(
 aJ (op==2) (Q (.int .i64 5) h) (aJ (op==3) (Q (.int .i64 255) h) (aJ (op==23) (Q (.int .i64 3) h) (aJ (op==28) (Q (.int .i64 3) h) (aJ (op==27) (Q (.int .i64 1000016) h) (aJ (op==30) (Q (.int .i64 7) h) (aJ (op==31) (Q (.int .i64 15) h) (aJ (op==25) (Q (.int .i64 15) h) (Q (.int .i64 (-1)) h))))))))):=by kernel_rfl
theorem a2E: ∀xs h Q,D9 xs h Q->aO env 207 xs h Q:=by
 intro xs h Q g;unfold D9 at g;split at g
 ·rename_i op;refine aN (a2C) (a2D op h Q) ?_
  repeat' (first|refine aA ?_ ?_|refine aC (fun _=>?_) (fun _=>?_)|refine And.intro ?_ ?_)
  all_goals first|assumption|omega| (refine fI g ?_;simp only [IV.agg.injEq,IV.tuple.injEq,IV.int.injEq,IV.bool.injEq,BS,true_and,and_true];grind [pS])
 ·exact g.elim
def E0:=aT 207 D9 a2B
theorem P1:aP env E0:=aF a2E (a2C)
def U4(xs:Y14)(h:Heap)(K:KT):Prop:=match xs with
 | [.int .i64 op,.int .i64 n]=>K (.bool (dY op n)) h
 |_=>False
theorem b5B(op n:Int)(h:Heap)(Q:KT):dF (aS E0) env 165 dL bS bS [.int .i64 op,.int .i64 n] h Q=(
 aJ (op==1) (Q (.bool true) h) (aJ (decide (pS op<0)) (Q (.bool (n==0)) h) (aJ (decide (n>=0)) (aJ (decide (n<=pS op)) (aJ (op !=27) (Q (.bool true) h) (Q (.bool (decide (n>0))) h)) (Q (.bool false) h)) (Q (.bool false) h)))):=by kernel_rfl
theorem b5C: ∀xs h Q,U4 xs h Q->aO env 165 xs h Q:=by
 intro xs h Q g;unfold U4 at g;split at g
 ·rename_i op n;refine aN (P1) (b5B op n h Q) ?_
  repeat' (first|refine aA ?_ ?_|refine aC (fun _=>?_) (fun _=>?_)|refine And.intro ?_ ?_)
  all_goals first|assumption|omega| (refine fI g ?_;simp only [IV.agg.injEq,IV.tuple.injEq,IV.int.injEq,IV.bool.injEq,BS,true_and,and_true];grind [dY])
 ·exact g.elim
def U5:=aT 165 U4 E0
theorem El:aP env U5:=aF b5C (P1)
def Ky(xs:Y14)(h:Heap)(K:KT):Prop:=match xs with
 | [.int .i64 op]=>K (.bool (nM op)) h
 |_=>False
theorem c3J(op:Int)(h:Heap)(Q:KT):dF (aS U5) env 86 dL bS bS [.int .i64 op] h Q=(
 aJ (op==23) (Q (.bool true) h) (aJ (op==25) (Q (.bool true) h) (aJ (op==27) (Q (.bool true) h) (aJ (op==28) (Q (.bool true) h) (aJ (op==30) (Q (.bool true) h) (aJ (op==31) (Q (.bool true) h) (Q (.bool false) h))))))):=by kernel_rfl
theorem c3K: ∀xs h Q,Ky xs h Q->aO env 86 xs h Q:=by
 intro xs h Q g;unfold Ky at g;split at g
 ·rename_i op;refine aN (El) (c3J op h Q) ?_
  repeat' (first|refine aA ?_ ?_|refine aC (fun _=>?_) (fun _=>?_)|refine And.intro ?_ ?_)
  all_goals first|assumption|omega| (refine fI g ?_;simp only [IV.agg.injEq,IV.tuple.injEq,IV.int.injEq,IV.bool.injEq,BS,true_and,and_true];grind [nM])
 ·exact g.elim
def Kz:=aT 86 Ky U5
theorem Sc:aP env Kz:=aF c3K (El)
def U6(xs:Y14)(h:Heap)(K:KT):Prop:=match xs with
 | [.int .i64 op]=>K (.bool (nM op)) h
 |_=>False
theorem b5D(op:Int)(h:Heap)(Q:KT):dF (aS Kz) env 88 dL bS bS [.int .i64 op] h Q=(
 aJ (op==23) (Q (.bool true) h) (aJ (op==25) (Q (.bool true) h) (aJ (op==27) (Q (.bool true) h) (aJ (op==28) (Q (.bool true) h) (aJ (op==30) (Q (.bool true) h) (Q (.bool (op==31)) h)))))):=by kernel_rfl
theorem b5E: ∀xs h Q,U6 xs h Q->aO env 88 xs h Q:=by
 intro xs h Q g;unfold U6 at g;split at g
 ·rename_i op;refine aN (Sc) (b5D op h Q) ?_
  repeat' (first|refine aA ?_ ?_|refine aC (fun _=>?_) (fun _=>?_)|refine And.intro ?_ ?_)
  all_goals first|assumption|omega| (refine fI g ?_;simp only [IV.agg.injEq,IV.tuple.injEq,IV.int.injEq,IV.bool.injEq,BS,true_and,and_true];grind [nM])
 ·exact g.elim
def U7:=aT 88 U6 Kz
theorem Em:aP env U7:=aF b5E (Sc)
def La(xs:Y14)(h:Heap)(K:KT):Prop:=match xs with
 | [.int .i64 op]=>K (.tuple [.int .i64 (irL op),.int .i64 (irH op)]) h
 |_=>False
theorem c3L(op:Int)(h:Heap)(Q:KT):dF (aS U7) env 161 dL bS bS [.int .i64 op] h Q=(
 aJ (op==27) (Q (.tuple [.int .i64 1,iI 1000016]) h) (aJ (op==30) (Q (.tuple [.int .i64 0,iI 7]) h) (aJ (op==31) (Q (.tuple [.int .i64 0,iI 15]) h) (aJ (op==25) (Q (.tuple [.int .i64 0,iI 15]) h) (Q (.tuple [.int .i64 0,iI 3]) h))))):=by kernel_rfl
theorem c3M: ∀xs h Q,La xs h Q->aO env 161 xs h Q:=by
 intro xs h Q g;unfold La at g;split at g
 ·rename_i op;refine aN (Em) (c3L op h Q) ?_;delta iI
  repeat' (first|refine aA ?_ ?_|refine aC (fun _=>?_) (fun _=>?_)|refine And.intro ?_ ?_)
  all_goals first|assumption|omega| (refine fI g ?_;simp only [IV.agg.injEq,IV.tuple.injEq,IV.int.injEq,IV.bool.injEq,BS,true_and,and_true];grind [irL,irH])
 ·exact g.elim
def a2F:=aT 161 La U7
theorem b5F:aP env a2F:=aF c3M (Em)
def a2G(xs:Y14)(h:Heap)(K:KT):Prop:=match xs with
 | []=>K (.vslice none 0 28 1 (wU.map IV.str)) h
 |_=>False
theorem d2A: ∀xs h Q,a2G xs h Q->aO env 51 xs h Q:=by
 intro xs h Q g;unfold a2G at g;split at g
 ·exact⟨60,_,h,by kernel_rfl,g⟩
 ·exact g.elim
def c0O:=aT 51 a2G a2F
theorem c3N:aP env c0O:=aF d2A (b5F)
def a2H(xs:Y14)(h:Heap)(K:KT):Prop:=match xs with
 | []=>K (.vslice none 0 28 1 (wU.map IV.str)) h
 |_=>False
theorem d2B: ∀xs h Q,a2H xs h Q->aO env 52 xs h Q:=by
 intro xs h Q g;unfold a2H at g;split at g
 ·exact⟨60,_,h,by kernel_rfl,g⟩
 ·exact g.elim
def a2I:=aT 52 a2H c0O
theorem a2J:aP env a2I:=aF d2B (c3N)
def a2K(xs:Y14)(h:Heap)(K:KT):Prop:=match xs with
 | [.str s]=>K (.tuple [.int .i64 ((nN s).getD 0),.bool (nN s).isSome]) h
 |_=>False
theorem d2C(s:Y11)(h:Heap)(Q:KT):dF (aS a2I) env 21 (fun k=>29) bS bS [.str s] h Q=(
 aJ ([97,100,100]==s) (Q (.tuple [.int .i64 4,IV.bool true]) h) (aJ ([115,117,98]==s) (Q (.tuple [.int .i64 5,IV.bool true]) h) (aJ ([109,117,108]==s) (Q (.tuple [iI 6,IV.bool true]) h) (aJ ([100,105,118]==s) (Q (.tuple [.int .i64 7,IV.bool true]) h) (aJ ([114,101,109]==s) (Q (.tuple [.int .i64 8,IV.bool true]) h) (aJ ([(97:UInt8),(110:UInt8),(100:UInt8)]==s) (Q (.tuple [.int .i64 9,IV.bool true]) h) (aJ ([111,114]==s) (Q (.tuple [.int .i64 10,IV.bool true]) h) (aJ ([120,111,114]==s) (Q (.tuple [.int .i64 11,IV.bool true]) h) (aJ ([115,104,108]==s) (Q (.tuple [.int .i64 12,IV.bool true]) h) (aJ ([115,104,114]==s) (Q (.tuple [.int .i64 13,IV.bool true]) h) (aJ ([(115:UInt8),(97:UInt8),(114:UInt8)]==s) (Q (.tuple [.int .i64 14,IV.bool true]) h) (aJ ([101,113]==s) (Q (.tuple [.int .i64 15,IV.bool true]) h) (aJ ([110,101]==s) (Q (.tuple [.int .i64 16,IV.bool true]) h) (aJ ([108,116]==s) (Q (.tuple [.int .i64 17,IV.bool true]) h) (aJ ([108,101]==s) (Q (.tuple [.int .i64 18,IV.bool true]) h) (aJ ([108,116,117]==s) (Q (.tuple [.int .i64 19,IV.bool true]) h) (aJ ([110,101,103]==s) (Q (.tuple [.int .i64 20,IV.bool true]) h) (aJ ([110,111,116]==s) (Q (.tuple [.int .i64 21,IV.bool true]) h) (aJ ([(115:UInt8),(101:UInt8),(108:UInt8)]==s) (Q (.tuple [.int .i64 22,IV.bool true]) h) (aJ ([108,111,97,100]==s) (Q (.tuple [.int .i64 23,IV.bool true]) h) (aJ ([114,101,116]==s) (Q (.tuple [.int .i64 24,IV.bool true]) h) (aJ ([102,105,110]==s) (Q (.tuple [.int .i64 25,IV.bool true]) h) (aJ ([115,116,97,114,116]==s) (Q (.tuple [.int .i64 26,IV.bool true]) h) (aJ ([110,101,101,100]==s) (Q (.tuple [.int .i64 27,IV.bool true]) h) (aJ ([115,116,111,114,101]==s) (Q (.tuple [.int .i64 28,IV.bool true]) h) (aJ ([(111:UInt8),(117:UInt8),(116:UInt8)]==s) (Q (.tuple [.int .i64 29,IV.bool true]) h) (aJ ([99,97,108,108]==s) (Q (.tuple [.int .i64 30,IV.bool true]) h) (aJ ([108,111,111,112]==s) (Q (.tuple [.int .i64 31,IV.bool true]) h) (Q (.tuple [.int .i64 0,IV.bool false]) h))))))))))))))))))))))))))))):=by kernel_rfl
theorem d2D: ∀xs h Q,a2K xs h Q->aO env 21 xs h Q:=by
 intro xs h Q g;unfold a2K at g;split at g
 ·rename_i s;refine aN (a2J) (d2C s h Q) ?_;delta iI;exact(opL wU 4 g:b5A s Q h wU 4)
 ·exact g.elim
def a2L:=aT 21 a2K a2I
theorem a2M:aP env a2L:=aF d2D (a2J)
def Lb(xs:Y14)(h:Heap)(K:KT):Prop:=match xs with
 | [.str s]=>K (.tuple [.int .i64 ((nN s).getD 0),.bool (nN s).isSome]) h
 |_=>False
theorem c3O(s:Y11)(h:Heap)(Q:KT):dF (aS a2L) env 22 (fun k=>29) bS bS [.str s] h Q=(
 aJ ([97,100,100]==s) (Q (.tuple [.int .i64 4,IV.bool true]) h) (aJ ([115,117,98]==s) (Q (.tuple [.int .i64 5,IV.bool true]) h) (aJ ([109,117,108]==s) (Q (.tuple [iI 6,IV.bool true]) h) (aJ ([100,105,118]==s) (Q (.tuple [.int .i64 7,IV.bool true]) h) (aJ ([114,101,109]==s) (Q (.tuple [.int .i64 8,IV.bool true]) h) (aJ ([(97:UInt8),(110:UInt8),(100:UInt8)]==s) (Q (.tuple [.int .i64 9,IV.bool true]) h) (aJ ([111,114]==s) (Q (.tuple [.int .i64 10,IV.bool true]) h) (aJ ([120,111,114]==s) (Q (.tuple [.int .i64 11,IV.bool true]) h) (aJ ([115,104,108]==s) (Q (.tuple [.int .i64 12,IV.bool true]) h) (aJ ([115,104,114]==s) (Q (.tuple [.int .i64 13,IV.bool true]) h) (aJ ([(115:UInt8),(97:UInt8),(114:UInt8)]==s) (Q (.tuple [.int .i64 14,IV.bool true]) h) (aJ ([101,113]==s) (Q (.tuple [.int .i64 15,IV.bool true]) h) (aJ ([110,101]==s) (Q (.tuple [.int .i64 16,IV.bool true]) h) (aJ ([108,116]==s) (Q (.tuple [.int .i64 17,IV.bool true]) h) (aJ ([108,101]==s) (Q (.tuple [.int .i64 18,IV.bool true]) h) (aJ ([108,116,117]==s) (Q (.tuple [.int .i64 19,IV.bool true]) h) (aJ ([110,101,103]==s) (Q (.tuple [.int .i64 20,IV.bool true]) h) (aJ ([110,111,116]==s) (Q (.tuple [.int .i64 21,IV.bool true]) h) (aJ ([(115:UInt8),(101:UInt8),(108:UInt8)]==s) (Q (.tuple [.int .i64 22,IV.bool true]) h) (aJ ([108,111,97,100]==s) (Q (.tuple [.int .i64 23,IV.bool true]) h) (aJ ([114,101,116]==s) (Q (.tuple [.int .i64 24,IV.bool true]) h) (aJ ([102,105,110]==s) (Q (.tuple [.int .i64 25,IV.bool true]) h) (aJ ([115,116,97,114,116]==s) (Q (.tuple [.int .i64 26,IV.bool true]) h) (aJ ([110,101,101,100]==s) (Q (.tuple [.int .i64 27,IV.bool true]) h) (aJ ([115,116,111,114,101]==s) (Q (.tuple [.int .i64 28,IV.bool true]) h) (aJ ([(111:UInt8),(117:UInt8),(116:UInt8)]==s) (Q (.tuple [.int .i64 29,IV.bool true]) h) (aJ ([99,97,108,108]==s) (Q (.tuple [.int .i64 30,IV.bool true]) h) (aJ ([108,111,111,112]==s) (Q (.tuple [.int .i64 31,IV.bool true]) h) (Q (.tuple [.int .i64 0,IV.bool false]) h))))))))))))))))))))))))))))):=by kernel_rfl
theorem c3P: ∀xs h Q,Lb xs h Q->aO env 22 xs h Q:=by
 intro xs h Q g;unfold Lb at g;split at g
 ·rename_i s;refine aN (a2M) (c3O s h Q) ?_;delta iI;exact(opL wU 4 g:b5A s Q h wU 4)
 ·exact g.elim
def Lc:=aT 22 Lb a2L
theorem Sd:aP env Lc:=aF c3P (a2M)
def Ld(xs:Y14)(h:Heap)(K:KT):Prop:=match xs with
 | [.int .i64 op]=>aR op/\K (.tuple [.str (Cb op),.bool (tok op)]) h
 |_=>False
theorem c3Q(op:Int)(h:Heap)(Q:KT):dF (aS Lc) env 19 dL bS bS [.int .i64 op] h Q=(
 aJ (decide (op<4)) (Q (.tuple [.str [],IV.bool false]) h) (aJ (decide (wW (op-4)>=28)) (Q (.tuple [.str [],IV.bool false]) h) (aD (decide (0<=wW (op-4)) &&decide (wW (op- (4:Int))<28)) (bL [IV.str [97,100,100],IV.str [115,117,98],IV.str [109,117,108],IV.str [100,105,118],IV.str [114,101,109],IV.str [97,110,100],IV.str [111,114],IV.str [120,111,114],IV.str [115,104,108],IV.str [115,104,114],IV.str [115,97,114],IV.str [101,113],IV.str [110,101],IV.str [108,116],IV.str [108,101],IV.str [108,116,117],IV.str [110,101,103],IV.str [(110:UInt8),(111:UInt8),(116:UInt8)],IV.str [115,101,108],IV.str [108,111,97,100],IV.str [114,101,116],IV.str [102,105,110],IV.str [(115:UInt8),(116:UInt8),(97:UInt8),(114:UInt8),(116:UInt8)],IV.str [110,101,101,100],IV.str [115,116,111,114,101],IV.str [111,117,116],IV.str [99,97,108,108],IV.str [108,111,111,112]] ((wW (op-4)).toNat*1) fun(g:Y11)=>Q (.tuple [.str g,IV.bool true]) h)))):=by kernel_rfl
theorem c3R: ∀xs h Q,Ld xs h Q->aO env 19 xs h Q:=by
 intro xs h Q g;unfold Ld at g;split at g
 ·rename_i op;refine aN (Sd) (c3Q op h Q) ?_;delta wW iI;obtain⟨p,g⟩:=g;unfold aR at p;have j: ¬ (4<=op/\op<=31)->Q (.tuple [.str [],.bool false]) h:=fun c=>by
   have e:tok op=false:=by
    cases e:tok op
    ·rfl
    ·exact absurd (uW.1 e) c
   rw [a0J e,e]at g;exact g
  refine dA (fun c=>j IM) (fun c=>?_);rw [AB (op-4) IM];refine dA (fun l=>j IM) (fun l=>?_);have i:4<=op/\op<=31:=IM;rw [uW.2 i]at g;exact bG ⟨IM,IM⟩ (dG (by rw [AO];exact a1F i) g)
 ·exact g.elim
def Le:=aT 19 Ld Lc
theorem Se:aP env Le:=aF c3R (Sd)
def U8(xs:Y14)(h:Heap)(K:KT):Prop:=match xs with
 | [.int .i64 op]=>aR op/\K (.tuple [.str (Cb op),.bool (tok op)]) h
 |_=>False
theorem b5G(op:Int)(h:Heap)(Q:KT):dF (aS Le) env 20 dL bS bS [.int .i64 op] h Q=(
 aJ (decide (op<4)) (Q (.tuple [.str [],IV.bool false]) h) (aJ (decide (op>31)) (Q (.tuple [.str [],IV.bool false]) h) (aD (decide (0<=wW (op-4)) &&decide (wW (op-4)<28)) (bL [IV.str [97,100,100],IV.str [115,117,98],IV.str [109,117,108],IV.str [100,105,118],IV.str [114,101,109],IV.str [(97:UInt8),(110:UInt8),(100:UInt8)],IV.str [111,114],IV.str [120,111,114],IV.str [115,104,108],IV.str [115,104,114],IV.str [115,97,114],IV.str [101,113],IV.str [110,101],IV.str [108,116],IV.str [108,101],IV.str [108,116,117],IV.str [110,101,103],IV.str [110,111,116],IV.str [(115:UInt8),(101:UInt8),(108:UInt8)],IV.str [108,111,97,100],IV.str [114,101,116],IV.str [102,105,110],IV.str [115,116,97,114,116],IV.str [(110:UInt8),(101:UInt8),(101:UInt8),(100:UInt8)],IV.str [115,116,111,114,101],IV.str [111,117,116],IV.str [99,97,108,108],IV.str [(108:UInt8),(111:UInt8),(111:UInt8),(112:UInt8)]] ((wW (op-4)).toNat*1) fun(g:Y11)=>Q (.tuple [.str g,IV.bool true]) h)))):=by kernel_rfl
theorem b5H: ∀xs h Q,U8 xs h Q->aO env 20 xs h Q:=by
 intro xs h Q g;unfold U8 at g;split at g
 ·rename_i op;refine aN (Se) (b5G op h Q) ?_;delta wW iI;obtain⟨p,g⟩:=g;unfold aR at p;have j: ¬ (4<=op/\op<=31)->Q (.tuple [.str [],.bool false]) h:=fun c=>by
   have e:tok op=false:=by
    cases e:tok op
    ·rfl
    ·exact absurd (uW.1 e) c
   rw [a0J e,e]at g;exact g
  refine dA (fun c=>j IM) (fun c=>dA (fun l=>j IM) (fun l=>?_));have i:4<=op/\op<=31:=IM;rw [uW.2 i]at g;rw [AB (op-4) IM];exact bG ⟨IM,IM⟩ (dG (by rw [AO];exact a1F i) g)
 ·exact g.elim
def U9:=aT 20 U8 Le
theorem En:aP env U9:=aF b5H (Se)
def Lf(xs:Y14)(h:Heap)(K:KT):Prop:=match xs with
 | [.str s,.int .i64 lo,.int .i64 hi]=>s.length<=1000000/\K (rRg s lo hi) h
 |_=>False
theorem c3S(s:Y11)(lo hi:Int)(h:Heap)(Q:KT):dF (aS U9) env 157 dL bS bS [.str s,.int .i64 lo,.int .i64 hi] h Q=(
 s.length<=1000000/\aJ (Option.isSome (kS s)) (aJ (decide (Option.getD (kS s) 0>=lo)) (Q (.tuple [.int .i64 (Option.getD (kS s) 0),IV.bool (decide (Option.getD (kS s) 0<=hi))]) h) (Q (.tuple [.int .i64 (Option.getD (kS s) 0),IV.bool false]) h)) (Q (.tuple [.int .i64 (Option.getD (kS s) 0),IV.bool false]) h)):=by kernel_rfl
theorem c3T: ∀xs h Q,Lf xs h Q->aO env 157 xs h Q:=by
 intro xs h Q g;unfold Lf at g;split at g
 ·rename_i s lo hi;refine aN (En) (c3S s lo hi h Q) ?_;obtain⟨hs,g⟩:=g;unfold rRg at g;rw [a1E]at g;refine⟨hs,aC (fun c=>?_) (fun c=>?_)⟩
  ·rw [c]at g;refine dA (fun d=>?_) (fun d=>?_)
   ·rw [decide_eq_true d,BN,BN]at g;exact g
   ·rw [decide_eq_false d,EV,HY]at g;exact g
  ·rw [c,EV]at g;exact g
 ·exact g.elim
def Lg:=aT 157 Lf U9
theorem Sf:aP env Lg:=aF c3T (En)
def ctI(s:Y11):Inv':=eY Nat (fun i=>[(0,.v (.str s)),(5,.v (.int .i64 i))]) (fun _=>[]) (fun _=>Heap.empty) (fun i=>i<=s.length/\∀j,j<i-> ∀c,s[j]?=some c->c≠46) (fun i=>s.length-i)
def a2N(xs:Y14)(h:Heap)(K:KT):Prop:=match xs with
 | [.str s]=>s.length<=1000000/\K (.tuple [.str (bQ s).1,.str (bQ s).2.1,.bool (bQ s).2.2]) h
 |_=>False
def Sg(x:Nat):=wW ((x:Int)+1)
def a2O(s:Y11)(x:Nat):=(x<=s.length/\∀(j:Nat),j<x-> ∀(c:UInt8),s[j]?=some c->c≠(46:UInt8))
theorem d2E(s:Y11)(h:Heap)(Q:KT):dF (aS Lg) env 158 dL (kR 3 (ctI s)) bS [.str s] h Q=(
 (∃(x:Nat),some (TV.v (.str s))=some (TV.v (.str s))/\tI 0=tI (x:Int)/\Heap.mk PT.nil 0=Heap.mk PT.nil 0/\(a2O s x)/\True)/\∀(x:Nat)(b:FF),(a2O s x)->aJ (decide ((x:Int)< ((s.length):Int))) (gN s ((x:Int).toNat) fun i=>aJ (i==46) (aD (true&& (decide (0<=(x:Int)) &&decide ((x:Int)<=(s.length:Int)))) (aD (decide (0<=wW ((x:Int)+1)) && (decide (wW ((x:Int)+1)<=(s.length:Int)) &&decide ((s.length:Int)<=(s.length:Int)))) (Q (.tuple [.str (List.take ((x:Int).toNat-0) s),IV.str (List.take ((s.length:Int).toNat- (Sg x).toNat) (List.drop ((Sg x).toNat) s)),IV.bool true]) h))) (∃(g:Nat),some (TV.v (.str s))=some (TV.v (.str s))/\tI (Sg x)=tI (g:Int)/\Heap.mk PT.nil 0=Heap.mk PT.nil 0/\(g<=s.length/\∀(j:Nat),j<g-> ∀(c:UInt8),s[j]?=some c->c≠(46:UInt8))/\s.length-g<s.length-x)) (Q (.tuple [.str s,IV.str [],IV.bool false]) h)):=by kernel_rfl
theorem d2F: ∀xs h Q,a2N xs h Q->aO env 158 xs h Q:=by
 intro xs h Q l;unfold a2N at l;split at l
 ·rename_i s;refine aN (Sf) (d2E s h Q) ?_;delta Sg a2O tI wW;have G: ∀x:Nat,(x:Int).toNat=x:=AE
  obtain⟨X,l⟩:=l;obtain⟨ha,hs,T⟩:=mE s;generalize(bQ s).1=a at*
  generalize(bQ s).2.1=b at*
  generalize(bQ s).2.2=d at*
  refine⟨⟨0,IR,IR,IR,⟨AR _,fun j D=>IM⟩,trivial⟩,?_⟩;rintro i _ ⟨hi,u⟩
  try dsimp only at hi u⊢
  refine aC (fun c=>?_) (fun c=>?_)
  ·rw [decide_eq_true_eq]at c;have g:i<s.length:=IM;have V:IntKind.i64.wrap ((i:Int)+1)=(i:Int)+1:=AB _ IM;rw [V,G];refine gV g (aC (fun z=>?_) (fun z=>⟨i+1,IR,IR,IR,⟨g,fun j D q A=>?_⟩,by(try dsimp only);omega⟩))
   ·have K:s[i]=46:=by
     have:=Du (b:=s[i]) (k:=46);rw [show((46:UInt8).toNat:Int)=46 from rfl,z]at this;exact of_decide_eq_true this.symm
    obtain⟨rfl,rfl⟩:=O3 ha hs g K u;refine aA (by simp;omega) (aA (by simp;omega) ?_);have L:s.take (a.length-0)=a:=by rw [hs];simp
    have O:(s.drop ((a.length:Int)+1).toNat).take ((s.length:Int).toNat- ((a.length:Int)+1).toNat)=b:=by
     have:((a.length:Int)+1).toNat=a.length+1:=IM;rw [this,G,hs];simp;rw [show a.length+(b.length+1)- (a.length+1)=b.length by omega,DR]
    rw [L,O];exact l
   ·rcases BC j i with p|p
    ·exact u j p q A
    ·obtain rfl:j=i:=IM;have:=Du (b:=s[j]) (k:=46);rw [show((46:UInt8).toNat:Int)=46 from rfl,z]at this;rw [AA g,AC]at A;rw [<-A];exact of_decide_eq_false this.symm
  ·rw [decide_eq_false_iff_not]at c;have hd:=Dv hs (fun j D=>u j IM);subst hd;rw [T rfl]at l;simp at hs;rw [hs];exact l
 ·exact l.elim
def a2P:=aT 158 a2N Lg
theorem a2Q:aP env a2P:=aF d2F (Sf)
def dtI(s:Y11):Inv':=eY Nat (fun i=>[(0,.v (.str s)),(3,.v (.int .i64 i))]) (fun _=>[]) (fun _=>Heap.empty) (fun i=>i<=s.length/\∀j,j<i-> ∀c,s[j]?=some c->c≠46) (fun i=>s.length-i)
def a2R(xs:Y14)(h:Heap)(K:KT):Prop:=match xs with
 | [.str s]=>s.length<=1000000/\K (.int .i64 ((bQ s).1.length:Int)) h
 |_=>False
theorem d2G(s:Y11)(h:Heap)(Q:KT):dF (aS a2P) env 164 dL (kR 3 (dtI s)) bS [.str s] h Q=(
 (∃(x:Nat),some (TV.v (.str s))=some (TV.v (.str s))/\tI 0=tI (x:Int)/\Heap.mk PT.nil 0=Heap.mk PT.nil 0/\(x<=s.length/\∀(j:Nat),j<x-> ∀(c:UInt8),s[j]?=some c->c≠(46:UInt8))/\True)/\∀(x:Nat)(b:FF),(x<=s.length/\∀(j:Nat),j<x-> ∀(c:UInt8),s[j]?=some c->c≠(46:UInt8))->aJ (decide ((x:Int)< (s.length:Int))) (gN s ((x:Int).toNat) fun i=>aJ (i==46) (Q (.int .i64 (x:Int)) h) (∃(g:Nat),some (TV.v (.str s))=some (TV.v (.str s))/\tI (wW ((x:Int)+1))=tI (g:Int)/\Heap.mk PT.nil 0=Heap.mk PT.nil 0/\(g<=s.length/\∀(j:Nat),j<g-> ∀(c:UInt8),s[j]?=some c->c≠(46:UInt8))/\s.length-g<s.length-x)) (Q (.int .i64 (s.length:Int)) h)):=by kernel_rfl
theorem d2H: ∀xs h Q,a2R xs h Q->aO env 164 xs h Q:=by
 intro xs h Q l;unfold a2R at l;split at l
 ·rename_i s;refine aN (a2Q) (d2G s h Q) ?_;delta tI wW;have K: ∀x:Nat,(x:Int).toNat=x:=AE
  obtain⟨O,l⟩:=l;obtain⟨ha,hs,L⟩:=mE s;generalize(bQ s).1=a at*
  generalize(bQ s).2.1=b at*
  generalize(bQ s).2.2=d at*
  refine⟨⟨0,IR,IR,IR,⟨AR _,fun j D=>IM⟩,trivial⟩,?_⟩;rintro i _ ⟨hi,z⟩
  try dsimp only at hi z⊢
  refine dA (fun c=>?_) (fun c=>?_)
  ·have g:i<s.length:=IM;rw [AB _ IM,K];refine gV g (aC (fun u=>?_) (fun u=>⟨i+1,IR,IR,IR,⟨g,fun j D q A=>?_⟩,by(try dsimp only);omega⟩))
   ·have G:s[i]=46:=UInt8.toNat_inj.1 (Int.ofNat.inj (eq_of_beq u));obtain⟨rfl,rfl⟩:=O3 ha hs g G z;exact l
   ·rcases BC j i with p|p
    ·exact z j p q A
    ·obtain rfl:j=i:=IM;rw [AA g,AC]at A;rw [<-A];intro e;rw [e]at u
     cases u
  ·have hd:=Dv hs (fun j D=>z j IM);subst hd;simp at hs;rw [hs];exact l
 ·exact l.elim
def a2S:=aT 164 a2R a2P
theorem a2T:aP env a2S:=aF d2H (a2Q)
def Lh(xs:Y14)(h:Heap)(K:KT):Prop:=match xs with
 | [.str s]=>s.length<=1000000/\(∀p,Ir s=some p->K (.tuple [.int .i64 p.1,.int .i64 p.2,.bool true]) h)/\(Ir s=none-> ∀a b,K (.tuple [.int .i64 a,.int .i64 b,.bool false]) h)
 |_=>False
def zB(s:Y11):=List.take ((s.length:Int).toNat-1) (List.drop 1 s)
def c3U(s:Y11):=wW (wW ((16:Int)*Option.getD (kS ((bQ (zB s)).1)) 0)+Option.getD (kS (((bQ (zB s)).2).1)) 0)
def c3V(s:Y11):=true&& (decide (1<=(s.length:Int)) &&decide ((s.length:Int)<=(s.length:Int)))
def c3W(s:Y11):=IV.tuple [.int .i64 3,iI (c3U s),IV.bool false]
theorem c3X(s:Y11)(h:Heap)(Q:KT):dF (aS a2S) env 91 dL bS bS [.str s] h Q=(
 aJ (s==[]) (Q (.tuple [.int .i64 0,iI 0,IV.bool false]) h) (aJ (s==[115,116,97,114,116]) (Q (.tuple [.int .i64 26,iI 0,IV.bool true]) h) (gN s 0 fun g=>aJ (g==112) (aD (c3V s) ((zB s).length<=1000000/\Q (.tuple [.int .i64 2,iI (Option.getD (kS (zB s)) 0),IV.bool (Option.isSome (pO (zB s) 0 5))]) h)) (gN s 0 fun i=>aJ (i==118) (aD (c3V s) ((zB s).length<=1000000/\List.length ((bQ (zB s)).1)<=1000000/\List.length (((bQ (zB s)).2).1)<=1000000/\aJ (((bQ (zB s)).2).2) (aJ (Option.isSome (pO ((bQ (zB s)).1) 0 15)) (Q (.tuple [.int .i64 3,iI (c3U s),IV.bool (Option.isSome (pO (((bQ (zB s)).2).1) 0 15))]) h) (Q (c3W s) h)) (Q (c3W s) h))) (s.length<=1000000/\Q (.tuple [.int .i64 1,iI (Option.getD (kS s) 0),IV.bool (Option.isSome (kS s))]) h))))):=by kernel_rfl
theorem c3Y: ∀xs h Q,Lh xs h Q->aO env 91 xs h Q:=by
 intro xs h Q g;unfold Lh at g;split at g
 ·rename_i s;refine aN (a2T) (c3X s h Q) ?_;delta zB c3U c3V c3W wW iI;obtain⟨Y,g,l⟩:=g
  cases s with
  |nil=>exact aC (fun _=>l rfl 0 0) (fun c=>by cases c)
  |cons c t=>
   have T:List.take ((((c::t:Y11).length:Nat):Int).toNat-1) (List.drop 1 (c::t))=t:=IP;rw [AK]at Y;rw [T];refine aC (fun q=>by cases q) (fun _=>aC (fun z=>?_) (fun z=>?_))
   ·exact g (26,0) (if_pos (eq_of_beq z))
   have V: ¬ (c::t=[115,116,97,114,116]):=fun e=>by rw [e]at z;cases z
   have i: ∀x,(if c=112 then(pO t 0 5).map fun n=>((2,n):Int×Int)
    else if c=118 then(if(bQ t).2.2=true then(match pO (bQ t).1 0 15,pO (bQ t).2.1 0 15 with
     |some a,some b=>some (3,16*a+b)
     |_,_=>none)else none)
    else(kS (c::t)).map fun n=>(1,n))=x->Ir (c::t)=x:=fun x e=>by
    unfold Ir
    rw [if_neg V];exact e
   refine gV (Nat.zero_lt_succ _) (aC (fun A=>?_) (fun A=>?_))
   ·have L:c=112:=UInt8.toNat_inj.1 (Int.ofNat.inj (eq_of_beq A));refine aA (by simp;omega) ⟨IM,?_⟩
    cases e:pO t 0 5 with
    |none=>exact l (i _ (by rw [if_pos L,e];rfl)) _ _
    |some n=>
     rw [D3 e];exact g (2,n) (i _ (by rw [if_pos L,e];rfl))
   have p: ¬c=112:=fun e=>by rw [e]at A;cases A
   refine gV (Nat.zero_lt_succ _) (aC (fun D=>?_) (fun D=>?_))
   ·have K:c=118:=UInt8.toNat_inj.1 (Int.ofNat.inj (eq_of_beq D));have u:=congrArg List.length (mE t).2.1;rw [AH]at u;have X:(bQ t).2.1.length<=t.length:=by
     cases e:(bQ t).2.2 with
     |true=>rw [e,if_pos rfl,AK]at u;omega
     |false=>rw [(mE t).2.2 e];exact AR _
    refine aA (by simp;omega) ⟨IM,IM,IM,aC (fun d=>aC (fun G=>?_) (fun G=>?_)) (fun d=>l (i _ (by rw [if_neg p,if_pos K,if_neg (by rw [d];decide)])) _ _)⟩
    ·obtain⟨a,j⟩:=FM.1 G;have ha:=(wY j).2
     cases eb:pO (bQ t).2.1 0 15 with
     |none=>exact l (i _ (by rw [if_neg p,if_pos K,if_pos d,j,eb])) _ _
     |some b=>
      have Z:=(wY eb).2;rw [D3 j,D3 eb];dsimp only [Option.getD_some];rw [AB (16*a) IM,AB _ IM];exact g (3,16*a+b) (i _ (by rw [if_neg p,if_pos K,if_pos d,j,eb]))
    ·have j:pO (bQ t).1 0 15=none:=by
      cases e:pO (bQ t).1 0 15 with
      |none=>rfl
      |some a=>rw [e]at G;cases G
     exact l (i _ (by rw [if_neg p,if_pos K,if_pos d,j])) _ _
   have O: ¬c=118:=fun e=>by rw [e]at D;cases D
   refine⟨by rw [AK];omega,?_⟩
   cases e:kS (c::t)with
   |none=>exact l (i _ (by rw [if_neg p,if_neg O,e];rfl)) _ _
   |some n=>exact g (1,n) (i _ (by rw [if_neg p,if_neg O,e];rfl))
 ·exact g.elim
def Li:=aT 91 Lh a2S
theorem Sh:aP env Li:=aF c3Y (a2T)
def Lj(xs:Y14)(h:Heap)(K:KT):Prop:=match xs with
 | [.str s]=>s.length<=1000000/\(∀p,kT s=some p->K (.tuple [.int .i64 p.1,.int .i64 p.2,.bool true]) h)/\(kT s=none-> ∀a b,K (.tuple [.int .i64 a,.int .i64 b,.bool false]) h)
 |_=>False
theorem c3Z(s:Y11)(h:Heap)(Q:KT):dF (aS Li) env 93 dL bS bS [.str s] h Q=(
 s.length<=1000000/\aJ (!Option.isSome (nN ((bQ s).1))) (Q (.tuple [.int .i64 0,iI 0,IV.bool false]) h) (aJ (Option.getD (nN ((bQ s).1)) 0==26) (Q (.tuple [.int .i64 0,iI 0,IV.bool false]) h) (aJ (!Prod.snd ((bQ s).2)==nM (Option.getD (nN ((bQ s).1)) 0)) (Q (.tuple [.int .i64 0,iI 0,IV.bool false]) h) (aJ (!Prod.snd ((bQ s).2)) (Q (.tuple [.int .i64 (Option.getD (nN ((bQ s).1)) 0),iI 0,IV.bool true]) h) ((((bQ s).2).1).length<=1000000/\Q (IV.tuple [iI (Option.getD (nN ((bQ s).1)) 0),iI (Option.getD (kS (((bQ s).2).1)) 0),IV.bool (Option.isSome (pO (((bQ s).2).1) (irL (Option.getD (nN ((bQ s).1)) 0)) (irH (Option.getD (nN ((bQ s).1)) 0))))]) h))))):=by kernel_rfl
theorem c4A: ∀xs h Q,Lj xs h Q->aO env 93 xs h Q:=by
 intro xs h Q g;unfold Lj at g;split at g
 ·rename_i s;refine aN (Sh) (c3Z s h Q) ?_;delta iI;obtain⟨G,g,i⟩:=g;have p:=congrArg List.length (mE s).2.1;rw [AH]at p;have D:(bQ s).2.1.length<=s.length:=by
   cases e:(bQ s).2.2 with
   |true=>rw [e,if_pos rfl,AK]at p;omega
   |false=>rw [(mE s).2.2 e];exact AR _
  refine⟨G,?_⟩;unfold kT at g i
  cases e:nN (bQ s).1 with
  |none=>
   rw [e]at i;exact aC (fun _=>i rfl 0 0) (fun q=>by cases q)
  |some op=>
   rw [e]at g i;dsimp only [Option.getD_some,Option.isSome_some]at g i⊢;refine aC (fun q=>by cases q) (fun _=>aC (fun c=>i (if_pos (eq_of_beq c)) 0 0) (fun c=>?_));have u: ¬op=26:=fun q=>by rw [q]at c;cases c
   rw [if_neg u]at g i;refine aC (fun j=>?_) (fun j=>?_)
   ·refine i (if_neg fun q=>?_) 0 0;rw [q]at j
    cases z:nM op<;>rw [z]at j<;>cases j
   have A:(bQ s).2.2=nM op:=by cases z:nM op<;>cases y:(bQ s).2.2<;>rw [z,y]at j<;>first|rfl|cases j
   rw [if_pos A]at g i;refine aC (fun l=>?_) (fun l=>?_)
   ·rw [CH]at l;rw [if_neg (by rw [l];decide)]at g;exact g (op,0) rfl
   ·rw [CV]at l;rw [if_pos l]at g i;refine⟨IM,?_⟩
    cases z:pO (bQ s).2.1 (irL op) (irH op)with
    |none=>
     rw [z]at i;exact i rfl _ _
    |some n=>
     rw [z]at g;rw [D3 z];exact g (op,n) rfl
 ·exact g.elim
def Lk:=aT 93 Lj Li
theorem Si:aP env Lk:=aF c4A (Sh)
def V0(xs:Y14)(h:Heap)(K:KT):Prop:=match xs with
 | [.str s]=>s.length<=1000000/\(∀p,Ir s=some p->K (.tuple [.agg [.int .i64 p.1,.int .i64 p.2,.vslice none 0 0 1 []],.bool true]) h)/\(Ir s=none-> ∀a b,K (.tuple [.agg [.int .i64 a,.int .i64 b,.vslice none 0 0 1 []],.bool false]) h)
 |_=>False
def V1(s:Y11):=((bQ s).1).length
def b5I(s:Y11):=List.take ((s.length:Int).toNat- (wW (((V1 s):Int)+1)).toNat) (List.drop ((wW (((V1 s):Int)+1)).toNat) s)
def b5J(s:Y11):=List.take (((V1 s):Int).toNat-1) (List.drop 1 s)
def c4B(s:Y11)(m g:Nat):=[iI 3,iI (wW (IntKind.wrap .u64 (IntKind.wrap .u64 ((16:Int)*(↑(Option.getD (mD (b5J s) m) 0):Int))+(↑(Option.getD (mD (b5I s) g) 0):Int)))),IV.vslice none 0 0 1 []]
def b5K:=IV.tuple [.agg [.int .i64 0,iI 0,IV.vslice none 0 0 1 []],IV.bool false]
def b5L(s:Y11):=List.take ((s.length:Int).toNat-1) (List.drop 1 s)
theorem b5M(s:Y11)(h:Heap)(Q:KT):dF (aS Lk) env 94 dL bS bS [.str s] h Q=(
 s.length<=1000000/\aJ (Option.isSome (kS s)) (Q (.tuple [.agg [.int .i64 1,iI (Option.getD (kS s) 0),IV.vslice none 0 0 1 []],IV.bool true]) h) (aJ (s==[(115:UInt8),(116:UInt8),(97:UInt8),(114:UInt8),(116:UInt8)]) (Q (.tuple [.agg [.int .i64 26,iI 0,IV.vslice none 0 0 1 []],IV.bool true]) h) (aJ (decide ((s.length:Int)<2)) (Q b5K h) (gN s 0 fun i=>aJ (i==112) (aD (true&& (decide (1<=(s.length:Int)) &&decide ((s.length:Int)<=(s.length:Int)))) (∃(m:Nat),(5:Int)=(m:Int)/\(m<=18446744073709551615/\List.length (b5L s)<=1000000)/\Q (.tuple [.agg [.int .i64 2,iI (wW (↑(Option.getD (mD (b5L s) m) 0):Int)),IV.vslice none 0 0 1 []],IV.bool (Option.isSome (mD (b5L s) m))]) h)) (s.length<=1000000/\gN s 0 fun j=>aJ (j !=118) (Q b5K h) (aJ (((V1 s):Int)==(s.length:Int)) (Q b5K h) (aD (true&& (decide (1<=((V1 s):Int)) &&decide (((V1 s):Int)<=(s.length:Int)))) (∃(m:Nat),(15:Int)=(m:Int)/\(m<=18446744073709551615/\List.length (b5J s)<=1000000)/\aD (decide (0<=wW (((V1 s):Int)+1)) && (decide (wW (((V1 s):Int)+1)<=(s.length:Int)) &&decide ((s.length:Int)<=(s.length:Int)))) (∃(g:Nat),(15:Int)=(g:Int)/\(g<=18446744073709551615/\List.length (b5I s)<=1000000)/\aJ (Option.isSome (mD (b5J s) m)) (Q (.tuple [.agg (c4B s m g),IV.bool (Option.isSome (mD (b5I s) g))]) h) (Q (.tuple [.agg (c4B s m g),IV.bool false]) h)))))))))):=by kernel_rfl
theorem b5N: ∀xs h Q,V0 xs h Q->aO env 94 xs h Q:=by
 intro xs h Q i;unfold V0 at i;split at i
 ·rename_i s;refine aN (Si) (b5M s h Q) ?_;delta b5I c4B b5K b5L V1 b5J wW iI;obtain⟨hl,i,p⟩:=i;have a1: ∀c t n,s=c::t->kS s=some n->c≠112/\c≠118/\c≠115:=fun c t n e q=>by
   rw [e]at q;rcases c3B q with d|d
   ·rw [d];decide
   ·refine⟨fun z=>?_,fun z=>?_,fun z=>?_⟩<;>rw [z]at d<;>exact absurd d.2 IN
  refine⟨hl,aC (fun O=>?_) (fun O=>?_)⟩
  ·obtain⟨n,l⟩:=FM.1 O;rw [l];refine i (1,n) ?_
   cases s with
   |nil=>cases l
   |cons c t=>
    obtain⟨Z,h2,h3⟩:=a1 c t n rfl l;unfold Ir
    rw [if_neg (fun q=>h3 (List.cons.inj q).1)];dsimp only;rw [if_neg Z,if_neg h2,l];rfl
  have l:kS s=none:=by
   cases e:kS s with
   |none=>rfl
   |some n=>rw [e]at O;cases O
  refine aC (fun T=>i (26,0) (if_pos (eq_of_beq T))) (fun T=>?_);have Z: ¬ (s=[115,116,97,114,116]):=fun e=>by rw [e]at T;cases T
  cases s with
  |nil=>exact dA (fun _=>p rfl 0 0) (fun q=>absurd q IN)
  |cons c t=>
   have et:List.take ((((c::t:Y11).length:Nat):Int).toNat-1) (List.drop 1 (c::t))=t:=IP;rw [AK]at hl;rw [et];have j: ∀x,(if c=112 then(pO t 0 5).map fun n=>((2,n):Int×Int)
    else if c=118 then(if(bQ t).2.2=true then(match pO (bQ t).1 0 15,pO (bQ t).2.1 0 15 with
     |some a,some b=>some (3,16*a+b)
     |_,_=>none)else none)
    else(kS (c::t)).map fun n=>(1,n))=x->Ir (c::t)=x:=fun x e=>by
    unfold Ir
    rw [if_neg Z];exact e
   refine dA (fun q=>p (j _ ?_) 0 0) (fun q=>?_)
   ·rw [AK]at q;have ht:t=[]:=BZ IM;rw [l,ht]
    by_cases d:c=112
    ·rw [if_pos d];rfl
    ·rw [if_neg d]
     by_cases d:c=118
     ·rw [if_pos d];rfl
     ·rw [if_neg d];rfl
   refine gV (Nat.zero_lt_succ _) (aC (fun V=>?_) (fun V=>?_))
   ·have u:c=112:=UInt8.toNat_inj.1 (Int.ofNat.inj (eq_of_beq V));refine aA (by simp;omega) ⟨5,rfl,⟨IN,IM⟩,?_⟩;have X:=Kj (s:=t) (m:=5) IN
    cases e:mD t 5 with
    |none=>rw [e]at X;exact p (j _ (by rw [if_pos u,show pO t 0 5=none from X];rfl)) _ _
    |some n=>
     rw [e]at X;have:=(jT e).2.2;dsimp only [Option.getD_some];rw [AB _ IM];exact i (2,n) (j _ (by rw [if_pos u,show pO t 0 5=some (n:Int)from X];rfl))
   have K: ¬c=112:=fun e=>by rw [e]at V;cases V
   refine⟨by rw [AK];omega,gV (Nat.zero_lt_succ _) (aC (fun D=>p (j _ ?_) 0 0) (fun D=>?_))⟩
   ·have n3: ¬c=118:=fun e=>by rw [e]at D;cases D
    rw [if_neg K,if_neg n3,l];rfl
   have G:c=118:=UInt8.toNat_inj.1 (Int.ofNat.inj (by rw [bne_eq_false_iff_eq]at D;exact D));have a0:=Xe (c:=c) (t:=t) (by rw [G];decide);obtain⟨k1,A,k3⟩:=mE t;rw [a0];dsimp only;have g:=congrArg List.length A;rw [AH]at g;refine aC (fun d=>p (j _ ?_) 0 0) (fun d=>?_)
   ·have d2:=eq_of_beq d;rw [AK,AK]at d2;rw [if_neg K,if_pos G,if_neg];intro z;rw [z,if_pos rfl,AK]at g;omega
   have hd:(bQ t).2.2=true:=by
    cases z:(bQ t).2.2 with
    |true=>rfl
    |false=>
     rw [z,if_neg IN,DK]at A;rw [beq_eq_false_iff_ne]at d;exact absurd (by rw [AK,AK,<-A]) d
   rw [hd,if_pos rfl]at A g;rw [AK]at g;have ea:List.take ((((c::(bQ t).1:Y11).length:Nat):Int).toNat-1) (List.drop 1 (c::t))=(bQ t).1:=by
    rw [AE,AK,Nat.add_sub_cancel,List.drop_one,List.tail_cons];exact c0E A
   rw [ea];refine aA (by simp;omega) ⟨15,rfl,⟨IN,IM⟩,?_⟩;have ew:IntKind.i64.wrap ((((c::(bQ t).1:Y11).length:Nat):Int)+1)=(((bQ t).1.length+2:Nat):Int):=by
    rw [AK,AB _ IM];omega
   rw [ew,AE,AE];have eb:List.take ((c::t).length- ((bQ t).1.length+2)) (List.drop ((bQ t).1.length+2) (c::t))=(bQ t).2.1:=by
    rw [EA];have:List.drop ((bQ t).1.length+1) t=(bQ t).2.1:=c0F A;rw [this,AP (by rw [AK];omega)]
   rw [eb];refine aA (by rw [AK];simp;omega) ⟨15,rfl,⟨IN,IM⟩,?_⟩;have L:=Kj (s:=(bQ t).1) (m:=15) IN;have Y:=Kj (s:=(bQ t).2.1) (m:=15) IN
   cases e:mD (bQ t).1 15 with
   |none=>
    rw [e]at L;exact aC (fun z=>by cases z) (fun _=>p (j _ (by rw [if_neg K,if_pos G,if_pos hd,show pO (bQ t).1 0 15=none from L])) _ _)
   |some a=>
    rw [e]at L;have ha:=(jT e).2.2;refine aC (fun _=>?_) (fun z=>by cases z)
    cases u:mD (bQ t).2.1 15 with
    |none=>
     rw [u]at Y;exact p (j _ (by rw [if_neg K,if_pos G,if_pos hd,show pO (bQ t).1 0 15=some (a:Int)from L,show pO (bQ t).2.1 0 15=none from Y])) _ _
    |some b=>
     rw [u]at Y;have hb:=(jT u).2.2;dsimp only [Option.getD_some];rw [u64_in (n:=16*(a:Int)) IM,u64_in IM,AB _ IM];exact i (3,16*(a:Int)+b) (j _ (by rw [if_neg K,if_pos G,if_pos hd,show pO (bQ t).1 0 15=some (a:Int)from L,show pO (bQ t).2.1 0 15=some (b:Int)from Y]))
 ·exact i.elim
def V2:=aT 94 V0 Lk
theorem Eo:aP env V2:=aF b5N (Si)
def V3(xs:Y14)(h:Heap)(K:KT):Prop:=match xs with
 | [.str s]=>s.length<=1000000/\(∀p,kT s=some p->K (.tuple [.agg [.int .i64 p.1,.int .i64 p.2,.nilslice],.bool true]) h)/\(kT s=none-> ∀a b,K (.tuple [.agg [.int .i64 a,.int .i64 b,.nilslice],.bool false]) h)
 |_=>False
def K4(s:Y11):=((bQ s).1).length
def a2U(s:Y11):=List.take ((s.length:Int).toNat- (wW (((K4 s):Int)+1)).toNat) (List.drop ((wW (((K4 s):Int)+1)).toNat) s)
def a2V(s:Y11):=nN (List.take (((K4 s):Int).toNat-0) s)
def b5O:=IV.tuple [.agg [.int .i64 0,iI 0,IV.nilslice],IV.bool false]
def Xj(s:Y11):=Option.getD (a2V s) 0
def c4C(s:Y11):=[iI (Xj s),iI (Option.getD (kS (a2U s)) 0),IV.nilslice]
def c4D(s:Y11):=[iI (Xj s),iI 0,IV.nilslice]
theorem b5P(s:Y11)(h:Heap)(Q:KT):dF (aS V2) env 97 dL bS bS [.str s] h Q=(
 s.length<=1000000/\aD (true&& (decide (0<=((K4 s):Int)) &&decide (((K4 s):Int)<=(s.length:Int)))) (aJ (!Option.isSome (a2V s)) (Q b5O h) (aJ (Option.getD (a2V s) 0==26) (Q b5O h) (aJ (!nM (Xj s)==decide (((K4 s):Int)< (s.length:Int))) (Q b5O h) (aJ (decide (((K4 s):Int)< (s.length:Int))) (aD (decide (0<=wW (((K4 s):Int)+1)) && (decide (wW (((K4 s):Int)+1)<=(s.length:Int)) &&decide (((s.length):Int)<=(s.length:Int)))) ((a2U s).length<=1000000/\aJ (Option.isSome (kS (a2U s))) (Q (.tuple [.agg (c4C s),IV.bool (dY (Xj s) (Option.getD (kS (a2U s)) 0))]) h) (Q (.tuple [.agg (c4C s),IV.bool false]) h))) (aJ (Option.isSome (a2V s)) (Q (IV.tuple [.agg (c4D s),IV.bool (dY (Xj s) 0)]) h) (Q (.tuple [.agg (c4D s),IV.bool false]) h))))))):=by kernel_rfl
theorem b5Q: ∀xs h Q,V3 xs h Q->aO env 97 xs h Q:=by
 intro xs h Q g;unfold V3 at g;split at g
 ·rename_i s;refine aN (Eo) (b5P s h Q) ?_;delta a2U a2V b5O Xj K4 c4C c4D wW iI;obtain⟨O,g,i⟩:=g;obtain⟨X,D,Y⟩:=mE s;have j:=congrArg List.length D;rw [AH]at j;have K:List.take ((((bQ s).1.length:Nat):Int).toNat-0) s=(bQ s).1:=by
   rw [AE,HP];exact c0E D
  rw [K];have hd:decide ((((bQ s).1.length:Nat):Int)< ((s.length:Nat):Int))=(bQ s).2.2:=by
   cases z:(bQ s).2.2 with
   |true=>
    rw [z,if_pos rfl,AK]at j;exact decide_eq_true IM
   |false=>
    rw [z,if_neg IN,AY]at j;exact decide_eq_false IM
  rw [hd];refine⟨O,aA (by rw [BN];exact d1A ⟨IM,IM⟩) ?_⟩;unfold kT at g i
  cases e:nN (bQ s).1 with
  |none=>
   rw [e]at i;exact aC (fun _=>i rfl 0 0) (fun q=>by cases q)
  |some op=>
   rw [e]at g i;have T:=a1A e;dsimp only [Option.getD_some,Option.isSome_some]at g i⊢;refine aC (fun q=>by cases q) (fun _=>aC (fun c=>i (if_pos (eq_of_beq c)) 0 0) (fun c=>?_));have A: ¬op=26:=fun q=>by rw [q]at c;cases c
   rw [if_neg A]at g i;refine aC (fun p=>?_) (fun p=>?_)
   ·refine i (if_neg fun q=>?_) 0 0;rw [q]at p
    cases z:nM op<;>rw [z]at p<;>cases p
   have G:(bQ s).2.2=nM op:=by cases z:nM op<;>cases y:(bQ s).2.2<;>rw [z,y]at p<;>first|rfl|cases p
   rw [if_pos G]at g i;refine aC (fun u=>?_) (fun u=>?_)
   ·rw [if_pos u]at g i;rw [u,if_pos rfl]at D j;rw [AK]at j;have ew:IntKind.i64.wrap ((((bQ s).1.length:Nat):Int)+1)=(((bQ s).1.length+1:Nat):Int):=by
     rw [AB _ IM];omega
    rw [ew,AE,AE];have L:List.take (s.length- ((bQ s).1.length+1)) (List.drop ((bQ s).1.length+1) s)=(bQ s).2.1:=by
     have:List.drop ((bQ s).1.length+1) s=(bQ s).2.1:=c0F D;rw [this,AP IM]
    rw [L];refine aA (by simp;omega) ⟨IM,?_⟩;have l:=a1E (s:=(bQ s).2.1) (lo:=irL op) (hi:=irH op)
    cases z:kS (bQ s).2.1 with
    |none=>
     rw [z]at l;have V:pO (bQ s).2.1 (irL op) (irH op)=none:=by
      cases y:pO (bQ s).2.1 (irL op) (irH op)with
      |none=>rfl
      |some n=>rw [y]at l;cases l
     rw [V]at i;exact aC (fun q=>by cases q) (fun _=>i rfl _ _)
    |some n=>
     rw [z]at l;dsimp only [Option.getD_some,Option.isSome_some]at l⊢;rw [BN,<-vI1 (by rw [<-G];exact u)]at l;refine aC (fun _=>?_) (fun q=>by cases q);rw [<-l]
     cases y:pO (bQ s).2.1 (irL op) (irH op)with
     |none=>rw [y]at i;exact i rfl _ _
     |some m=>
      rw [y]at g;have:=D3 y;rw [z]at this;obtain rfl:=AX this;exact g (op,n) rfl
   ·rw [if_neg (by rw [u];decide)]at g;refine aC (fun _=>?_) (fun q=>by cases q);rw [vI0 T A (by rw [<-G];exact u)];exact g (op,0) rfl
 ·exact g.elim
def V4:=aT 97 V3 V2
theorem Ep:aP env V4:=aF b5Q (Eo)
def V5(xs:Y14)(h:Heap)(K:KT):Prop:=match xs with
 | [.vslice (some id) e len 1 cs,.int .u64 n]=>h.get id= .tip e/\len<=100000000000/\∀h2:Heap,h2.get id= .tip (e+8)->h2.next=h.next->(∀j,j≠id->h2.get j=h.get j)->K (.vslice (some id) (e+8) (len+8) 1 (cs++((b8 n).map (IV.int .u8)))) h2
 |_=>False
def Er(id e:Nat)(h:Heap):=(h.set id (IObj.tip (e+1))).set id (IObj.tip (e+1+1))
def Et(e:Nat):=e+1+1+1
def Eu(id e:Nat)(h:Heap):=(((Er id e h).set id (IObj.tip (Et e))).set id (IObj.tip (e+1+1+1+1))).set id (IObj.tip (e+1+1+1+1+1))
def Ev(e:Nat):=e+1+1+1+1+1+1
def Sj(e:Nat):=e+1+1+1+1+1+1+1
def a2W(e:Nat):=e+1+1+1+1+1+1+1+1
def a2X(len:Nat):=len+1+1+1+1+1+1+1+1
theorem c4E(id e len:Nat)(cs:Y14)(n:Int)(h:Heap)(Q:KT):dF (aS V4) env 160 (fun k=>if k=3 then 9 else 0) bS bS [.vslice (some id) e len 1 cs,.int .u64 n] h Q=(
 cK h id fun(g:Nat)=>aD (Nat.beq g e&&Nat.ble ((len+1)*1) 140737488355328) (cK (h.set id (IObj.tip (e+1))) id fun(i:Nat)=>aD (Nat.beq i (e+1) &&Nat.ble ((len+1+1)*1) 140737488355328) (cK (Er id e h) id fun(m2:Nat)=>aD (Nat.beq m2 (e+1+1) &&Nat.ble ((len+1+1+1)*1) 140737488355328) (cK ((Er id e h).set id (IObj.tip (Et e))) id fun(j:Nat)=>aD (Nat.beq j (Et e) &&Nat.ble ((len+(1:Nat)+1+1+1)*1) 140737488355328) (cK (((Er id e h).set id (IObj.tip (Et e))).set id (IObj.tip (e+1+1+1+1))) id fun(l:Nat)=>aD (Nat.beq l (e+1+1+1+1) &&Nat.ble ((len+1+1+1+1+1)*1) 140737488355328) (cK (Eu id e h) id fun(p:Nat)=>aD (Nat.beq p (e+1+1+1+1+1) &&Nat.ble ((len+1+1+1+1+(1:Nat)+1)*1) 140737488355328) (cK ((Eu id e h).set id (IObj.tip (Ev e))) id fun(u:Nat)=>aD (Nat.beq u (Ev e) &&Nat.ble ((len+1+1+1+1+1+1+1)*1) 140737488355328) (cK (((Eu id e h).set id (IObj.tip (Ev e))).set id (IObj.tip (Sj e))) id fun(z:Nat)=>aD (Nat.beq z (Sj e) &&Nat.ble ((a2X len)*1) 140737488355328) (Q (.vslice (some id) (a2W e) (a2X len) 1 (cs++ [IV.int .u8 (IntKind.wrap .u8 (Int.fdiv n 1))]++ [IV.int .u8 (IntKind.wrap .u8 (Int.fdiv n 256))]++ [IV.int .u8 (IntKind.wrap .u8 (Int.fdiv n 65536))]++ [IV.int .u8 (IntKind.wrap .u8 (Int.fdiv n 16777216))]++ [IV.int .u8 (IntKind.wrap .u8 (Int.fdiv n 4294967296))]++ [IV.int .u8 (IntKind.wrap .u8 (Int.fdiv n 1099511627776))]++ [IV.int .u8 (IntKind.wrap .u8 (Int.fdiv n 281474976710656))]++ [IV.int .u8 (IntKind.wrap .u8 (Int.fdiv n 72057594037927936))])) ((((Eu id e h).set id (IObj.tip (Ev e))).set id (IObj.tip (Sj e))).set id (IObj.tip (a2W e)))))))))))):=by kernel_rfl
theorem a2Y: ∀xs h Q,V5 xs h Q->aO env 160 xs h Q:=by
 intro xs h Q g;unfold V5 at g;split at g
 ·rename_i id e len cs n;refine aN (Ep) (c4E id e len cs n h Q) ?_;delta Eu Ev Sj Er a2W a2X Et;obtain⟨i,p,g⟩:=g;refine aV i (aA (by simp only [AO,AF,bK,AM,true_and];omega) ?_)
  repeat (refine aV aH (aA (by simp only [AO,AF,bK,AM,true_and];omega) ?_))
  refine fI (g _ ?_ ?_ ?_) ?_
  ·exact aH
  ·rfl
  ·intro j l;simp only [aG l]
  ·simp [b8]
 ·exact g.elim
def Ll:=aT 160 V5 V4
theorem Sk:aP env Ll:=aF a2Y (Ep)
def V6(xs:Y14)(h:Heap)(K:KT):Prop:=match xs with
 | [.vslice none 1 1 1 [.int .u8 c],.int .u64 n]=> ∀(i:Nat)(h2:Heap),h2.get i= .tip 9->h.next<=i->i<h2.next->(∀j,j<h.next->h2.get j=h.get j)->K (.vslice (some i) 9 9 1 (((c::b8 n).map (IV.int .u8)))) h2
 |_=>False
def Sl(h:Heap):=(h.push (IObj.tip 2)).set (h.next) (IObj.tip 3)
def Sm(h:Heap):=((Sl h).set (h.next) (IObj.tip 4)).set (h.next) (IObj.tip 5)
def Sn(h:Heap):=((Sm h).set (h.next) (IObj.tip 6)).set (h.next) (IObj.tip 7)
theorem c4F(c n:Int)(h:Heap)(Q:KT):dF (aS Ll) env 160 (fun k=>if k=3 then 9 else 0) bS bS [.vslice none 1 1 1 [.int .u8 c],.int .u64 n] h Q=(
 cK (h.push (IObj.tip 2)) (h.next) fun(g:Nat)=>aD (Nat.beq g 2 &&true) (cK (Sl h) (h.next) fun(i:Nat)=>aD (Nat.beq i 3 &&true) (cK ((Sl h).set (h.next) (IObj.tip 4)) (h.next) fun(m2:Nat)=>aD (Nat.beq m2 4 &&true) (cK (Sm h) (h.next) fun(j:Nat)=>aD (Nat.beq j 5 &&true) (cK ((Sm h).set (h.next) (IObj.tip 6)) (h.next) fun(l:Nat)=>aD (Nat.beq l 6 &&true) (cK (Sn h) (h.next) fun(p:Nat)=>aD (Nat.beq p 7 &&true) (cK ((Sn h).set (h.next) (IObj.tip 8)) (h.next) fun(u:Nat)=>aD (Nat.beq u 8 &&true) (Q (.vslice (some (h.next)) 9 9 1 [IV.int .u8 c,IV.int .u8 (IntKind.wrap .u8 (Int.fdiv n 1)),IV.int .u8 (IntKind.wrap .u8 (Int.fdiv n 256)),IV.int .u8 (IntKind.wrap .u8 (Int.fdiv n 65536)),IV.int .u8 (IntKind.wrap .u8 (Int.fdiv n 16777216)),IV.int .u8 (IntKind.wrap .u8 (Int.fdiv n 4294967296)),IV.int .u8 (IntKind.wrap .u8 (Int.fdiv n 1099511627776)),IV.int .u8 (IntKind.wrap .u8 (Int.fdiv n 281474976710656)),IV.int .u8 (IntKind.wrap .u8 (Int.fdiv n 72057594037927936))]) (((Sn h).set (h.next) (IObj.tip 8)).set (h.next) (IObj.tip 9)))))))))):=by kernel_rfl
theorem a2Z: ∀xs h Q,V6 xs h Q->aO env 160 xs h Q:=by
 intro xs h Q g;unfold V6 at g;split at g
 ·rename_i c n;refine aN (Sk) (c4F c n h Q) ?_;delta Sm Sn Sl
  repeat (first
   |refine aV aU (aA rfl ?_)
   |refine aV aH (aA rfl ?_))
  exact g _ _ aH (AJ _) (AQ _) (fun j i=>by simp only [aG (HQ i)];exact aL i)
 ·exact g.elim
def a3A:=aT 160 V6 Ll
theorem b5R:aP env a3A:=aF a2Z (Sk)
def a3B(xs:Y14)(h:Heap)(K:KT):Prop:=match xs with
 | [s,.int .u64 n]=>match s with| .vslice none e len z cs=>V6 [.vslice none e len z cs,.int .u64 n] h K| .vslice io e len z cs=>V5 [.vslice io e len z cs,.int .u64 n] h K|_=>False
 |_=>False
theorem d2I: ∀xs h Q,a3B xs h Q->aO env 160 xs h Q:=by
 intro xs h Q g;unfold a3B at g;split at g
 ·rename_i s n;split at g
  ·exact a2Z _ _ _ g
  ·exact a2Y _ _ _ g
  ·exact g.elim
 ·exact g.elim
def a3C:=aT 160 a3B a3A
theorem a3D:aP env a3C:=aF d2I (b5R)
def Lm(xs:Y14)(h:Heap)(K:KT):Prop:=match xs with
 | [.ptr id 0,.int .u8 c]=> ∃(s:Y11)(a:Nat)(y:Y15)(m:Nat)(io:Y10),RH h id s a y m io/\s.length<=20000/\K (.bool (nx s a c)) h
 |_=>False
theorem c4G(id:Nat)(c:Int)(h:Heap)(Q:KT):dF (aS a3C) env 89 dL bS bS [.ptr id 0,.int .u8 c] h Q=(
 aE h id fun r0=>kQ r0 2 fun j=>aJ (!j) (aE h id fun p=>aI .i64 p 1 fun l=>aE h id fun u=>bL u 0 fun(D:Y11)=>aJ (decide (l< (D.length:Int))) (aE h id fun z=>bL z 0 fun(G:Y11)=>aE h id fun A=>aI .i64 A 1 fun i=>aD (decide (0<=i)) (gN G i.toNat fun g=>Q (.bool (g==c)) h)) (Q (.bool false) h)) (Q (.bool false) h)):=by kernel_rfl
theorem a3E: ∀xs h Q,Lm xs h Q->aO env 89 xs h Q:=by
 intro xs h Q g;unfold Lm at g;split at g
 ·rename_i id c;obtain⟨s,a,y,m,io,p,u,g⟩:=g;refine aN (a3D) (c4G id c h Q) ?_;obtain⟨⟨A,D,G⟩,z,lv,i,l⟩:=p;refine aB i (K1 rfl (aC (fun _=>aB i (bO rfl (aB i (dG rfl ?_)))) (fun c=>by cases c)));refine aC (fun c=>?_) (fun c=>?_)
  ·rw [decide_eq_true_eq]at c;have j:a<s.length:=IM;refine aB i (dG rfl (aB i (bO rfl (aA IP ?_))));rw [AE];refine gV j ?_;unfold nx at g;rw [AA j]at g;exact g
  ·rw [decide_eq_false_iff_not]at c;unfold nx at g;rw [BG IM]at g;exact g
 ·exact g.elim
def Ln:=aT 89 Lm a3C
theorem So:aP env Ln:=aF a3E (a3D)
def Lo(xs:Y14)(h:Heap)(K:KT):Prop:=match xs with
 | [.ptr id 0,.int .u8 c]=> ∃(s:Y11)(a m:Nat)(io:Y10),Is h id s a m io/\K (.bool false) h
 |_=>False
theorem c4H(id:Nat)(c:Int)(h:Heap)(Q:KT):dF (aS Ln) env 89 dL bS bS [.ptr id 0,.int .u8 c] h Q=(
 aE h id fun r0=>kQ r0 2 fun j=>aJ (!j) (aE h id fun p=>aI .i64 p 1 fun l=>aE h id fun u=>bL u 0 fun(D:Y11)=>aJ (decide (l< (D.length:Int))) (aE h id fun z=>bL z 0 fun(G:Y11)=>aE h id fun A=>aI .i64 A 1 fun i=>aD (decide (0<=i)) (gN G i.toNat fun g=>Q (.bool (g==c)) h)) (Q (.bool false) h)) (Q (.bool false) h)):=by kernel_rfl
theorem a3F: ∀xs h Q,Lo xs h Q->aO env 89 xs h Q:=by
 intro xs h Q g;unfold Lo at g;split at g
 ·rename_i id c;obtain⟨s,a,m,io,j,g⟩:=g;refine aN (So) (c4H id c h Q) ?_;obtain⟨⟨l,p,u⟩,⟨lv,i⟩,_⟩:=j;exact aB i (K1 rfl (aC (fun c=>by cases c) (fun _=>g)))
 ·exact g.elim
def a3G:=aT 89 Lo Ln
theorem b5S:aP env a3G:=aF a3F (So)
def Lp(xs:Y14)(h:Heap)(K:KT):Prop:=match xs with
 | [.ptr id 0,.int .u8 c]=> ∃(s:Y11)(a:Nat)(y:Y15)(m:Nat)(io:Y10)(b:Bool),RHx h id s a y m io b/\s.length<=20000/\K (.bool (!b&&nx s a c)) h
 |_=>False
theorem c4I: ∀xs h Q,Lp xs h Q->aO env 89 xs h Q:=by
 intro xs h Q g;unfold Lp at g;split at g
 ·rename_i id c;obtain⟨s,a,y,m,io,b,i,j,g⟩:=g
  cases b with
  |true=>exact a3F _ _ _ ⟨s,a,m,io,i,g⟩
  |false=>exact a3E _ _ _ ⟨s,a,y,m,io,i,j,g⟩
 ·exact g.elim
def Lq:=aT 89 Lp a3G
theorem Sq:aP env Lq:=aF c4I (b5S)
def d2J(id a:Nat)(w:Y11)(h:Heap):Inv':=eY Nat (fun j=>[(0,.v (.ptr id 0)),(3,.v (.int .i64 ((a+j:Nat):Int)))]) (fun _=>[]) (fun _=>h) (fun j=>j<=w.length) (fun j=>w.length-j)
def Lr(xs:Y14)(h:Heap)(K:KT):Prop:=match xs with
 | [.ptr id 0]=> ∃(s:Y11)(a:Nat)(y:Y15)(m:Nat)(io:Y10)(w r:Y11),RH h id s a y m io/\(s.drop a=w++r/\a<=s.length/\s.length<=20000)/\(∀c∈w,wd c)/\We r/\K (.str w) h
 |_=>False
def a3H(id:Nat):=TV.v (.ptr id 0)
theorem c4J(id:Nat)(s:Y11)(a:Nat)(y:Y15)(m:Nat)(io:Y10)(w r:Y11)(h:Heap)(Q:KT):dF (aS Lq) env 90 dL (kR 3 (d2J id a w h)) bS [.ptr id 0] h Q=(
 aE h id fun r0=>aI .i64 r0 1 fun n1=>(∃(x:Nat),some (a3H id)=some (a3H id)/\tI n1=tI (↑(a+x):Int)/\h=h/\Nat.le x w.length/\True)/\∀(x:Nat)(b:FF),x<=w.length->aE h id fun r2=>bL r2 0 fun(s3:Y11)=>aJ (decide ((↑(a+x):Int)< (s3.length:Int))) (aE h id fun r4=>bL r4 0 fun(s5:Y11)=>gN s5 ((↑(a+x):Int).toNat) fun c6=>aJ (c6 !=32) (aE h id fun r7=>bL r7 0 fun(s8:Y11)=>gN s8 ((↑(a+x):Int).toNat) fun c9=>aJ (c9 !=40) (aE h id fun K=>bL K 0 fun(a1:Y11)=>gN a1 ((↑(a+x):Int).toNat) fun G=>aJ (G !=(41:Int)) (∃(p:Nat),some (a3H id)=some (a3H id)/\tI (wW ((↑(a+x):Int)+1))=tI (↑(a+p):Int)/\h=h/\Nat.le p w.length/\w.length-p<w.length-x) (aE h id fun(L:Y14)=>bL L 0 fun(u:Y11)=>aE h id fun O=>aI .i64 O 1 fun g=>aD (decide (0<=g) && (decide (g<=(↑(a+x):Int)) &&decide ((↑(a+x):Int)<=(u.length:Int)))) (Q (.str (List.take ((↑(a+x):Int).toNat-g.toNat) (List.drop g.toNat u))) h))) (aE h id fun T=>bL T 0 fun(z:Y11)=>aE h id fun V=>aI .i64 V 1 fun i=>aD (decide (0<=i) && (decide (i<=(↑(a+x):Int)) &&decide ((↑(a+x):Int)<=(z.length:Int)))) (Q (.str (List.take ((↑(a+x):Int).toNat-i.toNat) (List.drop i.toNat z))) h))) (aE h id fun X=>bL X 0 fun(A:Y11)=>aE h id fun Y=>aI .i64 Y 1 fun j=>aD (decide (0<=j) && (decide (j<=(↑(a+x):Int)) &&decide ((↑(a+x):Int)<=(A.length:Int)))) (Q (.str (List.take ((↑(a+x):Int).toNat-j.toNat) (List.drop j.toNat A))) h))) (aE h id fun Z=>bL Z 0 fun(D:Y11)=>aE h id fun a0=>aI .i64 a0 1 fun l=>aD (decide (0<=l) && (decide (l<=(↑(a+x):Int)) &&decide ((↑(a+x):Int)<=(D.length:Int)))) (Q (.str (List.take ((↑(a+x):Int).toNat-l.toNat) (List.drop l.toNat D))) h))):=by kernel_rfl
theorem a3I: ∀xs h Q,Lr xs h Q->aO env 90 xs h Q:=by
 intro xs h Q u;unfold Lr at u;split at u
 ·rename_i id;obtain⟨s,a,y,m,io,w,r,hr,hs,hw,he,u⟩:=u;refine aN (Sq) (c4J id s a y m io w r h Q) ?_;delta a3H tI wW;have L: ∀x:Nat,(x:Int).toNat=x:=AE
  obtain⟨⟨q1,q2,q3⟩,gm,lv,l,a0⟩:=hr;obtain⟨hd,Z,a1⟩:=hs;have V:s.length=a+(w.length+r.length):=by
   have:=congrArg List.length hd;rw [CD,AH]at this;omega
  have D: ∀{j:Nat}(h:j<w.length),∃q:a+j<s.length,s[a+j]=w[j]:=fun{j} h=>by
   have X:a+j<s.length:=IM;refine⟨X,?_⟩;have e:(s.drop a)[j]?=(w++r)[j]?:=by rw [hd]
   rw [DQ,BD h,AA X,AA h,AC]at e;exact e
  have K: ∀b:UInt8,((b.toNat:Int) !=32)=!decide (b=32):=fun b=>congrArg (! ·) (Du (b:=b) (k:=32))
  have z: ∀b:UInt8,((b.toNat:Int) !=40)=!decide (b=40):=fun b=>congrArg (! ·) (Du (b:=b) (k:=40))
  have A: ∀b:UInt8,((b.toNat:Int) !=41)=!decide (b=41):=fun b=>congrArg (! ·) (Du (b:=b) (k:=41))
  refine aB l (bO rfl ⟨⟨0,IR,IR,IR,AR _,trivial⟩,?_⟩);rintro j _ hj
  try dsimp only at hj⊢
  have fin:j=w.length->(aE h id fun r1=>bL r1 0 fun Y=>aE h id fun r2=>aI .i64 r2 1 fun n=>aD (decide (0<=n) && (decide (n<=((a+j:Nat):Int)) &&decide (((a+j:Nat):Int)<=(Y.length:Int)))) (Q (.str ((Y.drop n.toNat).take (((a+j:Nat):Int).toNat-n.toNat))) h)):=fun e=>by
   subst e;refine aB l (dG rfl (aB l (bO rfl (aA (by simp;omega) ?_))));rw [L,L,hd,show a+w.length-a=w.length by omega,List.take_left']
   ·exact u
   ·rfl
  refine aB l (dG rfl ?_);refine aC (fun c=>?_) (fun c=>?_)
  ·rw [decide_eq_true_eq]at c;have g:a+j<s.length:=IM;refine aB l (dG rfl ?_);rw [L];refine gV g ?_;rw [K]
   by_cases hjw:j<w.length
   ·obtain⟨_,e⟩:=D hjw;have p:=hw _ (AG hjw);rw [<-e]at p;refine aC (fun _=>aB l (dG rfl ?_)) (fun i=>by simp [p.1]at i);refine gV g ?_;rw [z];refine aC (fun _=>aB l (dG rfl ?_)) (fun i=>by simp [p.2.1]at i);refine gV g ?_;rw [A];refine aC (fun _=>⟨j+1,IR,?_,IR,hjw,IM⟩) (fun i=>by simp [p.2.2]at i);rw [AB _ IM];rfl
   ·obtain rfl:j=w.length:=IM;have e:(s.drop a)[w.length]?=(w++r)[w.length]?:=by rw [hd]
    rw [DQ,BU (AJ _),EZ,AA g]at e;have G:s[a+w.length]=32\/s[a+w.length]=40\/s[a+w.length]=41:=by
     cases r with
     |nil=>cases e
     |cons c q=>
      rw [DC,AC]at e;rw [e];exact he c q rfl
    refine aC (fun i=>aB l (dG rfl ?_)) (fun i=>fin rfl);refine gV g ?_;rw [z];refine aC (fun O=>aB l (dG rfl ?_)) (fun i=>fin rfl);refine gV g ?_;rw [A];refine aC (fun T=>?_) (fun i=>fin rfl);exfalso;simp at i O T;rcases G with q|q|q
    ·exact i q
    ·exact O q
    ·exact T q
  ·rw [decide_eq_false_iff_not]at c;exact fin IM
 ·exact u.elim
def a3J:=aT 90 Lr Lq
theorem b5T:aP env a3J:=aF a3I (Sq)
def Ls(xs:Y14)(h:Heap)(K:KT):Prop:=match xs with
 | [.ptr id 0]=> ∃(s:Y11)(a:Nat)(y:Y15)(m:Nat)(io:Y10),RH h id s a y m io/\(a<=s.length/\s.length<=20000)/\K (.str (dI s a)) h
 |_=>False
theorem c4K: ∀xs h Q,Ls xs h Q->aO env 90 xs h Q:=by
 intro xs h Q g;unfold Ls at g;split at g
 ·rename_i id;obtain⟨s,a,y,m,io,j,⟨i,h2⟩,g⟩:=g;exact a3I _ _ _ ⟨s,a,y,m,io,dI s a,rsA s a,j,⟨zP s a,i,h2⟩,a0U,a0V s a,g⟩
 ·exact g.elim
def Lt:=aT 90 Ls a3J
theorem Sr:aP env Lt:=aF c4K (b5T)
def Lu(xs:Y14)(h:Heap)(K:KT):Prop:=match xs with
 | [.ptr id 0,.int .i64 op,.int .i64 im,.nilslice]=> ∃(s:Y11)(a:Nat)(y:Y15)(m:Nat)(io:Y10),RH h id s a y m io/\(qR ⟨op,im,([]:Y12)⟩/\(∀x∈y,qR x)/\y.length<=1000000/\(([]:Y12)).length<=1000000)/\
  ∀(h2:Heap)(g:Y10),RH h2 id s a (cH y ⟨op,im,([]:Y12)⟩).1 m g->dZ id m io h h2->fD h io g->K (.int .i64 (cH y ⟨op,im,([]:Y12)⟩).2) h2
 |_=>False
def b5U(op im:Int):=IV.str [UInt8.ofNat ((IntKind.wrap .u8 op).toNat),UInt8.ofNat ((IntKind.wrap .u8 (Int.fdiv (IntKind.wrap .u64 im) 1)).toNat),UInt8.ofNat ((IntKind.wrap .u8 (Int.fdiv (IntKind.wrap .u64 im) 256)).toNat),UInt8.ofNat ((IntKind.wrap .u8 (Int.fdiv (IntKind.wrap .u64
 im) 65536)).toNat),UInt8.ofNat ((IntKind.wrap .u8 (Int.fdiv (IntKind.wrap .u64 im) 16777216)).toNat),UInt8.ofNat ((IntKind.wrap .u8 (Int.fdiv (IntKind.wrap .u64 im) 4294967296)).toNat),UInt8.ofNat ((IntKind.wrap .u8 (Int.fdiv (IntKind.wrap .u64 im) (1099511627776
 :Int))).toNat),UInt8.ofNat ((IntKind.wrap .u8 (Int.fdiv (IntKind.wrap .u64 im) 281474976710656)).toNat),UInt8.ofNat ((IntKind.wrap .u8 (Int.fdiv (IntKind.wrap .u64 im) 72057594037927936)).toNat)]
def a3K(op im:Int):=[iI op,iI im,IV.vslice none 0 0 1 []]
def a3L:=iI 0
def a3M:=IObj.tip 3
theorem c4L(id:Nat)(op im:Int)(h:Heap)(Q:KT):dF (aS Lt) env 92 (fun k=>2) bS bS [.ptr id 0,.int .i64 op,.int .i64 im,.nilslice] h Q=(
 aE h id fun r0=>kQ r0 2 fun b1=>aJ b1 (Q a3L h) (∀(i:Nat)(h2:Heap),h2.get i=IObj.tip 9->Heap.next h<=i->i<h2.next->(∀(j:Nat),j<h.next->Heap.get h2 j=h.get j)->aE h2 id fun r2=>J7 r2 4 fun(i3:Nat)=>qM h2 i3 TypeDesc.string (b5U op im) (fun r4=>aI .i64 r4 0 fun n5=>Q (.int .i64 n5) h2) (aE h2 id fun r6=>bP 3 r6 3 (aE h2 id fun r7=>J7 r7 4 fun(G:Nat)=>yG h2 G TypeDesc.string (b5U op im) a3L fun(p:List (IV×IV))=>aE (h2.set G (IObj.map p)) id fun a3=>bP 3 a3 3 (aE ((h2.set G (IObj.map p)).push a3M) id fun L=>aD (Nat.ble 4 L.length) (Q a3L (((h2.set G (IObj.map p)).push a3M).set id (IObj.cells (List.take 3 L++ [IV.vslice (some (h2.next)) 3 1 3 (a3K op im)]++List.drop 4 L))))) fun(A u X:Nat)(Z:Y14)=>cK (h2.set G (IObj.map p)) A fun(a1:Nat)=>aD (Nat.beq a1 u&&Nat.ble ((X+1)*40) 140737488355328) (aE ((h2.set G (IObj.map p)).set A (IObj.tip (u+3))) id fun O=>aD (Nat.ble 4 O.length) (Q a3L (((h2.set G (IObj.map p)).set A (IObj.tip (u+3))).set id (IObj.cells (List.take 3 O++ [IV.vslice (some A) (u+3) (X+1) 3 (Z++(a3K op im))]++List.drop 4 O)))))) fun(a8 a7 K:Nat)(a6:Y14)=>aE h2 id fun a4=>J7 a4 4 fun(l:Nat)=>yG h2 l TypeDesc.string (b5U op im) (iI (K:Int)) fun(g:List (IV×IV))=>aE (h2.set l (IObj.map g)) id fun a5=>bP 3 a5 3 (aE ((h2.set l (IObj.map g)).push a3M) id fun(T:Y14)=>aD (Nat.ble 4 T.length) (Q (.int .i64 (K:Int)) (((h2.set l (IObj.map g)).push a3M).set id (IObj.cells (List.take 3 T++ [IV.vslice (some (h2.next)) 3 1 3 (a3K op im)]++List.drop 4 T))))) fun(D z Y:Nat)(a0:Y14)=>cK (h2.set l (IObj.map g)) D fun(a2:Nat)=>aD (Nat.beq a2 z&&Nat.ble ((Y+1)*40) 140737488355328) (aE ((h2.set l (IObj.map g)).set D (IObj.tip (z+3))) id fun(V:Y14)=>aD (Nat.ble 4 V.length) (Q (.int .i64 (K:Int)) (((h2.set l (IObj.map g)).set D (IObj.tip (z+3))).set id (IObj.cells (List.take 3 V++ [IV.vslice (some D) (z+3) (Y+1) 3 (a0++(a3K op im))]++List.drop 4 V)))))))):=by kernel_rfl
theorem a3N: ∀xs h Q,Lu xs h Q->aO env 92 xs h Q:=by
 intro xs h Q p;unfold Lu at p;split at p
 ·rename_i id op im;obtain⟨s,a,y,m,io,Z,hb,p⟩:=p;refine aN (Sr) (c4L id op im h Q) ?_;delta b5U a3K a3L a3M iI;obtain⟨X,hy,a4,a3⟩:=hb;obtain⟨_,_,a5,O,_⟩:=(show RH h id s a y m io from Z);refine aB O (K1 rfl (aC (fun c=>by cases c) (fun _=>?_)));intro i g a0 a1 a2 A;have L:RH g id s a y m io:=Z.frame IM A;have u:dZ id m io h g:=⟨IM,fun j G _ _ _=>A j G⟩;have l:=C6 X hy;obtain⟨⟨q1,q2,K⟩,D,lv,z,V⟩:=(show RH g id s a y m io from L);refine aB z (wT rfl ?_)
  cases e:iY ⟨op,im,([]:Y12)⟩ y 0 with
  |some i=>
   rw [e]at l;have Y:cH y ⟨op,im,([]:Y12)⟩=(y,(i:Int)):=by unfold cH;rw [e]
   rw [Y]at p;refine B9 D (by show eV _ (.str (zO ⟨op,im,([]:Y12)⟩)) _=_;rw [uU,l];rfl) (bO rfl ?_);exact p _ io L u fD.refl
  |none=>
   rw [e]at l;have Y:cH y ⟨op,im,([]:Y12)⟩=(y++ [⟨op,im,([]:Y12)⟩],(y.length:Int)):=by unfold cH;rw [e]
   rw [Y]at p;refine C0 D (by show eV _ (.str (zO ⟨op,im,([]:Y12)⟩)) _=_;rw [uU,l];rfl) (aB z ?_);rcases V with⟨rfl,rfl,rfl⟩| ⟨iL,rfl,rfl,t1,t2,t3,t4,t5⟩
   ·refine cO rfl (aB z (wT rfl (oT D (B7 (zO ⟨op,im,([]:Y12)⟩) 0 _ (by rw [l];rfl)) (aB ((aG K).trans z) (cO rfl (aB ((aL (by exact q1)).trans ((aG K).trans z)) (aA rfl ?_)))))));refine p _ _ (put_nil L X) (u.trans fD.refl ⟨ED _,fun j G h2 T _=>?_⟩) (.inr ⟨rfl,_,rfl,u.1⟩);rw [aG h2,aL (by exact G),aG T]
   ·refine bZ rfl (aB z (wT rfl (oT D (B7 (zO ⟨op,im,([]:Y12)⟩) (y.length:Int) _ (by rw [l];rfl)) (aB ((aG K).trans z) (bZ rfl (aV ((aG t4).trans t1) (aA (by simp only [AF,bK,AM,true_and];omega) (aB ((aG t3.symm).trans ((aG K).trans z)) (aA rfl ?_)))))))));refine p _ _ (put_some L X hy e) (u.trans fD.refl ⟨AJ _,fun j G h2 T h4=>?_⟩) fD.refl;rw [aG h2,aG (fun q=>h4 (by rw [q])),aG T]
 ·exact p.elim
def Lv:=aT 92 Lu Lt
theorem St:aP env Lv:=aF a3N (Sr)
def d2K(id:Nat)(op im:Int)(i:Y10)(g:Nat)(ks:Y12)(h:Heap):Inv':=eY (Nat×Nat×Heap×Y14) (fun x=>[(0,.v (.ptr id 0)),(1,.v (.int .i64 op)),(2,.v (.int .i64 im)),(3,.v (.vslice i g ks.length 1 (ks.map (IV.int .i64)))),(9,.v (.vslice (some x.2.1) (9+8*x.1) (9+8*x.1) 1 x.2.2.2)),(24,.v (.vslice i g ks.length 1 (ks.map (IV.int .i64)))),(25,.v (.int .i64 ks.length)),(26,.v (.int .i64 x.1))]) (fun _=>[]) (fun x=>x.2.2.1)
 (fun x=>x.1<=ks.length/\x.2.2.1.get x.2.1= .tip (9+8*x.1)/\Dw ⟨op,im,ks.take x.1⟩ x.2.2.2/\(h.next<=x.2.1/\x.2.1<x.2.2.1.next)/\∀j,j<h.next->x.2.2.1.get j=h.get j) (fun x=>ks.length-x.1)
def Lw(xs:Y14)(h:Heap)(K:KT):Prop:=match xs with
 | [.ptr id 0,.int .i64 op,.int .i64 im,.vslice i2 e1 n1 1 c1]=> ∃ks:Y12,(n1=ks.length/\c1=ks.map (IV.int .i64))/\∃(s:Y11)(a:Nat)(y:Y15)(m:Nat)(io:Y10),RH h id s a y m io/\(qR ⟨op,im,ks⟩/\(∀x∈y,qR x)/\y.length<=1000000/\(ks).length<=1000000)/\
  ∀(h2:Heap)(g:Y10),RH h2 id s a (cH y ⟨op,im,ks⟩).1 m g->dZ id m io h h2->fD h io g->K (.int .i64 (cH y ⟨op,im,ks⟩).2) h2
 |_=>False
def iT(x:Nat×Nat×Heap×Y14):=x.2.2.1
def V7(i:Y10)(g:Nat)(ks:Y12):=TV.v (.vslice i g ks.length 1 (List.map (IV.int .i64) ks))
def a3O(op im:Int)(ks:Y12):=[iI op,iI im,IV.vslice none 0 ks.length 1 (List.map (IV.int .i64) ks)]
def c4M(op im:Int)(ks:Y12)(h:Heap)(x:Nat×Nat×Heap×Y14):=(x.1<=ks.length/\Heap.get (iT x) x.2.1=IObj.tip ((9:Nat)+8*x.1)/\Dw (Nd.mk op im (List.take x.1 ks)) x.2.2.2/\(h.next<=x.2.1/\x.2.1< (iT x).next)/\∀(j:Nat),j<h.next->Heap.get (iT x) j=h.get j)
def V8(im:Int):=IntKind.wrap .u64 im
def V9(g:Int):=IntKind.wrap .u64 g
def a3P(ks:Y12):=TV.v (.int .i64 (ks.length:Int))
def Xk:=iI 0
def a3Q:=IObj.tip 3
def a3R(op:Int):=TV.v (.int .i64 op)
def a3S(im:Int):=TV.v (.int .i64 im)
def a3T(id:Nat):=TV.v (.ptr id 0)
def b5V(x:Nat×Nat×Heap×Y14):=(9:Nat)+8*x.1+8
theorem c4N(id:Nat)(op im:Int)(D:Y10)(A:Nat)(ks:Y12)(h:Heap)(Q:KT):dF (aS Lv) env 92 dL (kR 6 (d2K id op im D A ks h)) bS [.ptr id 0,.int .i64 op,.int .i64 im,.vslice D A ks.length 1 (ks.map (IV.int .i64))] h Q=(
 aE h id fun r0=>kQ r0 2 fun b1=>aJ b1 (Q Xk h) (∀(i:Nat)(h2:Heap),h2.get i=IObj.tip 9->Heap.next h<=i->i<h2.next->(∀(j:Nat),j<h.next->Heap.get h2 j=h.get j)->(∃(x:Nat×Nat×Heap×Y14),some (a3T id)=some (a3T id)/\some (a3R op)=some (a3R op)/\some (a3S im)=some (a3S im)/\some (V7 D A ks)=some (V7 D A ks)/\some (TV.v (.vslice (some i) 9 9 1 [IV.int .u8 (IntKind.wrap .u8 op),IV.int .u8 (IntKind.wrap .u8 (Int.fdiv (V8 im) 1)),IV.int .u8 (IntKind.wrap .u8 (Int.fdiv (V8 im) 256)),IV.int .u8 (IntKind.wrap .u8 (Int.fdiv (V8 im) 65536)),IV.int .u8 (IntKind.wrap .u8 (Int.fdiv (V8 im) 16777216)),IV.int .u8 (IntKind.wrap .u8 (Int.fdiv (V8 im) 4294967296)),IV.int .u8 (IntKind.wrap .u8 (Int.fdiv (V8 im) 1099511627776)),IV.int .u8 (IntKind.wrap .u8 (Int.fdiv (V8 im) 281474976710656)),IV.int .u8 (IntKind.wrap .u8 (Int.fdiv (V8 im) 72057594037927936))]))=some (TV.v (.vslice (some x.2.1) ((9:Nat)+8*x.1) ((9:Nat)+8*x.1) 1 x.2.2.2))/\some (V7 D A ks)=some (V7 D A ks)/\some (a3P ks)=some (a3P ks)/\some (TV.v Xk)=tI (x.1:Int)/\h2=x.2.2.1/\(c4M op im ks h x)/\True)/\∀(x:Nat×Nat×Heap×Y14)(b:FF),(c4M op im ks h x)->aJ (decide ((x.1:Int)< (ks.length:Int))) (aD (decide (0<=(x.1:Int)) &&decide ((x.1:Int)< (ks.length:Int))) (aI .i64 (List.map (IV.int .i64) ks) ((x.1:Int).toNat*1) fun T=>(iT x).get x.2.1=IObj.tip ((9:Nat)+8*x.1)/\(9:Nat)+8*x.1<=(100000000000:Nat)/\∀(h2:Heap),h2.get x.2.1=IObj.tip (b5V x)->Heap.next h2=(iT x).next->(∀(j:Nat),j≠x.2.1->Heap.get h2 j=(iT x).get j)-> ∃(g:Nat×Nat×Heap×Y14),some (a3T id)=some (a3T id)/\some (a3R op)=some (a3R op)/\some (a3S im)=some (a3S im)/\some (V7 D A ks)=some (V7 D A ks)/\some (TV.v (.vslice (some x.2.1) (b5V x) (b5V x) 1 (x.2.2.2++ [IV.int .u8 (IntKind.wrap .u8 (Int.fdiv (V9 T) 1)),IV.int .u8 (IntKind.wrap .u8 (Int.fdiv (V9 T) 256)),IV.int .u8 (IntKind.wrap .u8 (Int.fdiv (V9 T) 65536)),IV.int .u8 (IntKind.wrap .u8 (Int.fdiv (V9 T) 16777216)),IV.int .u8 (IntKind.wrap .u8 (Int.fdiv (V9 T) 4294967296)),IV.int .u8 (IntKind.wrap .u8 (Int.fdiv (V9 T) 1099511627776)),IV.int .u8 (IntKind.wrap .u8 (Int.fdiv (V9 T) 281474976710656)),IV.int .u8 (IntKind.wrap .u8 (Int.fdiv (V9 T) 72057594037927936))])))=some (TV.v (.vslice (some (g.2.1)) ((9:Nat)+8*g.1) ((9:Nat)+8*g.1) 1 g.2.2.2))/\some (V7 D A ks)=some (V7 D A ks)/\some (a3P ks)=some (a3P ks)/\tI (wW ((x.1:Int)+1))=tI (g.1:Int)/\h2=g.2.2.1/\(g.1<=ks.length/\Heap.get g.2.2.1 g.2.1=IObj.tip ((9:Nat)+8*g.1)/\Dw (Nd.mk op im (List.take g.1 ks)) g.2.2.2/\(h.next<=g.2.1/\g.2.1<g.2.2.1.next)/\∀(j:Nat),j<h.next->Heap.get g.2.2.1 j=h.get j)/\ks.length-g.1<ks.length-x.1)) (aE (iT x) id fun r3=>J7 r3 4 fun(i4:Nat)=>Da x.2.2.2 fun(s5:Y11)=>qM (iT x) i4 TypeDesc.string (IV.str s5) (fun r6=>aI .i64 r6 0 fun n7=>Q (.int .i64 n7) (iT x)) (aE (iT x) id fun r8=>bP 3 r8 3 (aE (iT x) id fun r9=>J7 r9 4 fun(u:Nat)=>Da x.2.2.2 fun(b0:Y11)=>yG (iT x) u TypeDesc.string (IV.str b0) Xk fun(l:List (IV×IV))=>aE ((iT x).set u (IObj.map l)) id fun a7=>bP 3 a7 3 (aE (((iT x).set u (IObj.map l)).push a3Q) id fun X=>aD (Nat.ble 4 X.length) (Q Xk ((((iT x).set u (IObj.map l)).push a3Q).set id (IObj.cells (List.take 3 X++ [IV.vslice (some ((iT x).next)) 3 1 3 (a3O op im ks)]++List.drop 4 X))))) fun(L G a1:Nat)(a3:Y14)=>cK ((iT x).set u (IObj.map l)) L fun(a5:Nat)=>aD (Nat.beq a5 G&&Nat.ble ((a1+1)*40) 140737488355328) (aE (((iT x).set u (IObj.map l)).set L (IObj.tip (G+3))) id fun Y=>aD (Nat.ble 4 Y.length) (Q Xk ((((iT x).set u (IObj.map l)).set L (IObj.tip (G+3))).set id (IObj.cells (List.take 3 Y++ [IV.vslice (some L) (G+3) (a1+1) 3 (a3++(a3O op im ks))]++List.drop 4 Y)))))) fun(b5 b4 V:Nat)(b3:Y14)=>aE (iT x) id fun(a8:Y14)=>J7 a8 4 fun(z:Nat)=>Da x.2.2.2 fun(b2:Y11)=>yG (iT x) z TypeDesc.string (IV.str b2) (iI (V:Int)) fun(p:List (IV×IV))=>aE ((iT x).set z (IObj.map p)) id fun a9=>bP 3 a9 3 (aE (((iT x).set z (IObj.map p)).push a3Q) id fun Z=>aD (Nat.ble 4 Z.length) (Q (.int .i64 (V:Int)) ((((iT x).set z (IObj.map p)).push a3Q).set id (IObj.cells (List.take 3 Z++ [IV.vslice (some ((iT x).next)) 3 1 3 (a3O op im ks)]++List.drop 4 Z))))) fun(O K a2:Nat)(a4:Y14)=>cK ((iT x).set z (IObj.map p)) O fun(a6:Nat)=>aD (Nat.beq a6 K&&Nat.ble ((a2+1)*40) 140737488355328) (aE (((iT x).set z (IObj.map p)).set O (IObj.tip (K+3))) id fun a0=>aD (Nat.ble 4 a0.length) (Q (.int .i64 (V:Int)) ((((iT x).set z (IObj.map p)).set O (IObj.tip (K+3))).set id (IObj.cells (List.take 3 a0++ [IV.vslice (some O) (K+3) (a2+1) 3 (a4++(a3O op im ks))]++List.drop 4 a0))))))))):=by kernel_rfl
theorem a3U: ∀xs h Q,Lw xs h Q->aO env 92 xs h Q:=by
 intro xs h Q z;unfold Lw at z;split at z
 ·rename_i id op im i2 e1 n1 c1;obtain⟨ks,⟨rfl,rfl⟩,s,a,y,m,io,hr,hb,z⟩:=z;refine aN (St) (c4N id op im i2 e1 ks h Q) ?_;delta iT V7 a3O c4M V8 V9 a3P Xk a3Q a3R a3S a3T b5V tI wW iI;have tn: ∀x:Nat,(x:Int).toNat=x:=AE
  obtain⟨hn,hy,a7,a6⟩:=hb;obtain⟨_,_,a8,a0,_⟩:=(show RH h id s a y m io from hr);refine aB a0 (K1 rfl (aC (fun c=>by cases c) (fun _=>?_)));intro i0 g0 O a1 a2 K;refine⟨⟨(0,i0,g0,_),IR,IR,IR,IR,IR,IR,IR,IR,IR,⟨AR _,O,?_,⟨a1,a2⟩,K⟩,trivial⟩,?_⟩
  ·rfl
  rintro⟨k,i9,g,cs⟩ _ ⟨a4,L,p,⟨T,a3⟩,l⟩;dsimp only at a4 L p T a3 l⊢;refine aC (fun c=>?_) (fun c=>?_)
  ·rw [decide_eq_true_eq]at c;have G:k<ks.length:=IM;refine aA (by simp;omega) (d1H G (by rw [AO,tn]) ⟨L,IM,fun g2 e1 e2 e3=>⟨(k+1,i9,g2,cs++(b8 (u64 ks[k])).map (IV.int .u8)),IR,IR,IR,IR,?_,IR,IR,?_,IR,⟨G,by rw [e1];congr 1,?_,⟨T,IS⟩,fun j hj=>by rw [e3 j IM];exact l j hj⟩,IS⟩⟩)
   ·rw [show 9+8*(k+1)=9+8*k+8 by omega];rfl
   ·rw [AB _ IM];rfl
   ·unfold Dw at p⊢;dsimp only;rw [p,a0S G,DE]
  ·rw [decide_eq_false_iff_not]at c;obtain rfl:k=ks.length:=IM;unfold Dw at p;rw [DR]at p;subst p;have Z:RH g id s a y m io:=hr.frame IM l;have A:dZ id m io h g:=⟨IM,fun j X _ _ _=>l j X⟩;have u:=C6 hn hy;obtain⟨⟨q1,q2,Y⟩,V,lv,D,a5⟩:=(show RH g id s a y m io from Z);refine aB D (wT rfl (rU (mC _) ?_))
   cases e:iY ⟨op,im,ks⟩ y 0 with
   |some i=>
    rw [e]at u;have hp:cH y ⟨op,im,ks⟩=(y,(i:Int)):=by unfold cH;rw [e]
    rw [hp]at z;refine B9 V (by show eV _ (.str (zO ⟨op,im,ks⟩)) _=_;rw [uU,u];rfl) (bO rfl ?_);exact z _ io Z A fD.refl
   |none=>
    rw [e]at u;have hp:cH y ⟨op,im,ks⟩=(y++ [⟨op,im,ks⟩],(y.length:Int)):=by unfold cH;rw [e]
    rw [hp]at z;refine C0 V (by show eV _ (.str (zO ⟨op,im,ks⟩)) _=_;rw [uU,u];rfl) (aB D ?_);rcases a5 with⟨rfl,rfl,rfl⟩| ⟨iL,rfl,rfl,t1,t2,t3,t4,t5⟩
    ·refine cO rfl (aB D (wT rfl (rU (mC _) (oT V (B7 (zO ⟨op,im,ks⟩) 0 _ (by rw [u];rfl)) (aB ((aG Y).trans D) (cO rfl (aB ((aL (by exact q1)).trans ((aG Y).trans D)) (aA rfl ?_))))))));refine z _ _ (put_nil Z hn) (A.trans fD.refl ⟨ED _,fun j X h2 h3 _=>?_⟩) (.inr ⟨rfl,_,rfl,A.1⟩);rw [aG h2,aL (by exact X),aG h3]
    ·refine bZ rfl (aB D (wT rfl (rU (mC _) (oT V (B7 (zO ⟨op,im,ks⟩) (y.length:Int) _ (by rw [u];rfl)) (aB ((aG Y).trans D) (bZ rfl (aV ((aG t4).trans t1) (aA (by simp only [AF,bK,AM,true_and];omega) (aB ((aG t3.symm).trans ((aG Y).trans D)) (aA rfl ?_))))))))));refine z _ _ (put_some Z hn hy e) (A.trans fD.refl ⟨AJ _,fun j X h2 h3 h4=>?_⟩) fD.refl;rw [aG h2,aG (fun q=>h4 (by rw [q])),aG h3]
 ·exact z.elim
def a3V:=aT 92 Lw Lv
theorem b5W:aP env a3V:=aF a3U (St)
def a3W(xs:Y14)(h:Heap)(K:KT):Prop:=match xs with
 | [.ptr id 0,.int .i64 op,.int .i64 im,sv]=> ∃ks:Y12,KA sv ks/\∃(s:Y11)(a:Nat)(y:Y15)(m:Nat)(io:Y10),RH h id s a y m io/\(qR ⟨op,im,ks⟩/\(∀x∈y,qR x)/\y.length<=1000000/\(ks).length<=1000000)/\
  ∀(h2:Heap)(g:Y10),RH h2 id s a (cH y ⟨op,im,ks⟩).1 m g->dZ id m io h h2->fD h io g->K (.int .i64 (cH y ⟨op,im,ks⟩).2) h2
 |_=>False
theorem d2L: ∀xs h Q,a3W xs h Q->aO env 92 xs h Q:=by
 intro xs h Q g;unfold a3W at g;split at g
 ·rename_i id op im l;obtain⟨ks,ka,g⟩:=g;rcases ka with⟨rfl,rfl⟩| ⟨j,i,rfl⟩
  ·exact a3N _ _ _ g
  ·exact a3U _ _ _ ⟨ks,⟨rfl,rfl⟩,g⟩
 ·exact g.elim
def a3X:=aT 92 a3W a3V
theorem a3Y:aP env a3X:=aF d2L (b5W)
def rxC(id:Nat)(s:Y11)(a:Nat)(y:Y15)(m:Nat)(io:Y10)(d:Nat)(h g:Heap)(i:Y10)(p:IV)(j:Nat)(l:Y15)(ks:Y12)(b:Bool):Prop:=
 RHx g id s j l m i b/\(if b=true then wZ s (kG s d) (s.length+1) (a+1+(dI s (a+1)).length) y []=(j,none)else KsAt s (kG s d) (a+1+(dI s (a+1)).length) y j l ks/\K2 p ks g id m i h.next)/\dZ id m io h g/\fD h io i
def rxI(id:Nat)(s:Y11)(a:Nat)(y:Y15)(m:Nat)(io:Y10)(d:Nat)(h:Heap):Inv':=eY (Heap×Y10×IV×Nat×Y15×Y12×Bool) (fun x=>[(0,.v (.ptr id 0)),(8,.v (.int .i64 ((kT (dI s (a+1))).getD (0,0)).1)),(9,.v (.int .i64 ((kT (dI s (a+1))).getD (0,0)).2)),(11,.v x.2.2.1)]) (fun _=>[]) (fun x=>x.1)
 (fun x=>rxC id s a y m io d h x.1 x.2.1 x.2.2.1 x.2.2.2.1 x.2.2.2.2.1 x.2.2.2.2.2.1 x.2.2.2.2.2.2/\True) (fun x=>if x.2.2.2.2.2.2=true then 0 else 1+(s.length-x.2.2.2.1))
def vE(d:Nat)(xs:Y14)(h:Heap)(K:KT):Prop:=match xs with
 | [.ptr id 0]=> ∃(s:Y11)(a:Nat)(y:Y15)(m:Nat)(io:Y10),RH h id s a y m io/\(a<=s.length/\s.length<=20000/\s.length-a<d)/\((∀n∈y,O5 n)/\y.length<=a)/\
  (∀(p:Nat)(j:Y15)(i:Int),kG s d a y=(p,some (j,i))-> ∀(h2:Heap)(g:Y10),RH h2 id s p j m g->dZ id m io h h2->fD h io g->K (.int .i64 i) h2)/\
  (∀p:Nat,kG s d a y=(p,none)-> ∀(h2:Heap)(g:Y10),Is h2 id s p m g->dZ id m io h h2->fD h io g->K (.int .i64 0) h2)
 |_=>False
def Lx(id:Nat)(h:Heap)(i:Int)(g:Y14):=h.set id (IObj.cells (List.take 1 g++ [iI (wW (i+1))]++List.drop 2 g))
def Xl(i:Int)(g:Y14):=IObj.cells (List.take 1 g++ [iI (wW (i+1))]++List.drop 2 g)
def b5X(i:Int)(g:Y14):=IObj.cells (List.take 1 g++ [iI (wW (i+1))]++List.drop 2 g)
def xJ:=((0:Int),(0:Int))
def zC(g:Heap×Y10×IV×Nat×Y15×Y12×Bool):=g.2.2.2
def a3Z:=iI 0
def a4A(id:Nat):=TV.v (.ptr id 0)
def a4B(a i id m:Nat)(h:Heap)(io:Y10)(s:Y11)(x:Heap×Y10×IV×Nat×Y15×Y12×Bool)(y:Y15)(y0:IV)(j:Heap):Prop:= ∃(g:Heap×Y10×IV×Nat×Y15×Y12×Bool),some (a4A id)=some (a4A id)/\tI ((Option.getD (kT (dI s (a+1))) xJ).1)=tI ((Option.getD (kT (dI s (a+1))) xJ).1)/\tI ((Option.getD (kT (dI s (a+1))) xJ).2)=tI ((Option.getD (kT
 (dI s (a+1))) xJ).2)/\some (TV.v (y0))=some (TV.v g.2.2.1)/\j=g.1/\((RHx g.1 id s ((zC g).1) (((zC g).2).1) m g.2.1 ((((zC g).2).2).2)/\(if Prod.snd (((zC g).2).2)=true then wZ s (kG s i) (s.length+1) (a+1+
 (dI s (a+1)).length) y []=((zC g).1,none)else KsAt s (kG s i) (a+1+(dI s (a+1)).length) y ((zC g).1) (((zC g).2).1) ((((zC g).2).2).1)/\K2 g.2.2.1 ((((zC g).2).2).1) g.1 id m g.2.1 (Heap.next
 h))/\dZ id m io h g.1/\fD h io g.2.1)/\True)/\(if Prod.snd (((zC g).2).2)=true then(0:Nat)else(1:Nat)+(s.length- (zC g).1))<if x.2.2.2.2.2.2=true then(0:Nat)else(1:Nat)+(s.length-x.2.2.2.1)
theorem b5Y(O:Nat)(id:Nat)(s:Y11)(a:Nat)(y:Y15)(m:Nat)(io:Y10)(h:Heap)(Q:KT):dF (aS (aT 46 (vE O) a3X)) env 46 dL (kR 20 (rxI id s a y m io O h)) bS [.ptr id 0] h Q=(
 aE h id fun r0=>kQ r0 2 fun b1=>aJ b1 (Q a3Z h) (∃(a0:Y11)(a2:Nat)(c9:Y15)(c2:Nat)(a6:Y10)(b:Bool),RHx h id a0 a2 c9 c2 a6 b/\a0.length<=20000/\aJ (!(!b&&nx a0 a2 40)) (∃(s:Y11)(a:Nat)(y:Y15)(m:Nat)(io:Y10),RH h id s a y m io/\(a<=s.length/\s.length<=20000)/\List.length (dI s a)<=1000000/\(∀(p:Int×Int),Ir (dI s a)=some p->aE h id fun r2=>aI .i64 r2 1 fun n3=>aE h id fun r4=>aD (Nat.ble 2 r4.length) (∃(ks:Y12),KA IV.nilslice ks/\∃(l:Y11)(a3:Nat)(y:Y15)(m:Nat)(io:Y10),RH (h.set id (IObj.cells (List.take 1 r4++ [iI (wW (n3+(↑((dI s a).length):Int)))]++List.drop 2 r4))) id l a3 y m io/\(qR (Nd.mk p.1 p.2 ks)/\(∀(x:Nd),x∈y->qR x)/\y.length<=1000000/\ks.length<=1000000)/\∀(h2:Heap)(j:Y10),RH h2 id l a3 ((cH y (Nd.mk p.1 p.2 ks)).1) m j->dZ id m io (h.set id (IObj.cells (List.take 1 r4++ [iI (wW (n3+(↑((dI s a).length):Int)))]++List.drop 2 r4))) h2->fD (h.set id (IObj.cells (List.take 1 r4++ [iI (wW (n3+(↑((dI s a).length):Int)))]++List.drop 2 r4))) io j->Q (.int .i64 ((cH y (Nd.mk p.1 p.2 ks)).2)) h2))/\(Ir (dI s a)=none-> ∀(a b:Int),aE h id fun r5=>aD (Nat.ble 3 r5.length) (Q a3Z (h.set id (IObj.cells (List.take 2 r5++ [IV.bool true]++List.drop 3 r5)))))) (aE h id fun r6=>aI .i64 r6 1 fun n7=>aE h id fun r8=>aD (Nat.ble 2 (r8.length)) (∃(l:Y11)(A:Nat)(d0:Y15)(c3:Nat)(a7:Y10),RH (Lx id h n7 r8) id l A d0 c3 a7/\(A<=l.length/\l.length<=20000)/\List.length (dI l A)<=1000000/\(∀(p:Int×Int),kT (dI l A)=some p->aE (Lx id h n7 r8) id fun r9=>aI .i64 r9 1 fun c6=>aE (Lx id h n7 r8) id fun X=>aD (Nat.ble 2 X.length) ((∃(x:Heap×Y10×IV×Nat×Y15×Y12×Bool),some (a4A id)=some (a4A id)/\some (TV.v (iI p.1))=tI ((Option.getD (kT (dI s (a+1))) xJ).1)/\tI p.2=tI ((Option.getD (kT (dI s (a+1))) xJ).2)/\some (TV.v IV.nilslice)=some (TV.v x.2.2.1)/\Heap.set (Lx id h n7 r8) id (IObj.cells (List.take 1 X++ [iI (wW (c6+(↑((dI l A).length):Int)))]++List.drop 2 X))=x.1/\((RHx x.1 id s (((x.2.2).2).1) x.2.2.2.2.1 m x.2.1 x.2.2.2.2.2.2/\(if x.2.2.2.2.2.2=true then wZ s (kG s O) (s.length+1) (a+(1:Nat)+(dI s (a+1)).length) y []=(x.2.2.2.1,none)else KsAt s (kG s O) (a+1+(dI s (a+1)).length) y x.2.2.2.1 x.2.2.2.2.1 ((x.2.2.2.2.2).1)/\K2 x.2.2.1 x.2.2.2.2.2.1 x.1 id m x.2.1 (h.next))/\dZ id m io h x.1/\fD h io x.2.1)/\True)/\True)/\∀(x:Heap×Y10×IV×Nat×Y15×Y12×Bool)(b:FF),rxC id s a y m io O h x.1 x.2.1 x.2.2.1 x.2.2.2.1 x.2.2.2.2.1 ((((x.2.2.2).2).2).1) x.2.2.2.2.2.2/\True-> ∃(a1:Y11)(a4:Nat)(d1:Y15)(c5:Nat)(a8:Y10)(b:Bool),RHx x.1 id a1 a4 d1 c5 a8 b/\a1.length<=20000/\aJ (!b&&nx a1 a4 32) (aE x.1 id fun c7=>aI .i64 c7 1 fun K=>aE x.1 id fun D=>aD (Nat.ble 2 D.length) (∃(g:Y11)(u:Nat)(L:Y15)(G:Nat)(z:Y10),RH (x.1.set id (Xl K D)) id g u L G z/\(u<=g.length/\g.length<=20000/\g.length-u<O)/\((∀(n:Nd),n∈L->O5 n)/\L.length<=u)/\(∀(p:Nat)(y2:Y15)(i:Int),kG g O u L=(p,some (y2,i))-> ∀(h2:Heap)(j:Y10),RH h2 id g p y2 G j->dZ id G z (x.1.set id (Xl K D)) h2->fD (x.1.set id (Xl K D)) z j->nH h2 1 8 x.2.2.1 1 [iI i] fun(b7 b3 c0:Nat)(b0:Y14)(b5:Heap)=>a4B a O id m h io s x y (IV.vslice (some b7) b3 c0 1 b0) b5)/\∀(p:Nat),kG g O u L=(p,none)-> ∀(h2:Heap)(j:Y10),Is h2 id g p G j->dZ id G z (x.1.set id (Xl K D)) h2->fD (x.1.set id (Xl K D)) z j->nH h2 1 8 x.2.2.1 1 [iI 0] fun(b9 b4 c1:Nat)(b2:Y14)(b6:Heap)=>a4B a O id m h io s x y (IV.vslice (some b9) b4 c1 1 b2) b6)) (∃(g:Y11)(u:Nat)(y:Y15)(m:Nat)(io:Y10)(b:Bool),RHx x.1 id g u y m io b/\g.length<=20000/\aJ (!(!b&&nx g u 41)) (aE x.1 id fun Y=>aD (Nat.ble 3 Y.length) (Q a3Z (x.1.set id (IObj.cells (List.take 2 Y++ [IV.bool true]++List.drop 3 Y))))) (aE x.1 id fun c8=>aI .i64 c8 1 fun V=>aE x.1 id fun T=>aD (Nat.ble 2 T.length) (∃(ks:Y12),KA (x.2.2.1) ks/\∃(a9:Y11)(a5:Nat)(y:Y15)(m:Nat)(io:Y10),RH (x.1.set id (b5X V T)) id a9 a5 y m io/\(qR (Nd.mk ((Option.getD (kT (dI s (a+1))) xJ).1) ((Option.getD (kT (dI s (a+1))) xJ).2) ks)/\(∀(x:Nd),x∈y->qR x)/\y.length<=1000000/\ks.length<=1000000)/\∀(h2:Heap)(j:Y10),RH h2 id a9 a5 ((cH y (Nd.mk ((Option.getD (kT (dI s (a+1))) xJ).1) ((Option.getD (kT (dI s (a+1))) xJ).2) ks)).1) m j->dZ id m io (x.1.set id (b5X V T)) h2->fD (x.1.set id (b5X V T)) io j->Q (.int .i64 ((cH y (Nd.mk ((Option.getD (kT (dI s (a+1))) xJ).1) ((Option.getD (kT (dI s (a+1))) xJ).2) ks)).2)) h2)))))/\(kT (dI l A)=none-> ∀(a b:Int),aE (Lx id h n7 r8) id fun Z=>aD (Nat.ble 3 Z.length) (Q a3Z ((Lx id h n7 r8).set id (IObj.cells (List.take 2 Z++ [IV.bool true]++List.drop 3 Z))))))))):=by kernel_rfl
theorem b5Z: ∀d xs h Q,vE d xs h Q->aO env 46 xs h Q:=by
 intro d
 induction d with
 |zero=>
  intro xs h Q A;unfold vE at A;split at A
  ·rename_i id;obtain⟨s,a,y,m,io,hr,hs,hg,A,hn⟩:=A;have:=hs.2.2;omega
  ·exact A.elim
 |succ dd ih=>
  intro xs h Q A;unfold vE at A;split at A
  ·rename_i id;obtain⟨s,a,y,m,io,hr,hs,hg,A,hn⟩:=A;refine aN (aF ih (a3Y)) (b5Y dd id s a y m io h Q) ?_;delta a4B Lx Xl b5X xJ zC a3Z a4A tI wW iI;have tn: ∀x:Nat,(x:Int).toNat=x:=AE
   obtain⟨a6,D,b5⟩:=hs;obtain⟨a8,c1⟩:=hg;obtain⟨_,gm,lv,gi,c0⟩:=(show RH h id s a y m io from hr);refine aB gi (K1 rfl (aC (fun c=>by cases c) (fun _=>⟨s,a,y,m,io,false,hr,D,?_⟩)))
   cases hnx:nx s a 40 with
   |false=>
    have hw:=rV a6;refine aC (fun _=>?_) (fun c=>by cases c);refine⟨s,a,y,m,io,hr,⟨a6,D⟩,IM,fun o Z=>?_,fun Z _ _=>?_⟩
    ·have h1:=T9 Z;refine aB gi (bO rfl (aB gi (aA rfl ⟨[],KA.nil,s,a+(dI s a).length,y,m,io,hr.adv gi _ IM,⟨D4 ⟨h1.1,h1.2.1⟩ (fun k A=>by cases A),fun x hx=>(a8 x hx).1,IM,AR _⟩,fun h2 G X f2 k2=>?_⟩)));exact A _ _ _ (by rw [kG,hnx,if_neg IN,Z]) h2 G X (dZ.setId.trans fD.refl f2) k2
    ·exact aB gi (aA rfl (hn a (by rw [kG,hnx,if_neg IN,Z]) _ io (hr.bad gi) dZ.setId fD.refl))
   |true=>
    have b9:=Ea hnx;have hw:=rV (s:=s) (a:=a+1) IM;refine aC (fun c=>by cases c) (fun _=>?_);have r1:=hr.adv gi 1 IM;have g1:(h.set id (.cells [.str s,.int .i64 (IntKind.i64.wrap ((a:Int)+((1:Nat):Int))),.bool false,lv,.map m])).get id=_:=RH.advg 1 IM;refine aB gi (bO rfl (aB gi (aA rfl ⟨s,a+1,y,m,io,r1,⟨IM,D⟩,IM,fun o Z=>?_,fun Z _ _=>?_⟩)))
    rotate_left
    ·exact aB g1 (aA rfl (hn (a+1) (by rw [kG,hnx,if_pos rfl,Z]) _ io (r1.bad g1) (dZ.setId.trans fD.refl dZ.setId) fD.refl))
    have h1:=Kl Z;have eO:(kT (dI s (a+1))).getD (0,0)=o:=by rw [Z];rfl
    have X:=r1.adv g1 (dI s (a+1)).length IM;have O:kG s (dd+1) a y=match wZ s (kG s dd) (s.length+1) (a+1+(dI s (a+1)).length) y []with
     | (p,none)=>(p,none)
     | (p,some (T,ks))=>(p,some (cH T ⟨o.1,o.2,ks⟩)):=by rw [kG,hnx,if_pos rfl,Z];rfl
    simp only [eO];refine aB g1 (bO rfl (aB g1 (aA rfl ⟨⟨(_,io,.nilslice,a+1+(dI s (a+1)).length,y,[],false),IR,IR,IR,IR,IR,⟨⟨X,Xf ⟨KsAt.start hw IM a8,.inl ⟨rfl,rfl⟩⟩,dZ.setId.trans fD.refl dZ.setId,fD.refl⟩,trivial⟩,trivial⟩,?_⟩)));rintro⟨g,j,kv,u,T,ks,b⟩ _ ⟨hC,_⟩;obtain⟨K,hb,Y,oj⟩:=(show rxC id s a y m io dd h g j kv u T ks b from hC);dsimp only
    cases b with
    |true=>
     have K:=(show Is g id s u m j from K);have hb:=(show wZ s (kG s dd) (s.length+1) (a+1+(dI s (a+1)).length) y []=(u,none)from hb);obtain⟨lv2,a9⟩:=K.2.1;rw [hb]at O;refine⟨s,u,T,m,j,true,K,D,aC (fun c=>by cases c) (fun _=>⟨s,u,T,m,j,true,K,D,aC (fun _=>?_) (fun c=>by cases c)⟩)⟩;exact aB a9 (aA rfl (hn u O _ j K.bad (Y.trans oj dZ.setId) oj))
    |false=>
     have K:=(show RH g id s u T m j from K);obtain⟨l,a1⟩:=(show KsAt s (kG s dd) (a+1+(dI s (a+1)).length) y u T ks/\K2 kv ks g id m j h.next from hb);obtain⟨_,b3,c2,z,b0⟩:=(show RH g id s u T m j from K);have b7:=l.le;have b2:=l.yl;have b6:=l.kl;refine⟨s,u,T,m,j,false,K,D,?_⟩
     cases h32:nx s u 32 with
     |true=>
      have a7:=Ea h32;have b4:=l.eq;refine aC (fun _=>?_) (fun c=>by cases c);have rj:=K.adv z 1 IM;refine aB z (bO rfl (aB z (aA rfl ⟨s,u+1,T,m,j,rj,⟨IM,D,?_⟩,⟨l.ok,IM⟩,fun p y3 i e h2 G X f2 o2=>?_,fun p e h2 G X f2 o2=>?_⟩)))
      ·have:=l.ge;omega
      ·have a4:=xF s IM dd (u+1) T p y3 i e;have v2:=a1.setId.step f2 o2;have fg:dZ id m j g h2:=dZ.setId.trans fD.refl f2;have b1:=a4.1.pos;refine lI v2.app IM (fun kk h3 a5 V a3=>?_);have L:=v2.new X.lts (BK Y.1 fg.1) a5 a3;refine⟨(h3,G,_,p,y3,ks++ [i],false),IR,IR,IR,IR,IR,⟨⟨X.frameK L.2.1 V,Xf ⟨l.next h32 e a4.1 a4.2 IM,L.1⟩,(Y.trans oj fg).hf V L.2.2,oj.trans Y.1 o2⟩,trivial⟩,?_⟩;dsimp only;rw [if_neg IN,if_neg IN];omega
      ·have v2:=a1.setId.step f2 o2;have fg:dZ id m j g h2:=dZ.setId.trans fD.refl f2;refine lI v2.app IM (fun kk h3 a5 V a3=>?_);have L:=v2.new X.lts (BK Y.1 fg.1) a5 a3;refine⟨(h3,G,_,p,[],[],true),IR,IR,IR,IR,IR,⟨⟨X.frameK L.2.1 V,Xg (l.fail h32 e),(Y.trans oj fg).hf V L.2.2,oj.trans Y.1 o2⟩,trivial⟩,?_⟩;dsimp only;rw [if_pos rfl,if_neg IN];omega
     |false=>
      have a0:=l.stop h32;refine aC (fun c=>by cases c) (fun _=>⟨s,u,T,m,j,false,K,D,?_⟩)
      cases h41:nx s u 41 with
      |false=>
       rw [h41,if_neg IN]at a0;rw [a0]at O;exact aC (fun _=>aB z (aA rfl (hn u O _ j (K.bad z) (Y.trans oj dZ.setId) oj))) (fun c=>by cases c)
      |true=>
       have a7:=Ea h41;rw [h41,if_pos rfl]at a0;rw [a0]at O;refine aC (fun c=>by cases c) (fun _=>?_);refine aB z (bO rfl (aB z (aA rfl ⟨ks,a1.ka,s,u+1,T,m,j,K.adv z 1 IM,⟨D4 h1 (fun k A=>?_),fun x hx=>(l.ok x hx).1,IM,IM⟩,fun h2 G X f2 o2=>?_⟩)))
       ·have:=l.kb k A;unfold aR
        omega
       ·exact A _ _ _ O h2 G X (Y.trans oj (dZ.setId.trans fD.refl f2)) (oj.trans Y.1 o2)
  ·exact A.elim
def Su:=aT 46 (fun xs h K=> ∃d,vE d xs h K) a3X
theorem a4C:aP env Su:=aF (fun xs h Q g=>g.elim fun d g=>b5Z d xs h Q g) (a3Y)
end Go.Proofs.YtkonebkblgemkaaGreat
end
end
