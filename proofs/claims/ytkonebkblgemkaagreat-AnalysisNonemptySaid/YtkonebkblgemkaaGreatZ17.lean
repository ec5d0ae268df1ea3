/-
  Texts of this proof, one after the other.
  Conditions: none.
-/
import Derived.Test.YtkonebkblgemkaaGreatZ16
set_option linter.unusedVariables false
set_option linter.unusedSimpArgs false
set_option maxRecDepth 100000
set_option maxHeartbeats 4000000
noncomputable section
section
namespace Go.Proofs.YtkonebkblgemkaaGreat
open Go.Pv Go.M14
def e3R(xs:List IV)(h:Heap)(K:KT):Prop:=match xs with
 | [x]=>x=src/\K (.tuple [prg,.agg [.int .i64 0,.int .i64 0]]) h
 |_=>False
theorem g4O: ∀xs h Q,e3R xs h Q->aU env 61 xs h Q:=by
 intro xs h Q hk;unfold e3R at hk;split at hk
 ·rename_i x;obtain⟨rfl,hk⟩:=hk;exact⟨300,_,h,by kernel_rfl,hk⟩
 ·exact hk.elim
def f1F:=bB 61 e3R noC
theorem f9K:aT env f1F:=aI g4O (rW env)
def e3S(xs:List IV)(h:Heap)(K:KT):Prop:=match xs with
 | [x]=>x=prg/\K (.tuple [unit,g5R]) h
 |_=>False
theorem g4P: ∀xs h Q,e3S xs h Q->aU env 33 xs h Q:=by
 intro xs h Q hk;unfold e3S at hk;split at hk
 ·rename_i x;obtain⟨rfl,hk⟩:=hk;exact⟨300,_,h,by kernel_rfl,hk⟩
 ·exact hk.elim
def f1G:=bB 33 e3S f1F
theorem f9L:aT env f1G:=aI g4P (f9K)
def e3T(xs:List IV)(h:Heap)(K:KT):Prop:=match xs with
 | [x]=>x=gph/\K inv h
 |_=>False
theorem g4Q: ∀xs h Q,e3T xs h Q->aU env 23 xs h Q:=by
 intro xs h Q hk;unfold e3T at hk;split at hk
 ·rename_i x;obtain⟨rfl,hk⟩:=hk;exact⟨300,_,h,by kernel_rfl,hk⟩
 ·exact hk.elim
def f1H:=bB 23 e3T f1G
theorem f9M:aT env f1H:=aI g4Q (f9L)
def e3U(xs:List IV)(h:Heap)(K:KT):Prop:=match xs with
 | [x,y]=>(x=gph/\y=inv)/\K (.bool true) h
 |_=>False
theorem g4R: ∀xs h Q,e3U xs h Q->aU env 24 xs h Q:=by
 intro xs h Q hk;unfold e3U at hk;split at hk
 ·rename_i x y;obtain⟨⟨rfl,rfl⟩,hk⟩:=hk;exact⟨300,_,h,by kernel_rfl,hk⟩
 ·exact hk.elim
def f1I:=bB 24 e3U f1H
theorem f9N:aT env f1I:=aI g4R (f9M)
def e3V(xs:List IV)(h:Heap)(K:KT):Prop:=match xs with
 | [x,y,z]=>(x= .agg [.int .i64 5,.int .i64 1,.int .i64 1,.int .i64 0]/\y= .vslice none 0 1 2 [.int .i64 0,.int .i64 3]/\z= .vslice none 0 1 1 [.int .i64 4])/\K (.bool true) h
 |_=>False
theorem g4S: ∀xs h Q,e3V xs h Q->aU env 62 xs h Q:=by
 intro xs h Q hk;unfold e3V at hk;split at hk
 ·rename_i x y z;obtain⟨⟨rfl,rfl,rfl⟩,hk⟩:=hk;exact⟨300,_,h,by kernel_rfl,hk⟩
 ·exact hk.elim
def f1J:=bB 62 e3V f1I
theorem f9O:aT env f1J:=aI g4S (f9N)
def f9P(xs:List IV)(h:Heap)(K:KT):Prop:=match xs with
 | []=>K (.bool true) h
 |_=>False
def f9Q:=[IV.str [102],iI 0,IV.vslice none 0 14 3 [iI 26,iI 0,IV.vslice none 0 0 1 [],iI 1,iI 0,IV.vslice none 0 0 1 [],iI 1,iI 9,IV.vslice none 0 0 1 [],iI 17,iI 0,IV.vslice none 0 2 1 [iI 1,iI 2],iI 3,iI 0,IV.vslice none 0 0 1 [],iI 3,iI 1,IV.vslice none 0 0 1 [],iI 1,iI 1,IV.vslice none
 0 0 1 [],iI 4,iI 0,IV.vslice none 0 2 1 [iI 5,iI 6],iI 17,iI 0,IV.vslice none 0 2 1 [iI 7,iI 2],iI 31,iI 0,IV.vslice none 0 5 1 [iI 0,iI 1,iI 8,iI 4,iI 7],iI 25,iI 0,IV.vslice none 0 1 1 [iI 9],iI 22,iI 0,IV.vslice none 0 3 1 [iI 3,iI 10,iI 0],iI 25,iI 1,IV.vslice none 0 1 1
 [iI 9],iI 22,iI 0,IV.vslice none 0 3 1 [iI 3,iI 12,iI 1]],iI 13,iI 11]
def f9R:=[iI 5,iI 1,iI 1,iI 0]
def f9S:=[iI 0,iI 3]
def d2U:List UInt8:=[105]
theorem g9Q(h:Heap)(Q:KT):dF (aV f1J) env 25 dV bT bT [] h Q=(
 IV.str [(102:UInt8),(117:UInt8),(110:UInt8),(99:UInt8),(32:UInt8),(102:UInt8),(40:UInt8),(41:UInt8),(32:UInt8),(118:UInt8),(97:UInt8),(114:UInt8),(32:UInt8),(105:UInt8),(32:UInt8),(123:UInt8),(32:UInt8),(119:UInt8),(104:UInt8),(105:UInt8),(108:UInt8),(101:UInt8),(32:UInt8),(40:UInt8),(105:UInt8),(32:UInt8),(60:UInt8),(32:UInt8),(57:UInt8),(41:UInt8),(32:UInt8),(123:UInt8),(32:UInt8),(105:UInt8),(32:UInt8),(61:UInt8),(32:UInt8),(105:UInt8),(32:UInt8),(43:UInt8),(32:UInt8),(49:UInt8),(59:UInt8),(32:UInt8),(125:UInt8),(32:UInt8),(114:UInt8),(101:UInt8),(116:UInt8),(117:UInt8),(114:UInt8),(110:UInt8),(32:UInt8),(105:UInt8),(59:UInt8),(32:UInt8),(125:UInt8)]=src/\IV.agg [.vslice none 0 0 2 [],IV.vslice none (0:Nat) (1:Nat) 9 [IV.str [102],IV.vslice none 0 0 1 [],IV.vslice none 0 1 1 [IV.str d2U],IV.vslice none 0 1 17 [iI 4,IV.str [],IV.str [],iI 0,iI (0:Int),iI 0,IV.str [],iI 0,IV.vslice none 0 0 5 [],iI 4,iI 0,IV.str [],iI 17,IV.vslice none 0 2 5 [iI (2:Int),iI 0,IV.str d2U,iI 0,IV.vslice none 0 0 5 [],iI 1,iI 9,IV.str [],iI 0,IV.vslice none 0 0 5 []],IV.vslice none (0:Nat) 0 5 [],IV.vslice none 0 1 17 [iI 1,IV.str d2U,IV.str [],iI 0,iI 0,iI 0,IV.str [],iI 0,IV.vslice none 0 0 (5:Nat) [],iI 4,iI 0,IV.str [],iI 4,IV.vslice none 0 2 5 [iI 2,iI 0,IV.str d2U,iI 0,IV.vslice none 0 0 (5:Nat) [],iI 1,iI 1,IV.str [],iI 0,IV.vslice none 0 0 5 []],IV.vslice none 0 0 5 [],IV.vslice none 0 0 17 [],IV.vslice none 0 0 17 []],IV.vslice none 0 0 17 []],iI 2,iI 0,IV.str d2U,iI 0,IV.vslice none 0 0 5 []]]=prg/\IV.agg f9Q=gph/\(IV.agg f9Q=gph/\IV.vslice none 0 1 3 [iI 1,iI 0,iI 8]=inv)/\(IV.agg f9R=IV.agg f9R/\IV.vslice none 0 1 2 f9S=IV.vslice none 0 1 2 f9S/\IV.vslice none 0 1 1 [iI (4:Int)]=IV.vslice none 0 1 1 [iI 4])/\Q (.bool true) h):=by kernel_rfl
theorem g9R: ∀xs h Q,f9P xs h Q->aU env 25 xs h Q:=by
 intro xs h Q hk;unfold f9P at hk;split at hk
 ·skip
  refine aS (f9O) (g9Q h Q) ?_;delta f9Q f9R f9S d2U iI;exact⟨rfl,rfl,rfl,⟨rfl,rfl⟩,⟨rfl,rfl,rfl⟩,hk⟩
 ·exact hk.elim
end Go.Proofs.YtkonebkblgemkaaGreat
end
section
namespace Go.Proofs.YtkonebkblgemkaaGreat
open Go.Pv Go.M13 Go.M15 Go.M10 Go.M14
def c4Z(xs:List IV)(h:Heap)(K:KT):Prop:=match xs with
 | [x]=>f6B [x] h K
 |_=>False
theorem f9T: ∀xs h Q,c4Z xs h Q->aU env 9 xs h Q:=by
 intro xs h Q hk;unfold c4Z at hk;split at hk
 ·exact g8G _ _ _ hk
 ·exact hk.elim
def e3W:=bB 9 c4Z f1E
theorem e8V:aT env e3W:=aI f9T (f9J)
def e3X(xs:List IV)(h:Heap)(K:KT):Prop:=match xs with
 | []=>f9P [] h K
 |_=>False
theorem g4T: ∀xs h Q,e3X xs h Q->aU env 25 xs h Q:=by
 intro xs h Q hk;unfold e3X at hk;split at hk
 ·exact g9R _ _ _ hk
 ·exact hk.elim
def f1K:=bB 25 e3X e3W
theorem f9U:aT env f1K:=aI g4T (e8V)
theorem g4U{cs:List IV}{off:Nat}{K:List UInt8->Prop}{s:List UInt8}(e:cs[off]?=some (.str s))(hk:K s):bZ cs off K:=by
 unfold bZ;rw [e];exact hk
theorem GrOk.lok{g:Gr}(h:GrOk g):LOk g.ns:=⟨by have:=h.ln;omega,fun n hn=>(h.gl.ok n hn).2⟩
theorem GrOk.im{g:Gr}(h:GrOk g): ∀n∈g.ns,bJ n.im:=fun n hn=>(h.gl.ok n hn).1.2.1
def nl1(m:List Int)(Z:IvS):Inv':=hJ (List UInt8×Int×Gr×IvS×Nat) (fun x=>[(2,.v (.vslice none 0 (m).length 1 ((m).map (IV.int .i64)))),(3,.v (.vslice none 0 (Z).length 2 ((Z).flatMap cR))),(10,.l 10 0),(12,.v (.vslice none 0 (x.2.2.2.1).length 2 ((x.2.2.2.1).flatMap cR))),(41,.v (.int .i64 (x.2.2.2.1.length:Int))),(42,.v (.int .i64 (x.2.2.2.2:Int)))]) (fun x=>[(10,gC x.1 x.2.1 x.2.2.1)]) (fun _=>Heap.empty)
 (fun x=>GrOk x.2.2.1/\(∀i,i<x.2.2.2.1.length->okI (x.2.2.2.1.getD i (0,0)))/\x.2.2.2.2<=x.2.2.2.1.length/\x.2.2.2.1.length<=2000) (fun x=>x.2.2.2.1.length-x.2.2.2.2)
def nl2:Inv':=hJ (IvS×Nat) (fun x=>[(14,.v (.vslice none 0 (x.1).length 2 ((x.1).flatMap cR))),(70,.v (.int .i64 (x.1.length:Int))),(71,.v (.int .i64 (x.2:Int)))]) (fun _=>[]) (fun _=>Heap.empty)
 (fun x=>(∀i,i<x.1.length->okI (x.1.getD i (0,0)))/\x.2<=x.1.length/\x.1.length<=2000) (fun x=>x.1.length-x.2)
def f1L(xs:List IV)(h:Heap)(K:KT):Prop:=match xs with
 | [.vslice none e1 n1 1 c1,.int .i64 w,.vslice none e2 n2 1 c2,.vslice none e3 n3 2 c3]=> ∃(l m:List Int)(Z:IvS),(n1=l.length/\c1=l.map (IV.int .i64)/\n2=m.length/\c2=m.map (IV.int .i64)/\n3=Z.length/\c3=Z.flatMap cR)/\((∀x∈l,bR x)/\l.length<=9223372036854775807/\(∀x∈m,bR x)/\∀r∈Z,dB r)/\K (.bool true) h
 |_=>False
def z7a(Z:IvS):=TV.v (.vslice none 0 Z.length 2 (List.flatMap cR Z))
def z7b:=IV.int .i64
def z7c:=((0:Int),(0:Int))
def z7d:=TV.l 10 0
theorem g4X(l m:List Int)(w:Int)(Z:IvS)(e1 e2 e3:Nat)(h:Heap)(Q:KT):dF (aV f1K) env 7 dV (icA 9 (nl1 m Z) (tK 18 nl2)) bT [.vslice none e1 (l).length 1 ((l).map (IV.int .i64)),.int .i64 w,.vslice none e2 (m).length 1 ((m).map (IV.int .i64)),.vslice none e3 (Z).length 2 ((Z).flatMap cR)] h Q=(
 aC (aN [IV.vslice none 0 l.length 1 (List.map z7b l),iI w,IV.vslice none 0 m.length 1 (List.map z7b m),IV.vslice none 0 Z.length 2 (List.flatMap cR Z)]) (aC (true&& (decide (0<=if 25< (↑(l.length):Int)then(25:Int)else(↑l.length:Int)) &&decide ((if 25< (↑l.length:Int)then(25:Int)else(↑l.length:Int))<=(↑l.length:Int)))) (∃(l_1:List Int),(Int.toNat (if 25< (↑l.length:Int)then(25:Int)else(↑l.length:Int))-0=l_1.length/\List.take ((Int.toNat (if 25< (↑l.length:Int)then(25:Int)else(↑l.length:Int))-0)*1) (List.drop 0 (List.map z7b l))=List.map z7b l_1)/\(∀(x:Int),x∈l_1->bR x)/\∀(ac fc gc:List IV),qG ac fc->c1C gc->((0:Int)<2/\(2:Int)<4611686018427387904)/\aC (decide (0<=w% (2:Int)) &&decide (w% (2:Int)<2)) (bZ gc ((w% (2:Int)).toNat*5) fun(s0:List UInt8)=>aK .i64 gc ((w% (2:Int)).toNat*5+(1:Nat)) fun n1=>bH 3 gc ((w% (2:Int)).toNat*5+1+1) fun(i2:Option Nat)(e3 l4:Nat)(c5:List IV)=>aK .i64 gc ((w% (2:Int)).toNat*5+1+1+1) fun n6=>aK .i64 gc ((w% (2:Int)).toNat*5+1+1+1+1) fun n7=> ∃(l:List Nd),(l4=l.length/\c5=List.flatMap cN l)/\(bL (IV.str s0)=true/\bL (iI n1)=true/\bL (iI n6)=true/\bL (iI n7)=true)/\LOk l/\(∀(n:Nd),n∈l->bJ (Nd.im n))/\∀(N:Nat),(∀(m:Nat),m<N->Prod.snd (fM l (aO l) m)=true)->Prod.snd (fM l (aO l) N)=false-> ∃(l_2:List Nd),∃(C:List (Int×Iv)),(l4=l_2.length/\c5=List.flatMap cN l_2/\List.length (qJ (aO l) ((fM l (aO l) N).1))=C.length/\List.flatMap nS (qJ (aO l) ((fM l (aO l) N).1))=List.flatMap nS C)/\LOk l_2/\(∀(n:Nd),n∈l_2->bJ (Nd.im n))/\((∀(p:Int×Iv),p∈C->dB p.2)/\C.length<=1099511627776)/\aM ((↑l_2.length:Int) !=(↑l4:Int)) (Q (.bool false) h) ((∃(x:List UInt8×Int×Gr×IvS×Nat),some (TV.v (.vslice none 0 m.length 1 (List.map z7b m)))=some (TV.v (.vslice none 0 m.length 1 (List.map z7b m)))/\some (z7a Z)=some (z7a Z)/\some z7d=some z7d/\some (TV.v (.vslice none (0:Nat) l_2.length (2:Nat) (List.flatMap cR (rG l_2 (lP C)))))=some (TV.v (.vslice none 0 x.2.2.2.1.length 2 (List.flatMap cR x.2.2.2.1)))/\tI (↑(l_2.length):Int)=tI (↑x.2.2.2.1.length:Int)/\tI 0=tI (↑x.2.2.2.2:Int)/\some [IV.str s0,iI n1,IV.vslice i2 e3 l4 (3:Nat) c5,iI n6,iI n7]=some [IV.str x.1,iI x.2.1,IV.vslice none 0 ((Gr.ns x.2.2.1).length) 3 (List.flatMap cN (Gr.ns x.2.2.1)),iI (Gr.v x.2.2.1),iI (Gr.st x.2.2.1)]/\Heap.mk PT.nil 0=Heap.mk PT.nil 0/\(GrOk x.2.2.1/\(∀(i:Nat),i<x.2.2.2.1.length->okI (List.getD x.2.2.2.1 i z7c))/\x.2.2.2.2<=x.2.2.2.1.length/\x.2.2.2.1.length<=2000)/\True)/\∀(x:List UInt8×Int×Gr×IvS×Nat)(b:FF),GrOk x.2.2.1/\(∀(i:Nat),i<x.2.2.2.1.length->okI (List.getD x.2.2.2.1 i z7c))/\x.2.2.2.2<=x.2.2.2.1.length/\List.length x.2.2.2.1<=2000->aM (decide ((↑x.2.2.2.2:Int)< (↑x.2.2.2.1.length:Int))) (aC (decide (0<=(↑x.2.2.2.2:Int)) &&decide ((↑(x.2.2.2.2):Int)< (↑x.2.2.2.1.length:Int))) (aK .i64 (List.flatMap cR x.2.2.2.1) ((↑x.2.2.2.2:Int).toNat*2+0) fun(n8:Int)=>aC (decide (0<=(↑x.2.2.2.2:Int)) &&decide ((↑x.2.2.2.2:Int)< (↑x.2.2.2.1.length:Int))) (aK .i64 (List.flatMap cR x.2.2.2.1) ((↑x.2.2.2.2:Int).toNat*2+1) fun n9=>aM (decide (n8>n9)) (Q (.bool false) h) (∃(x_1:List UInt8×Int×Gr×IvS×Nat),some (TV.v (.vslice none 0 m.length 1 (List.map z7b m)))=some (TV.v (.vslice none (0:Nat) m.length (1:Nat) (List.map z7b m)))/\some (z7a Z)=some (z7a Z)/\some z7d=some z7d/\some (TV.v (.vslice none 0 x.2.2.2.1.length 2 (List.flatMap cR x.2.2.2.1)))=some (TV.v (.vslice none (0:Nat) x_1.2.2.2.1.length (2:Nat) (List.flatMap cR x_1.2.2.2.1)))/\tI (↑x.2.2.2.1.length:Int)=tI (↑(x_1.2.2.2.1.length):Int)/\tI (wW ((↑x.2.2.2.2:Int)+1))=tI (↑x_1.2.2.2.2:Int)/\some [IV.str (x.1),iI x.2.1,IV.vslice none 0 ((Gr.ns x.2.2.1).length) 3 (List.flatMap cN (Gr.ns x.2.2.1)),iI (Gr.v x.2.2.1),iI (Gr.st ((x.2.2).1))]=some [IV.str x_1.1,iI x_1.2.1,IV.vslice none 0 ((Gr.ns x_1.2.2.1).length) 3 (List.flatMap cN (Gr.ns x_1.2.2.1)),iI (Gr.v (((x_1.2).2).1)),iI (Gr.st x_1.2.2.1)]/\Heap.mk PT.nil 0=Heap.mk PT.nil 0/\(GrOk x_1.2.2.1/\(∀(i:Nat),i<x_1.2.2.2.1.length->okI (List.getD ((((x_1.2).2).2).1) i z7c))/\x_1.2.2.2.2<=x_1.2.2.2.1.length/\x_1.2.2.2.1.length<=2000)/\x_1.2.2.2.1.length- (((x_1.2).2).2).2<x.2.2.2.1.length-x.2.2.2.2)))) (∃(m_1:List Int),∃(Z_1:List Iv),(m.length=m_1.length/\List.map z7b m=List.map z7b m_1/\Z.length=Z_1.length/\List.flatMap cR Z=List.flatMap cR Z_1)/\((∀(x:Int),x∈m_1->bR x)/\∀(r:Iv),r∈Z_1->dB r)/\∀(C:IvC),(∀(p:Int×Iv),p∈C->dB p.2)->C.length<=4-> ∃(l:List Nd),∃(C_1:List (Int×Iv)),((Gr.ns x.2.2.1).length=l.length/\List.flatMap cN (Gr.ns (x.2.2.1))=List.flatMap cN l/\C.length=C_1.length/\List.flatMap nS C=List.flatMap nS C_1)/\LOk l/\(∀(n:Nd),n∈l->bJ (Nd.im n))/\((∀(p:Int×Iv),p∈C_1->dB p.2)/\C_1.length<=1099511627776)/\aM ((↑l.length:Int) !=(↑((Gr.ns x.2.2.1).length):Int)) (Q (.bool false) h) ((∃(x:IvS×Nat),some (TV.v (.vslice none 0 l.length 2 (List.flatMap cR (rG l (lP C_1)))))=some (TV.v (.vslice none 0 x.1.length 2 (List.flatMap cR x.1)))/\tI (↑l.length:Int)=tI (↑x.1.length:Int)/\tI 0=tI (↑x.2:Int)/\Heap.mk PT.nil 0=Heap.mk PT.nil 0/\((∀(i:Nat),i<x.1.length->okI (List.getD x.1 i z7c))/\x.2<=x.1.length/\x.1.length<=2000)/\True)/\∀(x:IvS×Nat)(b:FF),(∀(i:Nat),i<x.1.length->okI (List.getD x.1 i z7c))/\x.2<=List.length (x.1)/\x.1.length<=2000->aM (decide ((↑x.2:Int)< (↑x.1.length:Int))) (aC (decide (0<=(↑x.2:Int)) &&decide ((↑x.2:Int)< (↑x.1.length:Int))) (aK .i64 (List.flatMap cR x.1) ((↑x.2:Int).toNat*2+0) fun n10=>aC (decide (0<=(↑x.2:Int)) &&decide ((↑x.2:Int)< (↑x.1.length:Int))) (aK .i64 (List.flatMap cR x.1) ((↑x.2:Int).toNat*2+1) fun(n11:Int)=>aM (decide (n10>n11)) (Q (.bool false) h) (∃(x_1:IvS×Nat),some (TV.v (.vslice none 0 x.1.length 2 (List.flatMap cR x.1)))=some (TV.v (.vslice none 0 x_1.1.length 2 (List.flatMap cR x_1.1)))/\tI (↑x.1.length:Int)=tI (↑x_1.1.length:Int)/\tI (wW ((↑x.2:Int)+1))=tI (↑x_1.2:Int)/\Heap.mk PT.nil 0=Heap.mk PT.nil 0/\((∀(i:Nat),i<x_1.1.length->okI (List.getD x_1.1 i z7c))/\x_1.2<=x_1.1.length/\x_1.1.length<=2000)/\x_1.1.length-x_1.2<x.1.length-x.2)))) (Q (.bool true) h)))))))):=by kernel_rfl
theorem g4Y: ∀xs h Q,f1L xs h Q->aU env 7 xs h Q:=by
 intro xs h Q hk;unfold f1L at hk;split at hk
 ·rename_i e1 n1 c1 w e2 n2 c2 e3 n3 c3;obtain⟨l,m,Z,⟨rfl,rfl,rfl,rfl,rfl,rfl⟩,hb,hk⟩:=hk;refine aS (f9U) (g4X l m w Z e1 e2 e3 h Q) ?_;delta z7a z7b z7c z7d tI wW iI;have tn: ∀x:Nat,(x:Int).toNat=x:=h0Z
  obtain⟨hlb,hll,hm,hZ⟩:=hb;have ek:Int.toNat (if 25< (l.length:Int)then 25 else(l.length:Int))=min l.length 25:=by split<;>omega
  rw [ek];refine aA (by simp only [aN,bL,cH,xL,h1L,h5U]) (aA ?_ ⟨l.take (min l.length 25),⟨?_,?_⟩,fun x hx=>hlb x (h4X hx),fun ac fc gc hp hg=>⟨by decide,?_⟩⟩)
  ·rw [h2G];exact e6D ⟨by split<;>omega,by split<;>omega⟩
  ·rw [h1Y];omega
  ·rw [h7X,h1W,h4J,h6P]
  have hw:0<=w%2/\w%2<2:=by omega
  obtain⟨nm,np,g,hG,hat⟩:=e6M hg (q:=(w%2).toNat) (by omega);have hL:=GrOk.lok hG;have him:=GrOk.im hG;refine aP hw (g4U (hat 0 (by decide)) (bF (hat 1 (by decide)) (sA (hat 2 (by decide)) (bF (hat 3 (by decide)) (bF (hat 4 (by decide)) ⟨g.ns,⟨rfl,rfl⟩,⟨rfl,rfl,rfl,rfl⟩,hL,him,fun N hN1 hN2=>⟨g.ns,qJ (aO g.ns) (fM g.ns (aO g.ns) N).1,⟨rfl,rfl,rfl,rfl⟩,hL,him,⟨fun p hp=>(b1I him N _ _ (b5Z.1 hp).2).2,?_⟩,aD (fun c=>by rw [bne_iff_ne]at c;exact absurd rfl c) (fun _=>⟨⟨(nm,np,g,rG g.ns (lP (qJ (aO g.ns) (fM g.ns (aO g.ns) N).1)),0),rfl,rfl,rfl,(by rw [lH]),(by rw [lH]),rfl,rfl,rfl,⟨hG,?_,h1N _,?_⟩,trivial⟩,?_⟩)⟩⟩)))))
  ·have h1:=c6W (aO g.ns) (fM g.ns (aO g.ns) N).1;have h2:=b1J g.ns;have h3:=hG.ln;omega
  ·dsimp only;rw [lH];exact a4E him (a4J fun p hp=>(b1I him N _ _ (b5Z.1 hp).2).2)
  ·dsimp only;rw [lH];exact hG.ln
  clear hat hL him hG;rintro⟨nm2,np2,g2,R,i⟩ _ ⟨hG,hR,hi,hRl⟩;dsimp only at hG hR hi hRl⊢;have hL:=GrOk.lok hG;have him:=GrOk.im hG;refine dW (fun c=>?_) (fun c=>?_)
  ·have hlt:i<R.length:=by omega
   have h1:=(hR i hlt).1;rw [cQ hlt]at h1;exact aP ⟨by omega,by omega⟩ (bF (by rw [tn];exact(a3X hlt).1) (aP ⟨by omega,by omega⟩ (bF (by rw [tn];exact(a3X hlt).2) (dW (fun c2=>absurd c2 (by omega)) (fun _=>⟨(nm2,np2,g2,R,i+1),rfl,rfl,rfl,rfl,rfl,(by rw [h0X _ (by omega)];rfl),rfl,rfl,⟨hG,hR,hlt,hRl⟩,by dsimp only;omega⟩)))))
  refine⟨m,Z,⟨rfl,rfl,rfl,rfl⟩,⟨hm,hZ⟩,fun C hC1 hC2=>⟨g2.ns,C,⟨rfl,rfl,rfl,rfl⟩,hL,him,⟨hC1,by omega⟩,aD (fun c=>by rw [bne_iff_ne]at c;exact absurd rfl c) (fun _=>⟨⟨(rG g2.ns (lP C),0),(by rw [lH]),(by rw [lH]),rfl,rfl,⟨?_,h1N _,?_⟩,trivial⟩,?_⟩)⟩⟩
  ·dsimp only;rw [lH];exact a4E him (a4J hC1)
  ·dsimp only;rw [lH];exact hG.ln
  rintro⟨S,j⟩ _ ⟨hS,hj,hSl⟩;dsimp only at hS hj hSl⊢;refine dW (fun c=>?_) (fun c=>hk);have hlt:j<S.length:=by omega
  have h1:=(hS j hlt).1;rw [cQ hlt]at h1;exact aP ⟨by omega,by omega⟩ (bF (by rw [tn];exact(a3X hlt).1) (aP ⟨by omega,by omega⟩ (bF (by rw [tn];exact(a3X hlt).2) (dW (fun c2=>absurd c2 (by omega)) (fun _=>⟨(S,j+1),rfl,rfl,(by rw [h0X _ (by omega)];rfl),rfl,⟨hS,hlt,hSl⟩,by dsimp only;omega⟩)))))
 ·exact hk.elim
end Go.Proofs.YtkonebkblgemkaaGreat
end
section
namespace Go.Proofs.YtkonebkblgemkaaGreat.analysisNonempty
open Go.Pv Go.ChangeShapes Go.WideShapes Go.ChangeAt Go.RowKit
theorem g4Z{xs:List IV}(h:OkC Tryz.prog 22 xs): ∃l:List Int,xs=[.vslice none 0 l.length 1 (l.map (IV.int .i64))]/\(∀a∈l,Go.M15.bR a)/\l.length<=9223372036854775807:=by
 obtain⟨n,cs,rfl,hn,he⟩:=h.slice_inv Tryz.underlying22;obtain⟨l,rfl,rfl,hl⟩:=he.ints Tryz.underlying3;have e:Tryz.prog.cellsOf 3=1:=by kernel_rfl
 exact⟨l,by rw [e],fun a ha=>a1X (hl a ha),by unfold maxLen at hn;omega⟩
theorem g9S{xs:List IV}(h:OkC Tryz.prog 54 xs): ∃z0 z1:Int,xs=[.int .i64 z0,.int .i64 z1]/\IntKind.i64.has z0/\IntKind.i64.has z1:=by
 have h0:=h.struct_inv Tryz.underlying54;obtain⟨ys0,zs0,e0,a0,h1⟩:=OkF.cons_inv h0;obtain⟨z0,rfl,b0⟩:=a0.int_inv Tryz.underlying2;obtain⟨ys1,zs1,e1,a1,h2⟩:=OkF.cons_inv h1;obtain⟨z1,rfl,b1⟩:=a1.int_inv Tryz.underlying2;obtain rfl:=OkF.nil_inv h2;subst e1;subst e0;exact⟨z0,z1,rfl,b0,b1⟩
theorem g9T{xs:List IV}(h:OkC Tryz.prog 60 xs): ∃H:List (Int×Int),xs=[.vslice none 0 H.length 2 (H.flatMap Go.M14.cR)]/\∀r∈H,Go.M14.dB r:=by
 obtain⟨n,cs,rfl,hn,he⟩:=h.slice_inv Tryz.underlying60;obtain⟨H,rfl,rfl,hg⟩:=he.list (c:=Go.M14.cR) (good:=fun r=>Go.M14.dB r) (fun ys hy=>by
  obtain⟨z0,z1,rfl,b0,b1⟩:=g9S hy;exact⟨(z0,z1),rfl,a1X b0,a1X b1⟩)
 have e:Tryz.prog.cellsOf 54=2:=by kernel_rfl
 exact⟨H,by rw [e],hg⟩
theorem f9W(os:Os)(started:os.Started)(H:Type)(enc:TypeId×Value->H):
  ReturnsInHanded {} Tryz.checked os 7 .any (Rows.analysisNonemptySpec.pre6 enc Tryz.prog Tryz.f7 Rows.analysisNonemptyRow.domain false) (Rows.analysisNonemptySpec.post enc Tryz.prog Tryz.f7 false true false false):=by
 refine returnsInHanded_of_change (C:=Tryz.checked) (s:=Rows.analysisNonemptySpec) own started (by kernel_rfl) Tryz.func7
  (ChangeSpec.witness6 (enc:=enc) (C:=Tryz.checked) (s:=Rows.analysisNonemptySpec) false ⟨#[],#[.slice none 0 0,.int .i64 0,.slice none 0 0,.slice none 0 0],[]⟩ 8 (by kernel_rfl) (by kernel_rfl) (by kernel_rfl) (by kernel_rfl)) ?_
 intro W base args ds gs before hval hW _ _;have hW':=hW;obtain⟨p,q,hA0,hV,rfl,hfz,hnd⟩:=hW;have hA:DataW.TrodAll enc Tryz.prog W 0 (fun _=>true) true Tryz.f7.params.toList args.toList ds p:=hA0;rw [Tryz.params7]at hA;obtain⟨v0,vs0,d0,ds0,p0,q0,e0,f0,g0,tr0,hA0⟩:=trodAll_cons hA;obtain⟨v1,vs1,d1,ds1,p1,q1,e1,f1,g1,tr1,hA1⟩:=trodAll_cons hA0;obtain⟨v2,vs2,d2,ds2,p2,q2,e2,f2,g2,tr2,hA2⟩:=trodAll_cons hA1;obtain⟨v3,vs3,d3,ds3,p3,q3,e3,f3,g3,tr3,hA3⟩:=trodAll_cons hA2;obtain⟨ez,rfl,rfl⟩:=trodAll_nil hA3;subst ez;subst f3;subst e3;subst f2;subst e2;subst f1;subst e1;subst f0;obtain rfl:args= #[v0,v1,v2,v3]:=by cases args;simp_all
 obtain⟨xs0,ok0,vr0⟩:=c0R (P:=Tryz.prog) 8 (by kernel_rfl) (hval 0 22 v0 (by kernel_rfl) rfl) tr0;obtain⟨l0,rfl,hl0⟩:=g4Z ok0;have w0:=vr0 (.vslice none 0 l0.length 1 (l0.map (IV.int .i64))) (by kernel_rfl);obtain⟨n1,rfl,b1⟩:=e5L Tryz.underlying3 (hval 1 3 v1 (by kernel_rfl) rfl);have r1:=a1X b1;obtain⟨xs2,ok2,vr2⟩:=c0R (P:=Tryz.prog) 8 (by kernel_rfl) (hval 2 22 v2 (by kernel_rfl) rfl) tr2;obtain⟨l2,rfl,hl2⟩:=g4Z ok2;have w2:=vr2 (.vslice none 0 l2.length 1 (l2.map (IV.int .i64))) (by kernel_rfl);obtain⟨xs3,ok3,vr3⟩:=c0R (P:=Tryz.prog) 8 (by kernel_rfl) (hval 3 60 v3 (by kernel_rfl) rfl) tr3;obtain⟨H3,rfl,hh3⟩:=g9T ok3;have w3:=vr3 (.vslice none 0 H3.length 2 (H3.flatMap Go.M14.cR)) (by kernel_rfl);obtain⟨rfl,rfl⟩:=trodVars_none hV;have hc:aU env 7 [.vslice none 0 l0.length 1 (l0.map (IV.int .i64)),.int .i64 n1,.vslice none 0 l2.length 1 (l2.map (IV.int .i64)),.vslice none 0 H3.length 2 (H3.flatMap Go.M14.cR)] Heap.empty fun v _=>v= .bool true:=g4Y _ _ _ ⟨l0,l2,H3,⟨rfl,rfl,rfl,rfl,rfl,rfl⟩,⟨hl0.1,hl0.2,hl2.1,hh3⟩,rfl⟩
 refine(d0S (E:=env) d4J g0R hc W (rs:=[v0,.int .i64 n1,v2,v3]) (g5I W) (cW.cons w0 (cW.cons (.int _ _) (cW.cons w2 (cW.cons w3 (cW.nil _)))))).mono fun e W' ⟨he,hb⟩=>?_
 exact⟨_,he,a6T (tb:=4) e5M (by kernel_rfl) (by kernel_rfl) Tryz.underlying4 hW' rfl hb rfl rfl rfl⟩
theorem over:Rows.analysisNonemptyRow.holds Tryz.pinned (OpenSpec.ofChange Rows.analysisNonemptySpec):=
 OpenClaim.holds_of_wide 7 Tryz.f7 rfl rfl rfl rfl rfl rfl rfl ⟨rfl,rfl,rfl,rfl,rfl⟩ rfl rfl rfl rfl rfl (by kernel_rfl) Tryz.func7 (by kernel_rfl)
  (of_decide_eq_true (by kernel_rfl)) (by unfold Func.isWrapper;first| (rw [if_pos (by decide+kernel)];kernel_rfl)| (rw [if_neg (by decide+kernel)];exact⟨rfl,rfl⟩))
  (fun os started H enc _=>f9W os started H enc)
theorem proved:Rows.AnalysisNonemptySaid:=
 over
end Go.Proofs.YtkonebkblgemkaaGreat.analysisNonempty
end
end
