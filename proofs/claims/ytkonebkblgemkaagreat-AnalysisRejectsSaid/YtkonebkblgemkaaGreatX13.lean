/-
  Texts of this proof, one after the other.
  Conditions: none.
-/
import Derived.Test.YtkonebkblgemkaaGreatX12
set_option linter.unusedVariables false
set_option linter.unusedSimpArgs false
set_option maxRecDepth 100000
set_option maxHeartbeats 4000000
noncomputable section
section
namespace Go.Proofs.YtkonebkblgemkaaGreat
open Go.Pv Go.M14
def e3R(xs:List IV)(h:Heap)(K:KT):Prop:=match xs with
 | [x]=>x=src/\K (.tuple [prg,.agg [.int .i64 0,.int .i64 0]]) h
 |_=>False
theorem g4O: ∀xs h Q,e3R xs h Q->aU env 61 xs h Q:=by
 intro xs h Q g;unfold e3R at g;split at g
 ·rename_i x;obtain⟨rfl,g⟩:=g;exact⟨300,_,h,by kernel_rfl,g⟩
 ·exact g.elim
def f1F:=bB 61 e3R noC
theorem f9K:aT env f1F:=aI g4O (rW env)
def e3S(xs:List IV)(h:Heap)(K:KT):Prop:=match xs with
 | [x]=>x=prg/\K (.tuple [unit,g5R]) h
 |_=>False
theorem g4P: ∀xs h Q,e3S xs h Q->aU env 33 xs h Q:=by
 intro xs h Q g;unfold e3S at g;split at g
 ·rename_i x;obtain⟨rfl,g⟩:=g;exact⟨300,_,h,by kernel_rfl,g⟩
 ·exact g.elim
def f1G:=bB 33 e3S f1F
theorem f9L:aT env f1G:=aI g4P (f9K)
def e3T(xs:List IV)(h:Heap)(K:KT):Prop:=match xs with
 | [x]=>x=gph/\K inv h
 |_=>False
theorem g4Q: ∀xs h Q,e3T xs h Q->aU env 23 xs h Q:=by
 intro xs h Q g;unfold e3T at g;split at g
 ·rename_i x;obtain⟨rfl,g⟩:=g;exact⟨300,_,h,by kernel_rfl,g⟩
 ·exact g.elim
def f1H:=bB 23 e3T f1G
theorem f9M:aT env f1H:=aI g4Q (f9L)
def e3U(xs:List IV)(h:Heap)(K:KT):Prop:=match xs with
 | [x,y]=>(x=gph/\y=inv)/\K (.bool true) h
 |_=>False
theorem g4R: ∀xs h Q,e3U xs h Q->aU env 24 xs h Q:=by
 intro xs h Q g;unfold e3U at g;split at g
 ·rename_i x y;obtain⟨⟨rfl,rfl⟩,g⟩:=g;exact⟨300,_,h,by kernel_rfl,g⟩
 ·exact g.elim
def f1I:=bB 24 e3U f1H
theorem f9N:aT env f1I:=aI g4R (f9M)
def e3V(xs:List IV)(h:Heap)(K:KT):Prop:=match xs with
 | [x,y,z]=>(x= .agg [.int .i64 5,.int .i64 1,.int .i64 1,.int .i64 0]/\y= .vslice none 0 1 2 [.int .i64 0,.int .i64 3]/\z= .vslice none 0 1 1 [.int .i64 4])/\K (.bool true) h
 |_=>False
theorem g4S: ∀xs h Q,e3V xs h Q->aU env 62 xs h Q:=by
 intro xs h Q g;unfold e3V at g;split at g
 ·rename_i x y z;obtain⟨⟨rfl,rfl,rfl⟩,g⟩:=g;exact⟨300,_,h,by kernel_rfl,g⟩
 ·exact g.elim
def f1J:=bB 62 e3V f1I
theorem f9O:aT env f1J:=aI g4S (f9N)
def f9P(xs:List IV)(h:Heap)(K:KT):Prop:=match xs with
 | []=>K (.bool true) h
 |_=>False
def f9Q:=[IV.str [102],iI 0,IV.vslice none 0 14 3 [iI 26,iI 0,IV.vslice none 0 0 1 [],iI 1,iI 0,IV.vslice none 0 0 1 [],iI 1,iI 9,IV.vslice none 0 0 1 [],iI 17,iI 0,IV.vslice none 0 2 1 [iI 1,iI 2],iI 3,iI 0,IV.vslice none 0 0 1 [],iI 3,iI 1,IV.vslice none 0 0 1 [],iI 1,iI 1,IV.vslice none
 0 0 1 [],iI 4,iI 0,IV.vslice none 0 2 1 [iI 5,iI 6],iI 17,iI 0,IV.vslice none 0 2 1 [iI 7,iI 2],iI 31,iI 0,IV.vslice none 0 5 1 [iI 0,iI 1,iI 8,iI 4,iI 7],iI 25,iI 0,IV.vslice none 0 1 1 [iI 9],iI 22,iI 0,IV.vslice none 0 3 1 [iI 3,iI 10,iI 0],iI 25,iI 1,IV.vslice none 0 1 1
 [iI 9],iI 22,iI 0,IV.vslice none 0 3 1 [iI 3,iI 12,iI 1]],iI 13,iI 11]
def f9R:=[iI 5,iI 1,iI 1,iI 0]
def f9S:=[iI 0,iI 3]
def d2U:List UInt8:=[105]
theorem g9Q(h:Heap)(Q:KT):dF (aV f1J) env 25 dV bT bT [] h Q=(
 IV.str [(102:UInt8),(117:UInt8),(110:UInt8),(99:UInt8),(32:UInt8),(102:UInt8),(40:UInt8),(41:UInt8),(32:UInt8),(118:UInt8),(97:UInt8),(114:UInt8),(32:UInt8),(105:UInt8),(32:UInt8),(123:UInt8),(32:UInt8),(119:UInt8),(104:UInt8),(105:UInt8),(108:UInt8),(101:UInt8),(32:UInt8),(40:UInt8),(105:UInt8),(32:UInt8),(60:UInt8),(32:UInt8),(57:UInt8),(41:UInt8),(32:UInt8),(123:UInt8),(32:UInt8),(105:UInt8),(32:UInt8),(61:UInt8),(32:UInt8),(105:UInt8),(32:UInt8),(43:UInt8),(32:UInt8),(49:UInt8),(59:UInt8),(32:UInt8),(125:UInt8),(32:UInt8),(114:UInt8),(101:UInt8),(116:UInt8),(117:UInt8),(114:UInt8),(110:UInt8),(32:UInt8),(105:UInt8),(59:UInt8),(32:UInt8),(125:UInt8)]=src/\IV.agg [.vslice none 0 0 2 [],IV.vslice none 0 1 9 [IV.str [102],IV.vslice none 0 0 1 [],IV.vslice none 0 1 1 [IV.str d2U],IV.vslice none 0 1 17 [iI 4,IV.str [],IV.str [],iI 0,iI 0,iI 0,IV.str [],iI 0,IV.vslice none 0 0 5 [],iI 4,iI 0,IV.str [],iI 17,IV.vslice none 0 2 5 [iI 2,iI 0,IV.str d2U,iI 0,IV.vslice none 0 0 5 [],iI 1,iI 9,IV.str [],iI 0,IV.vslice none 0 0 5 []],IV.vslice none 0 0 5 [],IV.vslice none 0 1 17 [iI 1,IV.str d2U,IV.str [],iI 0,iI 0,iI 0,IV.str [],iI 0,IV.vslice none 0 0 5 [],iI 4,iI 0,IV.str [],iI 4,IV.vslice none 0 2 5 [iI 2,iI 0,IV.str d2U,iI 0,IV.vslice none 0 0 5 [],iI 1,iI 1,IV.str [],iI 0,IV.vslice none 0 0 5 []],IV.vslice none 0 0 5 [],IV.vslice none 0 0 17 [],IV.vslice none 0 0 17 []],IV.vslice none 0 0 17 []],iI 2,iI 0,IV.str d2U,iI 0,IV.vslice none 0 0 5 []]]=prg/\IV.agg f9Q=gph/\(IV.agg f9Q=gph/\IV.vslice none 0 1 3 [iI 1,iI 0,iI 8]=inv)/\(IV.agg f9R=IV.agg f9R/\IV.vslice none 0 1 2 f9S=IV.vslice none 0 1 2 f9S/\IV.vslice none 0 1 1 [iI 4]=IV.vslice none 0 1 1 [iI 4])/\Q (.bool true) h):=by kernel_rfl
theorem g9R: ∀xs h Q,f9P xs h Q->aU env 25 xs h Q:=by
 intro xs h Q g;unfold f9P at g;split at g
 ·skip
  refine aS (f9O) (g9Q h Q) ?_;delta f9Q f9R f9S d2U iI;exact⟨rfl,rfl,rfl,⟨rfl,rfl⟩,⟨rfl,rfl,rfl⟩,g⟩
 ·exact g.elim
end Go.Proofs.YtkonebkblgemkaaGreat
end
section
namespace Go.Proofs.YtkonebkblgemkaaGreat
open Go.Pv Go.M13 Go.M15 Go.M10 Go.M14
def c4Z(xs:List IV)(h:Heap)(K:KT):Prop:=match xs with
 | [x]=>f6B [x] h K
 |_=>False
theorem f9T: ∀xs h Q,c4Z xs h Q->aU env 9 xs h Q:=by
 intro xs h Q g;unfold c4Z at g;split at g
 ·exact g8G _ _ _ g
 ·exact g.elim
def e3W:=bB 9 c4Z f1E
theorem e8V:aT env e3W:=aI f9T (f9J)
def e3X(xs:List IV)(h:Heap)(K:KT):Prop:=match xs with
 | []=>f9P [] h K
 |_=>False
theorem g4T: ∀xs h Q,e3X xs h Q->aU env 25 xs h Q:=by
 intro xs h Q g;unfold e3X at g;split at g
 ·exact g9R _ _ _ g
 ·exact g.elim
def f1K:=bB 25 e3X e3W
theorem f9U:aT env f1K:=aI g4T (e8V)
theorem i1G{cs:List IV}{g:Nat}{K:List UInt8->Prop}{s:List UInt8}(e:cs[g]?=some (.str s))(i:K s):bZ cs g K:=by
 unfold bZ;rw [e];exact i
theorem h9I{g:Gr}(h:GrOk g):LOk g.ns:=⟨by have:=h.ln;omega,fun n i=>(h.gl.ok n i).2⟩
theorem imR{g:Gr}(h:GrOk g): ∀n∈g.ns,bJ n.im:=fun n i=>(h.gl.ok n i).1.2.1
theorem h0A{L:IvC} :List.take ((0+L.length)*3) (L.flatMap nS)=L.flatMap nS:=h1H (by rw [e4G];omega)
theorem i1I{L:IvC}{p:Int×Iv}(h:(L.flatMap nS).length=L.length*3):List.take ((0+L.length+1)*3) (List.take ((0+L.length)*3) ([]++L.flatMap nS)++nS p)=(L++ [p]).flatMap nS:=by
 rw [h3U,h0A,h3M,h1H]
 ·rfl
 ·rw [h1E,h];show _+3<=_;omega
def a8F(g:Gr)(kn:Int->Option Iv):Prop:=GrOk g/\∃r,FixK g.ns kn r
def OvL(g:Heap)(i:IV)(L:IvC):Prop:=(i= .vslice none 1 0 3 []/\L=[]) \/ ∃io,i= .vslice (some io) (L.length*3) L.length 3 (L.flatMap nS)/\0<L.length/\g.get io= .tip (L.length*3)/\io<g.next
theorem OvL.app{g:Heap}{i:IV}{L:IvC}{v:Int}{K:Nat->Nat->Nat->List IV->Heap->Prop}(h:OvL g i L)(r:L.length<=2000000)(j: ∀id e n c g2,OvL g2 (.vslice (some id) e n 3 c) (L++ [(v,aL)])->K id e n c g2):qT g 3 24 i 1 (nS (v,aL)) K:=by
 rcases h with⟨rfl,rfl⟩| ⟨m,rfl,u,p,l⟩
 ·exact⟨⟨rfl,by decide⟩,j _ _ _ _ _ (.inr ⟨g.next,rfl,Nat.one_pos,aR,h1G _⟩)⟩
 ·refine⟨⟨rfl,by omega,p⟩,j _ _ _ _ _ (.inr ⟨m,?_,by simp,?_,l⟩)⟩
  ·rw [h1E,h3M];simp only [h1O,h1U,h2P,h7Z,h3V];rw [show(L.length+(0+1))*3=L.length*3+1*3 by omega]
  ·rw [aH,h1E];simp only [h1O,h1U]
   congr 1
   omega
def rl1(k:Int):Inv':=hJ (List UInt8×Int×Gr×(Int->Option Iv) ×Nat×Heap×IV) (fun x=>[(2,.v (.int .i64 k)),(8,.l 8 0),(9,.v (.vslice none 0 (qJ (aO x.2.2.1.ns) x.2.2.2.1).length 3 ((qJ (aO x.2.2.1.ns) x.2.2.2.1).flatMap nS))),(10,.v x.2.2.2.2.2.2),(38,.v (.vslice none 0 (qJ (aO x.2.2.1.ns) x.2.2.2.1).length 3 ((qJ (aO x.2.2.1.ns) x.2.2.2.1).flatMap nS))),(39,.v (.int .i64 ((qJ (aO x.2.2.1.ns) x.2.2.2.1).length:Int))),(40,.v (.int .i64 (x.2.2.2.2.1:Int)))]) (fun x=>[(8,gC x.1 x.2.1 x.2.2.1)]) (fun x=>x.2.2.2.2.2.1)
 (fun x=>a8F x.2.2.1 x.2.2.2.1/\x.2.2.2.2.1<=(qJ (aO x.2.2.1.ns) x.2.2.2.1).length/\OvL x.2.2.2.2.2.1 x.2.2.2.2.2.2 (a6K ((qJ (aO x.2.2.1.ns) x.2.2.2.1).take x.2.2.2.2.1))) (fun x=>40000-x.2.2.2.2.1)
def rl0(k:Int):Inv':= .or
 (hJ (List UInt8×Int×Gr×(Int->Option Iv) ×Heap) (fun x=>[(2,.v (.int .i64 k)),(8,.l 8 0),(9,.v (.vslice none 0 (qJ (aO x.2.2.1.ns) x.2.2.2.1).length 3 ((qJ (aO x.2.2.1.ns) x.2.2.2.1).flatMap nS))),(10,.v (.vslice none 1 0 3 []))]) (fun x=>[(8,gC x.1 x.2.1 x.2.2.1)]) (fun x=>x.2.2.2.2) (fun x=>a8F x.2.2.1 x.2.2.2.1/\(qJ (aO x.2.2.1.ns) x.2.2.2.1).length=0) (fun x=>0))
 (hJ (List UInt8×Int×Gr×(Int->Option Iv) ×Heap×Nat) (fun x=>[(2,.v (.int .i64 k)),(8,.l 8 0),(9,.v (.vslice none 0 (qJ (aO x.2.2.1.ns) x.2.2.2.1).length 3 ((qJ (aO x.2.2.1.ns) x.2.2.2.1).flatMap nS))),(10,.v (.vslice (some x.2.2.2.2.2) ((a6K (qJ (aO x.2.2.1.ns) x.2.2.2.1)).length*3) (a6K (qJ (aO x.2.2.1.ns) x.2.2.2.1)).length 3 ((a6K (qJ (aO x.2.2.1.ns) x.2.2.2.1)).flatMap nS)))]) (fun x=>[(8,gC x.1 x.2.1 x.2.2.1)]) (fun x=>x.2.2.2.2.1)
  (fun x=>a8F x.2.2.1 x.2.2.2.1/\0< (a6K (qJ (aO x.2.2.1.ns) x.2.2.2.1)).length/\x.2.2.2.2.1.get x.2.2.2.2.2= .tip ((a6K (qJ (aO x.2.2.1.ns) x.2.2.2.1)).length*3)/\x.2.2.2.2.2<x.2.2.2.2.1.next) (fun x=>0))
def rl2(k:Int):Inv':=hJ (List UInt8×Int×Gr×(Int->Option Iv) ×Heap×Nat) (fun x=>[(2,.v (.int .i64 k)),(8,.l 8 0),(10,.v (.vslice (some x.2.2.2.2.2) ((a6K (qJ (aO x.2.2.1.ns) x.2.2.2.1)).length*3) (a6K (qJ (aO x.2.2.1.ns) x.2.2.2.1)).length 3 ((a6K (qJ (aO x.2.2.1.ns) x.2.2.2.1)).flatMap nS)))]) (fun x=>[(8,gC x.1 x.2.1 x.2.2.1)]) (fun x=>x.2.2.2.2.1)
 (fun x=>a8F x.2.2.1 x.2.2.2.1/\0< (a6K (qJ (aO x.2.2.1.ns) x.2.2.2.1)).length/\x.2.2.2.2.1.get x.2.2.2.2.2= .tip ((a6K (qJ (aO x.2.2.1.ns) x.2.2.2.1)).length*3)/\x.2.2.2.2.2<x.2.2.2.2.1.next) (fun x=>0)
def i0N(xs:List IV)(h:Heap)(K:KT):Prop:=match xs with
 | [.vslice none e1 n1 1 c1,.int .i64 w,.int .i64 k]=> ∃l:List Int,(n1=l.length/\c1=l.map (IV.int .i64))/\((∀x∈l,bR x)/\l.length<=9223372036854775807)/\K (.bool true) h
 |_=>False
abbrev z5a(C:List (Int×Iv)):=(∀(p:Int×Iv),p∈C->dB p.2)/\C.length<=1099511627776
def z5b:=TV.l 8 0
def z5c(k:Int):=TV.v (.int .i64 k)
abbrev z5d(j:List UInt8)(l i g:Int):=bL (IV.str j)=true/\bL (iI l)=true/\bL (iI i)=true/\bL (iI g)=true
def z5e:=Int->Option Iv
def z5f:=[iI 1,iI (-9223372036854775808),iI 9223372036854775807]
def z5g:=TV.v (.vslice none 1 0 3 [])
def z5h:=IV.bool false
abbrev z5i:=(0:Int)<4/\(4:Int)<4611686018427387904
def z5j:=IV.bool true
theorem i1J(l:List Int)(w k:Int)(e1:Nat)(h:Heap)(Q:KT):dF (aV f1K) env 5 dV (tK 9 (rl1 k)) (icS (icA 13 (rl0 k) (tK 17 (rl2 k)))) [.vslice none e1 (l).length 1 ((l).map (IV.int .i64)),.int .i64 w,.int .i64 k] h Q=(
 aC (aN [IV.vslice none 0 l.length 1 (List.map (IV.int .i64) l),iI w,iI k]) (aC (true&& (decide (0<=if 30< (l.length:Int)then(30:Int)else(l.length:Int)) &&decide ((if 30< ((l.length):Int)then(30:Int)else(l.length:Int))<=(l.length:Int)))) (∃(u:List Int),(Int.toNat (if 30< (l.length:Int)then(30:Int)else(l.length:Int))-0=u.length/\List.take ((Int.toNat (if 30< (l.length:Int)then(30:Int)else(l.length:Int))-0)*1) (List.drop 0 (List.map (IV.int .i64) l))=List.map (IV.int .i64) u)/\(∀(x:Int),x∈u->bR x)/\∀(ac fc z:List IV),qG ac fc->c1C z->((0:Int)<2/\(2:Int)< (4611686018427387904:Int))/\aC (decide (0<=w% (2:Int)) &&decide (w% (2:Int)<2)) (bZ z ((w% (2:Int)).toNat*5) fun(s0:List UInt8)=>aK .i64 z ((w% (2:Int)).toNat*5+1) fun Y=>bH 3 z ((w% (2:Int)).toNat*(5:Nat)+1+1) fun(i2:Option Nat)(e3 l4:Nat)(V:List IV)=>aK .i64 z ((w% (2:Int)).toNat*5+1+1+1) fun X=>aK .i64 z ((w% (2:Int)).toNat*5+1+1+1+(1:Nat)) fun Z=> ∃(l:List Nd),(l4=l.length/\V=List.flatMap cN l)/\(z5d s0 Y X Z)/\LOk l/\(∀(n:Nd),n∈l->bJ (Nd.im n))/\∀(N:Nat),(∀(m:Nat),m<N->Prod.snd (fM l (aO l) m)=true)->Prod.snd (fM l (aO l) N)=false-> ∃(i:List Nd),∃(C:List (Int×Iv)),(l4=i.length/\V=List.flatMap cN i/\List.length (qJ (aO l) ((fM l (aO l) N).1))=C.length/\List.flatMap nS (qJ (aO l) ((fM l (aO l) N).1))=List.flatMap nS C)/\(z5d s0 Y X Z)/\LOk i/\(∀(n:Nd),n∈i->bJ (Nd.im n))/\(z5a C)/\aM (!e6L i C) (Q z5h h) (∃(j:List Nd),∃(C:List (Int×Iv)),(l4=j.length/\V=List.flatMap cN j/\(0:Nat)=C.length/\[]=List.flatMap nS C)/\(z5d s0 Y X Z)/\LOk j/\(∀(n:Nd),n∈j->bJ (Nd.im n))/\(z5a C)/\aM (!e6L j C) (Q z5h h) ((∃(x:List UInt8×Int×Gr×z5e×Nat×Heap×IV),some (z5c k)=some (z5c k)/\some z5b=some z5b/\some (TV.v (.vslice none 0 ((qJ (aO l) ((fM l (aO l) N).1)).length) 3 (List.flatMap nS (qJ (aO l) ((fM l (aO l) N).1)))))=some (TV.v (.vslice none 0 ((qJ (aO (Gr.ns x.2.2.1)) x.2.2.2.1).length) 3 (List.flatMap nS (qJ (aO (Gr.ns x.2.2.1)) x.2.2.2.1))))/\some z5g=some (TV.v ((x.2.2.2.2.2).2))/\some (TV.v (.vslice none 0 ((qJ (aO l) ((fM l (aO l) N).1)).length) 3 (List.flatMap nS (qJ (aO l) ((fM l (aO l) N).1)))))=some (TV.v (.vslice none 0 ((qJ (aO (Gr.ns (x.2.2.1))) x.2.2.2.1).length) 3 (List.flatMap nS (qJ (aO (Gr.ns x.2.2.1)) x.2.2.2.1))))/\tI (↑((qJ (aO l) ((fM l (aO l) N).1)).length):Int)=tI (↑((qJ (aO (Gr.ns x.2.2.1)) x.2.2.2.1).length):Int)/\tI 0=tI (x.2.2.2.2.1:Int)/\some [IV.str s0,iI Y,IV.vslice i2 e3 l4 3 V,iI X,iI Z]=some [IV.str x.1,iI x.2.1,IV.vslice none 0 ((Gr.ns x.2.2.1).length) 3 (List.flatMap cN (Gr.ns x.2.2.1)),iI (Gr.v x.2.2.1),iI (Gr.st x.2.2.1)]/\Heap.mk PT.nil 0=x.2.2.2.2.2.1/\((GrOk (((x.2).2).1)/\∃(r:Nat),FixK (Gr.ns x.2.2.1) x.2.2.2.1 r)/\x.2.2.2.2.1<=List.length (qJ (aO (Gr.ns x.2.2.1)) x.2.2.2.1)/\(x.2.2.2.2.2.2=IV.vslice none 1 0 3 []/\a6K (List.take x.2.2.2.2.1 (qJ (aO (Gr.ns x.2.2.1)) x.2.2.2.1))=[] \/ ∃(y:Nat),x.2.2.2.2.2.2=IV.vslice (some y) ((a6K (List.take x.2.2.2.2.1 (qJ (aO (Gr.ns x.2.2.1)) x.2.2.2.1))).length*3) ((a6K (List.take x.2.2.2.2.1 (qJ (aO (Gr.ns x.2.2.1)) x.2.2.2.1))).length) 3 (List.flatMap nS (a6K (List.take x.2.2.2.2.1 (qJ (aO (Gr.ns x.2.2.1)) x.2.2.2.1))))/\0< (a6K (List.take x.2.2.2.2.1 (qJ (aO (Gr.ns x.2.2.1)) x.2.2.2.1))).length/\Heap.get x.2.2.2.2.2.1 y=IObj.tip ((a6K (List.take x.2.2.2.2.1 (qJ (aO (Gr.ns x.2.2.1)) x.2.2.2.1))).length*3)/\y<x.2.2.2.2.2.1.next))/\True)/\∀(x:List UInt8×Int×Gr×z5e×Nat×Heap×IV)(b:FF),a8F x.2.2.1 x.2.2.2.1/\x.2.2.2.2.1<=List.length (qJ (aO (Gr.ns x.2.2.1)) x.2.2.2.1)/\OvL x.2.2.2.2.2.1 x.2.2.2.2.2.2 (a6K (List.take ((((x.2.2).2).2).1) (qJ (aO (Gr.ns x.2.2.1)) x.2.2.2.1)))->aM (decide ((x.2.2.2.2.1:Int)< (↑((qJ (aO (Gr.ns x.2.2.1)) (((x.2.2).2).1)).length):Int))) (aC (decide (0<=(x.2.2.2.2.1:Int)) &&decide ((x.2.2.2.2.1:Int)< (↑((qJ (aO (Gr.ns x.2.2.1)) (((x.2.2).2).1)).length):Int))) (aK .i64 (List.flatMap nS (qJ (aO (Gr.ns x.2.2.1)) x.2.2.2.1)) ((x.2.2.2.2.1:Int).toNat*3) fun n8=>aK .i64 (List.flatMap nS (qJ (aO (Gr.ns x.2.2.1)) x.2.2.2.1)) ((x.2.2.2.2.1:Int).toNat*3+1) fun n9=>aK .i64 (List.flatMap nS (qJ (aO (Gr.ns ((x.2.2).1))) x.2.2.2.1)) ((x.2.2.2.2.1:Int).toNat*3+1+1) fun b0=>qT x.2.2.2.2.2.1 3 24 (x.2.2.2.2.2.2) 1 [iI n8,iI (-9223372036854775808),iI 9223372036854775807] fun(a4 a7 a5:Nat)(a2:List IV)(a6:Heap)=> ∃(g:List UInt8×Int×Gr×z5e×Nat×Heap×IV),some (z5c k)=some (z5c k)/\some z5b=some z5b/\some (TV.v (.vslice none 0 ((qJ (aO (Gr.ns x.2.2.1)) x.2.2.2.1).length) 3 (List.flatMap nS (qJ (aO (Gr.ns x.2.2.1)) ((x.2.2.2).1)))))=some (TV.v (.vslice none 0 ((qJ (aO (Gr.ns g.2.2.1)) g.2.2.2.1).length) 3 (List.flatMap nS (qJ (aO (Gr.ns g.2.2.1)) (((g.2.2).2).1)))))/\some (TV.v (.vslice (some a4) a7 a5 3 a2))=some (TV.v g.2.2.2.2.2.2)/\some (TV.v (.vslice none 0 ((qJ (aO (Gr.ns x.2.2.1)) (((x.2.2).2).1)).length) 3 (List.flatMap nS (qJ (aO (Gr.ns x.2.2.1)) x.2.2.2.1))))=some (TV.v (.vslice none 0 ((qJ (aO (Gr.ns g.2.2.1)) ((((g.2).2).2).1)).length) 3 (List.flatMap nS (qJ (aO (Gr.ns g.2.2.1)) g.2.2.2.1))))/\tI (↑((qJ (aO (Gr.ns x.2.2.1)) x.2.2.2.1).length):Int)=tI (↑((qJ (aO (Gr.ns g.2.2.1)) g.2.2.2.1).length):Int)/\tI (wW ((x.2.2.2.2.1:Int)+(1:Int)))=tI (g.2.2.2.2.1:Int)/\some [IV.str x.1,iI x.2.1,IV.vslice none 0 ((Gr.ns x.2.2.1).length) 3 (List.flatMap cN (Gr.ns x.2.2.1)),iI (Gr.v x.2.2.1),iI (Gr.st x.2.2.1)]=some [IV.str g.1,iI g.2.1,IV.vslice none 0 ((Gr.ns ((g.2.2).1)).length) 3 (List.flatMap cN (Gr.ns g.2.2.1)),iI (Gr.v g.2.2.1),iI (Gr.st g.2.2.1)]/\a6=g.2.2.2.2.2.1/\((GrOk g.2.2.1/\∃(r:Nat),FixK (Gr.ns g.2.2.1) g.2.2.2.1 r)/\g.2.2.2.2.1<=List.length (qJ (aO (Gr.ns g.2.2.1)) ((g.2.2.2).1))/\(g.2.2.2.2.2.2=IV.vslice none 1 0 3 []/\a6K (List.take g.2.2.2.2.1 (qJ (aO (Gr.ns g.2.2.1)) ((g.2.2.2).1)))=[] \/ ∃(y:Nat),g.2.2.2.2.2.2=IV.vslice (some y) ((a6K (List.take g.2.2.2.2.1 (qJ (aO (Gr.ns g.2.2.1)) ((g.2.2.2).1)))).length*3) ((a6K (List.take g.2.2.2.2.1 (qJ (aO (Gr.ns g.2.2.1)) g.2.2.2.1))).length) 3 (List.flatMap nS (a6K (List.take ((g.2.2.2.2).1) (qJ (aO (Gr.ns g.2.2.1)) g.2.2.2.1))))/\0< (a6K (List.take g.2.2.2.2.1 (qJ (aO (Gr.ns g.2.2.1)) g.2.2.2.1))).length/\Heap.get g.2.2.2.2.2.1 y=IObj.tip ((a6K (List.take g.2.2.2.2.1 (qJ (aO (Gr.ns g.2.2.1)) (g.2.2.2.1)))).length*3)/\y<g.2.2.2.2.2.1.next))/\(40000:Nat)-g.2.2.2.2.1<40000-x.2.2.2.2.1)) ((∃(g:List UInt8×Int×Gr×z5e×Heap),some (z5c k)=some (z5c k)/\some z5b=some z5b/\some (TV.v (.vslice none 0 ((qJ (aO (Gr.ns x.2.2.1)) x.2.2.2.1).length) 3 (List.flatMap nS (qJ (aO (Gr.ns (x.2.2.1))) x.2.2.2.1))))=some (TV.v (.vslice none 0 ((qJ (aO (Gr.ns g.2.2.1)) g.2.2.2.1).length) 3 (List.flatMap nS (qJ (aO (Gr.ns ((g.2.2).1))) g.2.2.2.1))))/\some (TV.v x.2.2.2.2.2.2)=some z5g/\some [IV.str x.1,iI x.2.1,IV.vslice none 0 ((Gr.ns ((x.2.2).1)).length) 3 (List.flatMap cN (Gr.ns x.2.2.1)),iI (Gr.v x.2.2.1),iI (Gr.st x.2.2.1)]=some [IV.str g.1,iI g.2.1,IV.vslice none 0 ((Gr.ns g.2.2.1).length) 3 (List.flatMap cN (Gr.ns g.2.2.1)),iI (Gr.v g.2.2.1),iI (Gr.st g.2.2.1)]/\Prod.fst ((x.2.2.2.2).2)=g.2.2.2.2/\((GrOk g.2.2.1/\∃(r:Nat),FixK (Gr.ns g.2.2.1) g.2.2.2.1 r)/\List.length (qJ (aO (Gr.ns (((g.2).2).1))) g.2.2.2.1)=0)/\True) \/ ∃(g:List UInt8×Int×Gr×z5e×Heap×Nat),some (z5c k)=some (z5c k)/\some z5b=some z5b/\some (TV.v (.vslice none 0 ((qJ (aO (Gr.ns x.2.2.1)) (x.2.2.2.1)).length) 3 (List.flatMap nS (qJ (aO (Gr.ns x.2.2.1)) x.2.2.2.1))))=some (TV.v (.vslice none 0 ((qJ (aO (Gr.ns g.2.2.1)) ((g.2.2.2).1)).length) 3 (List.flatMap nS (qJ (aO (Gr.ns g.2.2.1)) g.2.2.2.1))))/\some (TV.v x.2.2.2.2.2.2)=some (TV.v (.vslice (some (((g.2.2.2).2).2)) ((a6K (qJ (aO (Gr.ns g.2.2.1)) g.2.2.2.1)).length*3) ((a6K (qJ (aO (Gr.ns g.2.2.1)) g.2.2.2.1)).length) 3 (List.flatMap nS (a6K (qJ (aO (Gr.ns g.2.2.1)) g.2.2.2.1)))))/\some [IV.str x.1,iI x.2.1,IV.vslice none 0 ((Gr.ns x.2.2.1).length) 3 (List.flatMap cN (Gr.ns x.2.2.1)),iI (Gr.v x.2.2.1),iI (Gr.st x.2.2.1)]=some [IV.str g.1,iI g.2.1,IV.vslice none 0 ((Gr.ns g.2.2.1).length) 3 (List.flatMap cN (Gr.ns g.2.2.1)),iI (Gr.v g.2.2.1),iI (Gr.st g.2.2.1)]/\Prod.fst (((((x.2).2).2).2).2)=g.2.2.2.2.1/\((GrOk g.2.2.1/\∃(r:Nat),FixK (Gr.ns g.2.2.1) g.2.2.2.1 r)/\0< (a6K (qJ (aO (Gr.ns (((g.2).2).1))) g.2.2.2.1)).length/\Heap.get g.2.2.2.2.1 g.2.2.2.2.2=IObj.tip ((a6K (qJ (aO (Gr.ns g.2.2.1)) (((g.2.2).2).1))).length*3)/\g.2.2.2.2.2<g.2.2.2.2.1.next)/\True)))))/\((∀(x:List UInt8×Int×Gr×z5e×Heap)(b:FF),a8F x.2.2.1 (((x.2.2).2).1)/\List.length (qJ (aO (Gr.ns x.2.2.1)) x.2.2.2.1)=0-> ∃(l:List Nd),∃(C:List (Int×Iv)),((Gr.ns x.2.2.1).length=l.length/\List.flatMap cN (Gr.ns ((x.2.2).1))=List.flatMap cN l/\(0:Nat)=C.length/\[]=List.flatMap nS C)/\(bL (IV.str x.1)=true/\bL (iI x.2.1)=true/\bL (iI (Gr.v x.2.2.1))=true/\bL (iI (Gr.st x.2.2.1))=true)/\LOk l/\(∀(n:Nd),n∈l->bJ (Nd.im n))/\(z5a C)/\aM (!e6L l C) (Q z5h h) (aM ((↑((qJ (aO (Gr.ns x.2.2.1)) x.2.2.2.1).length):Int)==0) (∃(l:List Nd),∃(C:List (Int×Iv)),((Gr.ns x.2.2.1).length=l.length/\List.flatMap cN (Gr.ns x.2.2.1)=List.flatMap cN l/\(1:Nat)=C.length/\z5f=List.flatMap nS C)/\(bL (IV.str x.1)=true/\bL (iI ((x.2).1))=true/\bL (iI (Gr.v x.2.2.1))=true/\bL (iI (Gr.st x.2.2.1))=true)/\LOk l/\(∀(n:Nd),n∈l->bJ (Nd.im n))/\(z5a C)/\aM (!e6L l C) (Q z5j h) (Q z5h h)) (∃(g:List UInt8×Int×Gr×z5e×Heap×Nat),some (z5c k)=some (z5c k)/\some z5b=some z5b/\some z5g=some (TV.v (.vslice (some g.2.2.2.2.2) ((a6K (qJ (aO (Gr.ns g.2.2.1)) g.2.2.2.1)).length*3) ((a6K (qJ (aO (Gr.ns g.2.2.1)) g.2.2.2.1)).length) 3 (List.flatMap nS (a6K (qJ (aO (Gr.ns g.2.2.1)) g.2.2.2.1)))))/\some [IV.str x.1,iI x.2.1,IV.vslice none 0 ((Gr.ns x.2.2.1).length) 3 (List.flatMap cN (Gr.ns x.2.2.1)),iI (Gr.v x.2.2.1),iI (Gr.st ((x.2.2).1))]=some [IV.str g.1,iI g.2.1,IV.vslice none 0 ((Gr.ns g.2.2.1).length) 3 (List.flatMap cN (Gr.ns g.2.2.1)),iI (Gr.v (((g.2).2).1)),iI (Gr.st g.2.2.1)]/\x.2.2.2.2=g.2.2.2.2.1/\((GrOk g.2.2.1/\∃(r:Nat),FixK (Gr.ns g.2.2.1) ((g.2.2.2).1) r)/\0< (a6K (qJ (aO (Gr.ns g.2.2.1)) g.2.2.2.1)).length/\Heap.get g.2.2.2.2.1 g.2.2.2.2.2=IObj.tip ((a6K (qJ (aO (Gr.ns g.2.2.1)) g.2.2.2.1)).length*3)/\g.2.2.2.2.2<g.2.2.2.2.1.next)/\True)))/\∀(x:List UInt8×Int×Gr×z5e×Heap×Nat)(b:FF),a8F x.2.2.1 x.2.2.2.1/\0< (a6K (qJ (aO (Gr.ns x.2.2.1)) x.2.2.2.1)).length/\Heap.get (((x.2.2.2).2).1) x.2.2.2.2.2=IObj.tip ((a6K (qJ (aO (Gr.ns x.2.2.1)) x.2.2.2.1)).length*3)/\x.2.2.2.2.2< (x.2.2.2.2.1).next-> ∃(l:List Nd),∃(C:List (Int×Iv)),((Gr.ns x.2.2.1).length=l.length/\List.flatMap cN (Gr.ns x.2.2.1)=List.flatMap cN l/\List.length (a6K (qJ (aO (Gr.ns ((x.2.2).1))) x.2.2.2.1))=C.length/\List.flatMap nS (a6K (qJ (aO (Gr.ns x.2.2.1)) x.2.2.2.1))=List.flatMap nS C)/\(bL (IV.str x.1)=true/\bL (iI (x.2.1))=true/\bL (iI (Gr.v x.2.2.1))=true/\bL (iI (Gr.st x.2.2.1))=true)/\LOk l/\(∀(n:Nd),n∈l->bJ (Nd.im n))/\(z5a C)/\aM (!e6L l C) (Q z5h h) (aM ((↑((qJ (aO (Gr.ns x.2.2.1)) x.2.2.2.1).length):Int)==0) (∃(l:List Nd),∃(C:List (Int×Iv)),((Gr.ns x.2.2.1).length=l.length/\List.flatMap cN (Gr.ns x.2.2.1)=List.flatMap cN l/\(1:Nat)=C.length/\z5f=List.flatMap nS C)/\(bL (IV.str x.1)=true/\bL (iI x.2.1)=true/\bL (iI (Gr.v x.2.2.1))=true/\bL (iI (Gr.st x.2.2.1))=true)/\LOk l/\(∀(n:Nd),n∈l->bJ (Nd.im n))/\(z5a C)/\aM (!e6L l C) (Q z5j h) (Q z5h h)) (∃(g:List UInt8×Int×Gr×z5e×Heap×Nat),some (z5c k)=some (z5c k)/\some z5b=some z5b/\some (TV.v (.vslice (some x.2.2.2.2.2) ((a6K (qJ (aO (Gr.ns x.2.2.1)) x.2.2.2.1)).length*3) ((a6K (qJ (aO (Gr.ns x.2.2.1)) x.2.2.2.1)).length) 3 (List.flatMap nS (a6K (qJ (aO (Gr.ns (x.2.2.1))) x.2.2.2.1)))))=some (TV.v (.vslice (some g.2.2.2.2.2) ((a6K (qJ (aO (Gr.ns g.2.2.1)) g.2.2.2.1)).length*(3:Nat)) ((a6K (qJ (aO (Gr.ns g.2.2.1)) g.2.2.2.1)).length) 3 (List.flatMap nS (a6K (qJ (aO (Gr.ns g.2.2.1)) g.2.2.2.1)))))/\some [IV.str (x.1),iI x.2.1,IV.vslice none 0 ((Gr.ns x.2.2.1).length) 3 (List.flatMap cN (Gr.ns x.2.2.1)),iI (Gr.v x.2.2.1),iI (Gr.st ((x.2.2).1))]=some [IV.str g.1,iI g.2.1,IV.vslice none 0 ((Gr.ns g.2.2.1).length) 3 (List.flatMap cN (Gr.ns g.2.2.1)),iI (Gr.v (((g.2).2).1)),iI (Gr.st g.2.2.1)]/\x.2.2.2.2.1=g.2.2.2.2.1/\((GrOk g.2.2.1/\∃(r:Nat),FixK (Gr.ns g.2.2.1) g.2.2.2.1 r)/\0< (a6K (qJ (aO (Gr.ns g.2.2.1)) g.2.2.2.1)).length/\Heap.get g.2.2.2.2.1 ((((g.2.2).2).2).2)=IObj.tip ((a6K (qJ (aO (Gr.ns g.2.2.1)) g.2.2.2.1)).length*3)/\g.2.2.2.2.2<g.2.2.2.2.1.next)/\True)))/\(∀(x:List UInt8×Int×Gr×z5e×Heap×Nat)(b:FF),a8F x.2.2.1 x.2.2.2.1/\0< (a6K (qJ (aO (Gr.ns x.2.2.1)) x.2.2.2.1)).length/\Heap.get x.2.2.2.2.1 x.2.2.2.2.2=IObj.tip ((a6K (qJ (aO (Gr.ns x.2.2.1)) x.2.2.2.1)).length*3)/\Prod.snd (((x.2.2).2).2)<x.2.2.2.2.1.next->aM (Nat.beq ((a6K (qJ (aO (Gr.ns x.2.2.1)) x.2.2.2.1)).length) 0) (z5i/\aM (k% (4:Int)==0) (aC (true&&decide ((0:Int)< (↑((a6K (qJ (aO (Gr.ns x.2.2.1)) x.2.2.2.1)).length):Int))) (aK .i64 (List.flatMap nS (a6K (qJ (aO (Gr.ns x.2.2.1)) x.2.2.2.1))) 0 fun b3=>aK .i64 (List.flatMap nS (a6K (qJ (aO (Gr.ns x.2.2.1)) x.2.2.2.1))) 1 fun b2=>aK .i64 (List.flatMap nS (a6K (qJ (aO (Gr.ns x.2.2.1)) (x.2.2.2.1)))) 2 fun b1=>False)) (aM (k% (4:Int)==1) False (aM (k% (4:Int)==2) False False))) (aC (Nat.ble (((0:Nat)+(a6K (qJ (aO (Gr.ns x.2.2.1)) ((((x.2).2).2).1))).length)*24) 140737488355328) (z5i/\aM (k% (4:Int)==0) (aC (true&&decide (0< (↑((a6K (qJ (aO (Gr.ns x.2.2.1)) x.2.2.2.1)).length):Int))) (aK .i64 (List.flatMap nS (a6K (qJ (aO (Gr.ns x.2.2.1)) x.2.2.2.1))) 0 fun a3=>aK .i64 (List.flatMap nS (a6K (qJ (aO (Gr.ns x.2.2.1)) x.2.2.2.1))) 1 fun(a1:Int)=>aK .i64 (List.flatMap nS (a6K (qJ (aO (Gr.ns x.2.2.1)) x.2.2.2.1))) 2 fun a8=>aF (x.2.2.2.2.1.push (IObj.cells ([]++List.flatMap nS (a6K (qJ (aO (Gr.ns x.2.2.1)) x.2.2.2.1))))) (x.2.2.2.2.1.next) fun T=>aC (true&& (Nat.ble (((0:Nat)+(a6K (qJ (aO (Gr.ns x.2.2.1)) x.2.2.2.1)).length)*3) T.length&&Nat.ble (((0:Nat)+(a6K (qJ (aO (Gr.ns x.2.2.1)) x.2.2.2.1)).length+1)*24) 140737488355328)) (aF (((x.2.2.2.2.1.push (IObj.cells ([]++List.flatMap nS (a6K (qJ (aO (Gr.ns x.2.2.1)) x.2.2.2.1))))).set (x.2.2.2.2.1.next) IObj.dead).push (IObj.cells (List.take (((0:Nat)+(a6K (qJ (aO (Gr.ns x.2.2.1)) x.2.2.2.1)).length)*3) T++ [iI a3,iI a1,iI a8]))) ((((((x.2).2).2).2).1).next+1) fun O=>aC (true&&Nat.ble ((0:Nat)+((0:Nat)+(a6K (qJ (aO (Gr.ns x.2.2.1)) x.2.2.2.1)).length+1)*3) O.length) (∃(l:List Nd),∃(C:List (Int×Iv)),((Gr.ns x.2.2.1).length=l.length/\List.flatMap cN (Gr.ns x.2.2.1)=List.flatMap cN l/\(0:Nat)+(a6K (qJ (aO (Gr.ns x.2.2.1)) x.2.2.2.1)).length+1=C.length/\List.take (((0:Nat)+(a6K (qJ (aO (Gr.ns x.2.2.1)) x.2.2.2.1)).length+1)*3) O=List.flatMap nS C)/\(bL (IV.str x.1)=true/\bL (iI ((x.2).1))=true/\bL (iI (Gr.v x.2.2.1))=true/\bL (iI (Gr.st x.2.2.1))=true)/\LOk l/\(∀(n:Nd),n∈l->bJ (Nd.im n))/\(z5a C)/\aM (!e6L l C) (Q z5j h) (Q z5h h))))) (aM (k% (4:Int)==1) (aC (true&&decide (0< (↑((0:Nat)+(a6K (qJ (aO (Gr.ns x.2.2.1)) x.2.2.2.1)).length):Int))) (aF (x.2.2.2.2.1.push (IObj.cells ([]++List.flatMap nS (a6K (qJ (aO (Gr.ns x.2.2.1)) x.2.2.2.1))))) (x.2.2.2.2.1.next) fun a0=>aK .i64 a0 0 fun a9=>aC (true&&decide (0< (↑((0:Nat)+(a6K (qJ (aO (Gr.ns x.2.2.1)) x.2.2.2.1)).length):Int))) (aF (x.2.2.2.2.1.push (IObj.cells ([]++List.flatMap nS (a6K (qJ (aO (Gr.ns x.2.2.1)) (x.2.2.2.1)))))) (x.2.2.2.2.1.next) fun D=>aC (Nat.ble 1 D.length) (aF ((x.2.2.2.2.1.push (IObj.cells ([]++List.flatMap nS (a6K (qJ (aO (Gr.ns x.2.2.1)) x.2.2.2.1))))).set (x.2.2.2.2.1.next) (IObj.cells (iI (wW (wW (Int.tdiv a9 16)*16))::List.drop 1 D))) (x.2.2.2.2.1.next) fun A=>aC (true&&Nat.ble ((0:Nat)+((0:Nat)+(a6K (qJ (aO (Gr.ns x.2.2.1)) x.2.2.2.1)).length)*(3:Nat)) A.length) (∃(l:List Nd),∃(C:List (Int×Iv)),((Gr.ns x.2.2.1).length=l.length/\List.flatMap cN (Gr.ns x.2.2.1)=List.flatMap cN l/\(0:Nat)+(a6K (qJ (aO (Gr.ns (((x.2).2).1))) x.2.2.2.1)).length=C.length/\List.take (((0:Nat)+(a6K (qJ (aO (Gr.ns x.2.2.1)) x.2.2.2.1)).length)*3) A=List.flatMap nS C)/\(bL (IV.str x.1)=true/\bL (iI x.2.1)=true/\bL (iI (Gr.v x.2.2.1))=true/\bL (iI (Gr.st x.2.2.1))=true)/\LOk l/\(∀(n:Nd),n∈l->bJ (Nd.im n))/\(z5a C)/\aM (!e6L l C) (Q z5j h) (Q z5h h)))))) (aM (k% (4:Int)==2) (aC (true&&decide (0< (↑((0:Nat)+(a6K (qJ (aO (Gr.ns x.2.2.1)) x.2.2.2.1)).length):Int))) (aF (x.2.2.2.2.1.push (IObj.cells ([]++List.flatMap nS (a6K (qJ (aO (Gr.ns x.2.2.1)) x.2.2.2.1))))) (x.2.2.2.2.1.next) fun p=>aC (Nat.ble 3 p.length) (aF ((x.2.2.2.2.1.push (IObj.cells ([]++List.flatMap nS (a6K (qJ (aO (Gr.ns x.2.2.1)) x.2.2.2.1))))).set (x.2.2.2.2.1.next) (IObj.cells (List.take 1 p++ [iI 1,iI 0]++List.drop 3 p))) (x.2.2.2.2.1.next) fun G=>aC (true&&Nat.ble ((0:Nat)+((0:Nat)+(a6K (qJ (aO (Gr.ns ((x.2.2).1))) x.2.2.2.1)).length)*3) G.length) (∃(l:List Nd),∃(C:List (Int×Iv)),((Gr.ns x.2.2.1).length=l.length/\List.flatMap cN (Gr.ns x.2.2.1)=List.flatMap cN l/\(0:Nat)+(a6K (qJ (aO (Gr.ns x.2.2.1)) x.2.2.2.1)).length=C.length/\List.take (((0:Nat)+(a6K (qJ (aO (Gr.ns x.2.2.1)) x.2.2.2.1)).length)*(3:Nat)) G=List.flatMap nS C)/\(bL (IV.str x.1)=true/\bL (iI x.2.1)=true/\bL (iI (Gr.v x.2.2.1))=true/\bL (iI (Gr.st x.2.2.1))=true)/\LOk l/\(∀(n:Nd),n∈l->bJ (Nd.im n))/\(z5a C)/\aM (!e6L l C) (Q z5j h) (Q z5h h))))) (aC (true&&decide (0< (↑((0:Nat)+(a6K (qJ (aO (Gr.ns x.2.2.1)) x.2.2.2.1)).length):Int))) (aF (((x.2.2.2.2).1).push (IObj.cells ([]++List.flatMap nS (a6K (qJ (aO (Gr.ns x.2.2.1)) x.2.2.2.1))))) (x.2.2.2.2.1.next) fun L=>aC (Nat.ble 1 L.length) (aF ((x.2.2.2.2.1.push (IObj.cells ([]++List.flatMap nS (a6K (qJ (aO (Gr.ns x.2.2.1)) x.2.2.2.1))))).set (((((x.2.2).2).2).1).next) (IObj.cells (iI 257::List.drop 1 L))) (x.2.2.2.2.1.next) fun K=>aC (true&&Nat.ble ((0:Nat)+((0:Nat)+(a6K (qJ (aO (Gr.ns x.2.2.1)) x.2.2.2.1)).length)*3) K.length) (∃(l:List Nd),∃(C:List (Int×Iv)),((Gr.ns x.2.2.1).length=l.length/\List.flatMap cN (Gr.ns x.2.2.1)=List.flatMap cN l/\(0:Nat)+(a6K (qJ (aO (Gr.ns x.2.2.1)) x.2.2.2.1)).length=C.length/\List.take (((0:Nat)+(a6K (qJ (aO (Gr.ns x.2.2.1)) x.2.2.2.1)).length)*3) K=List.flatMap nS C)/\(bL (IV.str x.1)=true/\bL (iI x.2.1)=true/\bL (iI (Gr.v x.2.2.1))=true/\bL (iI (Gr.st x.2.2.1))=true)/\LOk l/\(∀(n:Nd),n∈l->bJ (Nd.im n))/\(z5a C)/\aM (!e6L l C) (Q z5j h) (Q z5h h))))))))))/\True)):=by kernel_rfl
theorem i1K: ∀xs h Q,i0N xs h Q->aU env 5 xs h Q:=by
 intro xs h Q hk;unfold i0N at hk;split at hk
 ·rename_i e1 n1 c1 w k;obtain⟨l,⟨rfl,rfl⟩,hb,hk⟩:=hk;refine aS (f9U) (i1J l w k e1 h Q) ?_;delta z5a z5b z5c z5d z5e z5f z5g z5h z5i z5j tI wW iI;have tn: ∀x:Nat,(x:Int).toNat=x:=h0Z
  refine aA (by simp only [aN,bL,cH,h1L,h5U]) ⟨?_,⟨?_,?_⟩,?_,trivial⟩
  ·obtain⟨b2,c3⟩:=hb;have ek:Int.toNat (if 30< (l.length:Int)then 30 else(l.length:Int))=min l.length 30:=by split<;>omega
   rw [ek];refine aA ?_ ⟨l.take (min l.length 30),⟨?_,?_⟩,fun x hx=>b2 x (h4X hx),fun ac fc gc hp hg=>⟨by decide,?_⟩⟩
   ·rw [h2G];exact e6D ⟨by split<;>omega,by split<;>omega⟩
   ·rw [h1Y];omega
   ·rw [h7X,h1W,h4J,h6P]
   have hw:0<=w%2/\w%2<2:=by omega
   obtain⟨nm,np,g,r,a0⟩:=e6M hg (q:=(w%2).toNat) (by omega);have Y:=h9I r;have j:=imR r;have a2:=r.ln;refine aP hw (i1G (a0 0 (by decide)) (bF (a0 1 (by decide)) (sA (a0 2 (by decide)) (bF (a0 3 (by decide)) (bF (a0 4 (by decide)) ⟨g.ns,⟨rfl,rfl⟩,⟨rfl,rfl,rfl,rfl⟩,Y,j,fun N c5 b1=>?_⟩)))));have Z:=h0N j b1;generalize(fM g.ns (aO g.ns) N).1=kn at Z⊢;have y: ∀x∈aO g.ns,kn x.v≠none:=fun x hx=>g4W r.gl Z _ x hx rfl
   have a4:=c6W (aO g.ns) kn;have a3:=b1J g.ns;refine⟨g.ns,qJ (aO g.ns) kn,⟨rfl,rfl,rfl,rfl⟩,⟨rfl,rfl,rfl,rfl⟩,Y,j,⟨(fun p hp=>(Z.ok _ _ (b5Z.1 hp).2).2),by omega⟩,aD (fun c=>by rw [h0Q j Z y]at c;cases c) (fun _=>⟨g.ns,[],⟨rfl,rfl,rfl,rfl⟩,⟨rfl,rfl,rfl,rfl⟩,Y,j,⟨(fun p hp=>by cases hp),by decide⟩,aD (fun c=>by rw [g5K]at c;cases c) (fun _=>⟨⟨(nm,np,g,kn,0,Heap.empty,.vslice none 1 0 3 []),rfl,rfl,rfl,rfl,rfl,rfl,rfl,rfl,rfl,⟨⟨r,_,Z⟩,h1N _,.inl ⟨rfl,rfl⟩⟩,trivial⟩,?_⟩)⟩)⟩;clear a0 Y j r Z y a4 a3 a2;rintro⟨a7,a8,g2,u,i,a1,ov⟩ _ ⟨hO,hi,O⟩;obtain⟨r,r2,Z⟩:=(show a8F g2 u from hO);have Y:=h9I r;have j:=imR r;have a2:=r.ln;have a4:=c6W (aO g2.ns) u;have a3:=b1J g2.ns;have G:=a6L (qJ (aO g2.ns) u);have y: ∀x∈aO g2.ns,u x.v≠none:=fun x hx=>g4W r.gl Z _ x hx rfl
   dsimp only at hi O⊢;refine dW (fun c=>?_) (fun c=>?_)
   ·have m:i< (qJ (aO g2.ns) u).length:=by omega
    have O:=(show OvL a1 ov (a6K ((qJ (aO g2.ns) u).take i))from O);refine aP ⟨by omega,by omega⟩ (bF (by rw [tn];exact vG m 0 (by decide)) (bF (by rw [tn];exact vG m 1 (by decide)) (bF (by rw [tn];exact vG m 2 (by decide)) (OvL.app O (by rw [a6L,h1Y];omega) fun id e n c' h2 ho=>⟨(a7,a8,g2,u,i+1,h2,.vslice (some id) e n 3 c'),rfl,rfl,rfl,rfl,rfl,rfl,(by rw [h0X _ (by omega)];rfl),rfl,rfl,⟨hO,m,?_⟩,by dsimp only;omega⟩))));show OvL h2 _ (a6K ((qJ (aO g2.ns) u).take (i+1)));rw [h1J m,h0D];exact ho
   have O:=(show OvL a1 ov (a6K ((qJ (aO g2.ns) u).take i))from O);rw [h1H (by omega)]at O;rcases O with⟨rfl,e⟩| ⟨io,rfl,h0,ht,m⟩
   ·rw [e]at G;exact .inl ⟨(a7,a8,g2,u,a1),rfl,rfl,rfl,rfl,rfl,rfl,⟨hO,G.symm⟩,trivial⟩
   ·exact .inr ⟨(a7,a8,g2,u,a1,io),rfl,rfl,rfl,rfl,rfl,rfl,⟨hO,h0,ht,m⟩,trivial⟩
  ·rintro⟨b8,c8,g3,a5,c0⟩ _ ⟨hO,h0⟩;obtain⟨r,r3,Z⟩:=(show a8F g3 a5 from hO);have Y:=h9I r;have j:=imR r;have a2:=r.ln;have a4:=c6W (aO g3.ns) a5;have a3:=b1J g3.ns;have G:=a6L (qJ (aO g3.ns) a5);have y: ∀x∈aO g3.ns,a5 x.v≠none:=fun x hx=>g4W r.gl Z _ x hx rfl
   dsimp only at h0⊢;rw [h0];refine⟨g3.ns,[],⟨rfl,rfl,rfl,rfl⟩,⟨rfl,rfl,rfl,rfl⟩,Y,j,⟨(fun p hp=>by cases hp),by decide⟩,aD (fun c=>by rw [g5K]at c;cases c) (fun _=>aD (fun _=>⟨g3.ns,[(1,aL)],⟨rfl,rfl,rfl,rfl⟩,⟨rfl,rfl,rfl,rfl⟩,Y,j,⟨(fun q K=>by rw [h2J.1 K];exact a6M),by decide⟩,by rw [(i0I y h0 _)];exact aD (fun _=>hk) (fun c=>by cases c)⟩) (fun c=>by cases c))⟩
  ·rintro⟨b5,b3,g4,V,b0,b4⟩ _ ⟨hO,h0,ht,m⟩;obtain⟨r,r4,Z⟩:=(show a8F g4 V from hO);have Y:=h9I r;have j:=imR r;have a2:=r.ln;have a4:=c6W (aO g4.ns) V;have a3:=b1J g4.ns;have G:=a6L (qJ (aO g4.ns) V);have y: ∀x∈aO g4.ns,V x.v≠none:=fun x hx=>g4W r.gl Z _ x hx rfl
   dsimp only at h0 ht m⊢;refine⟨g4.ns,a6K (qJ (aO g4.ns) V),⟨rfl,rfl,rfl,rfl⟩,⟨rfl,rfl,rfl,rfl⟩,Y,j,⟨(fun q K=>by rw [b1E K];exact a6M),by omega⟩,aD (fun c=>by rw [h9D j V]at c;cases c) (fun _=>aD (fun c=>by have:=eq_of_beq c;omega) (fun _=>⟨(b5,b3,g4,V,b0,b4),rfl,rfl,rfl,rfl,rfl,⟨hO,h0,ht,m⟩,trivial⟩))⟩
  ·rintro⟨c6,b9,T,X,c2,c7⟩ _ ⟨hO,h0,ht,m⟩;obtain⟨r,r5,Z⟩:=(show a8F T X from hO);have Y:=h9I r;have j:=imR r;have a2:=r.ln;have a4:=c6W (aO T.ns) X;have a3:=b1J T.ns;have G:=a6L (qJ (aO T.ns) X);have y: ∀x∈aO T.ns,X x.v≠none:=fun x hx=>g4W r.gl Z _ x hx rfl
   dsimp only at h0 ht m⊢;clear ht m;have A: ∀q∈a6K (qJ (aO T.ns) X),q.2=aL:=fun q K=>b1E K
   have a6: ∀q∈a6K (qJ (aO T.ns) X),1<=q.1/\q.1<=255:=fun q K=>by
    obtain⟨z,hz,rfl⟩:=h4O.1 K;obtain⟨⟨x,hx,hv⟩,_⟩:=b5Z.1 hz;have:=i1E hx;dsimp only;omega
   generalize a6K (qJ (aO T.ns) X)=F at h0 G A a6⊢
   cases F with
   |nil=>cases h0
   |cons p R=>
    have hp:=a6 p h2C;have a1:=A p h2C;have hR: ∀q∈R,dB q.2:=fun q K=>by rw [A q (h2N _ K)];exact a6M
    have a9:dB p.2:=by rw [a1];exact a6M
    have D:=e4G (p::R);have b6:(0:Int)< ((p::R).length:Int):=by omega
    refine aD (fun c=>?_) (fun _=>?_)
    ·have:=h1I c
     cases this
    refine aA (by rw [h1S];omega) ⟨by decide,?_⟩;have b7:0<=k%4/\k%4<4:=by omega
    refine aD (fun c=>?_) (fun c=>?_)
    ·refine aA (by rw [h2G,decide_eq_true_eq];exact b6) (bF rfl (bF rfl (bF rfl (aB aR (aA ?_ (aB aR (aA ?_ ⟨T.ns,(p::R)++ [p],⟨rfl,rfl,by simp,i1I D⟩,⟨rfl,rfl,rfl,rfl⟩,Y,j,⟨(fun q K=>(h2S.1 K).elim (fun d=>by rw [A q d];exact a6M) (fun d=>by rw [h2J.1 d];exact a9)),by rw [h1E,List.length_singleton];omega⟩,by rw [show e6L T.ns ((p::R)++ [p])=false from i0H (C:=p::R) (Nat.zero_lt_succ _)];exact aD (fun _=>hk) (fun c=>by cases c)⟩)))))))
     ·rw [h2G,h0Y,h1S,h1S,h3U,D];omega
     ·rw [h2G,h1S,h1E,h1Y,h3U,D];simp only [h1O,h1U];omega
    refine aD (fun c=>?_) (fun c=>?_)
    ·refine aA (by rw [h2G,decide_eq_true_eq];omega) (aB aR (bF rfl (aA (by rw [h2G,decide_eq_true_eq];omega) (aB aR (aA ?_ (aB aH (aA ?_ ⟨T.ns,(IntKind.i64.wrap (IntKind.i64.wrap (Int.tdiv p.1 16)*16),p.2)::R,⟨rfl,rfl,h1Q _,h0A (L:=(_,p.2)::R)⟩,⟨rfl,rfl,rfl,rfl⟩,Y,j,⟨(fun q K=>(h2O.1 K).elim (fun d=>by rw [d];exact a9) (fun d=>hR q d)),by have:=G;rw [h1O]at this⊢;omega⟩,by rw [show e6L T.ns ((IntKind.i64.wrap (IntKind.i64.wrap (Int.tdiv p.1 16)*16),p.2)::R)=false from g8B (C:=p::R) (by rw [h4U (show 0<=p.1 by omega),h0X (p.1/16) (by omega),h0X _ (by omega)];exact Or.inl (by omega))];exact aD (fun _=>hk) (fun c=>by cases c)⟩)))))))
     ·rw [h1S,h3U,D,h1O];omega
     ·have e:=D;rw [h2G,h1S];simp only [h3U,h1O,h5N]at e⊢;omega
    refine aD (fun c=>?_) (fun c=>?_)
    ·refine aA (by rw [h2G,decide_eq_true_eq];omega) (aB aR (aA ?_ (aB aH (aA ?_ ⟨T.ns,(p.1,(1,0))::R,⟨rfl,rfl,h1Q _,h0A (L:=(p.1,(1,0))::R)⟩,⟨rfl,rfl,rfl,rfl⟩,Y,j,⟨(fun q K=>(h2O.1 K).elim (fun d=>by rw [d];exact(by unfold dB bJ;dsimp only;decide)) (fun d=>hR q d)),by have:=G;rw [h1O]at this⊢;omega⟩,by rw [show e6L T.ns ((p.1,(1,0))::R)=false from h9G (C:=p::R) (by decide)];exact aD (fun _=>hk) (fun c=>by cases c)⟩))))
     ·rw [h1S,h3U,D,h1O];omega
     ·have e:=D;rw [h2G,h1S];simp only [h3U,h1E,h1Y,h1O,h1U,h5N]at e⊢;omega
    ·refine aA (by rw [h2G,decide_eq_true_eq];omega) (aB aR (aA ?_ (aB aH (aA ?_ ⟨T.ns,(257,p.2)::R,⟨rfl,rfl,h1Q _,h0A (L:=(257,p.2)::R)⟩,⟨rfl,rfl,rfl,rfl⟩,Y,j,⟨(fun q K=>(h2O.1 K).elim (fun d=>by rw [d];exact a9) (fun d=>hR q d)),by have:=G;rw [h1O]at this⊢;omega⟩,by rw [show e6L T.ns ((257,p.2)::R)=false from g8B (C:=p::R) (.inr (by decide))];exact aD (fun _=>hk) (fun c=>by cases c)⟩))))
     ·rw [h1S,h3U,D,h1O];omega
     ·have e:=D;rw [h2G,h1S];simp only [h3U,h1O,h5N]at e⊢;omega
 ·exact hk.elim
end Go.Proofs.YtkonebkblgemkaaGreat
end
section
namespace Go.Proofs.YtkonebkblgemkaaGreat.analysisRejects
open Go.Pv Go.ChangeShapes Go.WideShapes Go.ChangeAt Go.RowKit
theorem g4Z{xs:List IV}(h:OkC Tryz.prog 22 xs): ∃l:List Int,xs=[.vslice none 0 l.length 1 (l.map (IV.int .i64))]/\(∀a∈l,Go.M15.bR a)/\l.length<=9223372036854775807:=by
 obtain⟨n,cs,rfl,j,m⟩:=h.slice_inv Tryz.underlying22;obtain⟨l,rfl,rfl,g⟩:=m.ints Tryz.underlying3;have e:Tryz.prog.cellsOf 3=1:=by kernel_rfl
 exact⟨l,by rw [e],fun a i=>a1X (g a i),by unfold maxLen at j;omega⟩
theorem f9W(O:Os)(j:O.Started)(H:Type)(enc:TypeId×Value->H):
  ReturnsInHanded {} Tryz.checked O 5 .any (Rows.analysisRejectsSpec.pre6 enc Tryz.prog Tryz.f5 Rows.analysisRejectsRow.domain false) (Rows.analysisRejectsSpec.post enc Tryz.prog Tryz.f5 false true false false):=by
 refine returnsInHanded_of_change (C:=Tryz.checked) (s:=Rows.analysisRejectsSpec) own j (by kernel_rfl) Tryz.func5
  (ChangeSpec.witness6 (enc:=enc) (C:=Tryz.checked) (s:=Rows.analysisRejectsSpec) false ⟨#[],#[.slice none 0 0,.int .i64 0,.int .i64 0],[]⟩ 8 (by kernel_rfl) (by kernel_rfl) (by kernel_rfl) (by kernel_rfl)) ?_
 intro W base i ds gs u g V _ _;have D:=V;obtain⟨p,q,l,hV,rfl,a2,a1⟩:=V;have T:DataW.TrodAll enc Tryz.prog W 0 (fun _=>true) true Tryz.f5.params.toList i.toList ds p:=l;rw [Tryz.params5]at T;obtain⟨G,a5,d0,b0,p0,q0,e0,f0,g0,y,l⟩:=trodAll_cons T;obtain⟨Z,a7,d1,a6,p1,q1,e1,f1,g1,a8,A⟩:=trodAll_cons l;obtain⟨X,a9,d2,a4,p2,q2,e2,f2,g2,a0,z⟩:=trodAll_cons A;obtain⟨ez,rfl,rfl⟩:=trodAll_nil z;subst ez;subst f2;subst e2;subst f1;subst e1;subst f0;obtain rfl:i= #[G,Z,X]:=by cases i;simp_all
 obtain⟨a3,K,vr0⟩:=c0R (P:=Tryz.prog) 8 (by kernel_rfl) (g 0 22 G (by kernel_rfl) rfl) y;obtain⟨r,rfl,m⟩:=g4Z K;have w0:=vr0 (.vslice none 0 r.length 1 (r.map (IV.int .i64))) (by kernel_rfl);obtain⟨L,rfl,b1⟩:=e5L Tryz.underlying3 (g 1 3 Z (by kernel_rfl) rfl);have r1:=a1X b1;obtain⟨Y,rfl,b2⟩:=e5L Tryz.underlying3 (g 2 3 X (by kernel_rfl) rfl);have r2:=a1X b2;obtain⟨rfl,rfl⟩:=trodVars_none hV;have hc:aU env 5 [.vslice none 0 r.length 1 (r.map (IV.int .i64)),.int .i64 L,.int .i64 Y] Heap.empty fun v _=>v= .bool true:=i1K _ _ _ ⟨r,⟨rfl,rfl⟩,⟨m.1,m.2⟩,rfl⟩
 refine(d0S (E:=env) d4J g0R hc W (rs:=[G,.int .i64 L,.int .i64 Y]) (g5I W) (cW.cons w0 (cW.cons (.int _ _) (cW.cons (.int _ _) (cW.nil _))))).mono fun e W' ⟨he,hb⟩=>?_
 exact⟨_,he,a6T (tb:=4) e5M (by kernel_rfl) (by kernel_rfl) Tryz.underlying4 D rfl hb rfl rfl rfl⟩
theorem over:Rows.analysisRejectsRow.holds Tryz.pinned (OpenSpec.ofChange Rows.analysisRejectsSpec):=
 OpenClaim.holds_of_wide 5 Tryz.f5 rfl rfl rfl rfl rfl rfl rfl ⟨rfl,rfl,rfl,rfl,rfl⟩ rfl rfl rfl rfl rfl (by kernel_rfl) Tryz.func5 (by kernel_rfl)
  (of_decide_eq_true (by kernel_rfl)) (by unfold Func.isWrapper;first| (rw [if_pos (by decide+kernel)];kernel_rfl)| (rw [if_neg (by decide+kernel)];exact⟨rfl,rfl⟩))
  (fun i g H enc _=>f9W i g H enc)
theorem proved:Rows.AnalysisRejectsSaid:=
 over
end Go.Proofs.YtkonebkblgemkaaGreat.analysisRejects
end
end
