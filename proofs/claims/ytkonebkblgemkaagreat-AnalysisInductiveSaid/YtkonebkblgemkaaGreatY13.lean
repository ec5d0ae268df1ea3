/-
  Texts of this proof, one after the other.
  Conditions: none.
-/
import Derived.Test.YtkonebkblgemkaaGreatY12
set_option linter.unusedVariables false
set_option linter.unusedSimpArgs false
set_option maxRecDepth 100000
set_option maxHeartbeats 4000000
noncomputable section
section
namespace Go.Proofs.YtkonebkblgemkaaGreat
open Go.Pv Go.M14
def e3R(xs:List IV)(h:Heap)(K:KT):Prop:=match xs with
 | [x]=>x=src/\K (.tuple [prg,.agg [.int .i64 0,.int .i64 0]]) h
 |_=>False
theorem g4O: ∀xs h Q,e3R xs h Q->aU env 61 xs h Q:=by
 intro xs h Q g;unfold e3R at g;split at g
 ·rename_i x;obtain⟨rfl,g⟩:=g;exact⟨300,_,h,by kernel_rfl,g⟩
 ·exact g.elim
def f1F:=bB 61 e3R noC
theorem f9K:aT env f1F:=aI g4O (rW env)
def e3S(xs:List IV)(h:Heap)(K:KT):Prop:=match xs with
 | [x]=>x=prg/\K (.tuple [unit,g5R]) h
 |_=>False
theorem g4P: ∀xs h Q,e3S xs h Q->aU env 33 xs h Q:=by
 intro xs h Q g;unfold e3S at g;split at g
 ·rename_i x;obtain⟨rfl,g⟩:=g;exact⟨300,_,h,by kernel_rfl,g⟩
 ·exact g.elim
def f1G:=bB 33 e3S f1F
theorem f9L:aT env f1G:=aI g4P (f9K)
def e3T(xs:List IV)(h:Heap)(K:KT):Prop:=match xs with
 | [x]=>x=gph/\K inv h
 |_=>False
theorem g4Q: ∀xs h Q,e3T xs h Q->aU env 23 xs h Q:=by
 intro xs h Q g;unfold e3T at g;split at g
 ·rename_i x;obtain⟨rfl,g⟩:=g;exact⟨300,_,h,by kernel_rfl,g⟩
 ·exact g.elim
def f1H:=bB 23 e3T f1G
theorem f9M:aT env f1H:=aI g4Q (f9L)
def e3U(xs:List IV)(h:Heap)(K:KT):Prop:=match xs with
 | [x,y]=>(x=gph/\y=inv)/\K (.bool true) h
 |_=>False
theorem g4R: ∀xs h Q,e3U xs h Q->aU env 24 xs h Q:=by
 intro xs h Q g;unfold e3U at g;split at g
 ·rename_i x y;obtain⟨⟨rfl,rfl⟩,g⟩:=g;exact⟨300,_,h,by kernel_rfl,g⟩
 ·exact g.elim
def f1I:=bB 24 e3U f1H
theorem f9N:aT env f1I:=aI g4R (f9M)
def e3V(xs:List IV)(h:Heap)(K:KT):Prop:=match xs with
 | [x,y,z]=>(x= .agg [.int .i64 5,.int .i64 1,.int .i64 1,.int .i64 0]/\y= .vslice none 0 1 2 [.int .i64 0,.int .i64 3]/\z= .vslice none 0 1 1 [.int .i64 4])/\K (.bool true) h
 |_=>False
theorem g4S: ∀xs h Q,e3V xs h Q->aU env 62 xs h Q:=by
 intro xs h Q g;unfold e3V at g;split at g
 ·rename_i x y z;obtain⟨⟨rfl,rfl,rfl⟩,g⟩:=g;exact⟨300,_,h,by kernel_rfl,g⟩
 ·exact g.elim
def f1J:=bB 62 e3V f1I
theorem f9O:aT env f1J:=aI g4S (f9N)
def f9P(xs:List IV)(h:Heap)(K:KT):Prop:=match xs with
 | []=>K (.bool true) h
 |_=>False
def f9Q:=[IV.str [102],iI 0,IV.vslice none 0 14 3 [iI 26,iI 0,IV.vslice none 0 0 1 [],iI 1,iI 0,IV.vslice none 0 0 1 [],iI 1,iI 9,IV.vslice none 0 0 1 [],iI 17,iI 0,IV.vslice none 0 2 1 [iI 1,iI 2],iI 3,iI 0,IV.vslice none 0 0 1 [],iI 3,iI 1,IV.vslice none 0 0 1 [],iI 1,iI 1,IV.vslice none
 0 0 1 [],iI 4,iI 0,IV.vslice none 0 2 1 [iI 5,iI 6],iI 17,iI 0,IV.vslice none 0 2 1 [iI 7,iI 2],iI 31,iI 0,IV.vslice none 0 5 1 [iI 0,iI 1,iI 8,iI 4,iI 7],iI 25,iI 0,IV.vslice none 0 1 1 [iI 9],iI 22,iI 0,IV.vslice none 0 3 1 [iI 3,iI 10,iI 0],iI 25,iI 1,IV.vslice none 0 1 1
 [iI 9],iI 22,iI 0,IV.vslice none 0 3 1 [iI 3,iI 12,iI 1]],iI 13,iI 11]
def f9R:=[iI 5,iI 1,iI 1,iI 0]
def f9S:=[iI 0,iI 3]
def d2U:List UInt8:=[105]
theorem g9Q(h:Heap)(Q:KT):dF (aV f1J) env 25 dV bT bT [] h Q=(
 IV.str [(102:UInt8),(117:UInt8),(110:UInt8),(99:UInt8),(32:UInt8),(102:UInt8),(40:UInt8),(41:UInt8),(32:UInt8),(118:UInt8),(97:UInt8),(114:UInt8),(32:UInt8),(105:UInt8),(32:UInt8),(123:UInt8),(32:UInt8),(119:UInt8),(104:UInt8),(105:UInt8),(108:UInt8),(101:UInt8),(32:UInt8),(40:UInt8),(105:UInt8),(32:UInt8),(60:UInt8),(32:UInt8),(57:UInt8),(41:UInt8),(32:UInt8),(123:UInt8),(32:UInt8),(105:UInt8),(32:UInt8),(61:UInt8),(32:UInt8),(105:UInt8),(32:UInt8),(43:UInt8),(32:UInt8),(49:UInt8),(59:UInt8),(32:UInt8),(125:UInt8),(32:UInt8),(114:UInt8),(101:UInt8),(116:UInt8),(117:UInt8),(114:UInt8),(110:UInt8),(32:UInt8),(105:UInt8),(59:UInt8),(32:UInt8),(125:UInt8)]=src/\IV.agg [.vslice none 0 0 2 [],IV.vslice none 0 1 9 [IV.str [102],IV.vslice none 0 0 1 [],IV.vslice none 0 1 1 [IV.str d2U],IV.vslice none 0 1 17 [iI 4,IV.str [],IV.str [],iI 0,iI 0,iI 0,IV.str [],iI 0,IV.vslice none 0 0 5 [],iI 4,iI 0,IV.str [],iI 17,IV.vslice none 0 2 5 [iI 2,iI 0,IV.str d2U,iI 0,IV.vslice none 0 0 5 [],iI 1,iI 9,IV.str [],iI 0,IV.vslice none 0 0 5 []],IV.vslice none 0 0 5 [],IV.vslice none 0 1 17 [iI 1,IV.str d2U,IV.str [],iI 0,iI 0,iI 0,IV.str [],iI 0,IV.vslice none 0 0 5 [],iI 4,iI 0,IV.str [],iI 4,IV.vslice none 0 2 5 [iI 2,iI 0,IV.str d2U,iI 0,IV.vslice none 0 0 5 [],iI 1,iI 1,IV.str [],iI 0,IV.vslice none 0 0 5 []],IV.vslice none 0 0 5 [],IV.vslice none 0 0 17 [],IV.vslice none 0 0 17 []],IV.vslice none 0 0 17 []],iI 2,iI 0,IV.str d2U,iI 0,IV.vslice none 0 0 5 []]]=prg/\IV.agg f9Q=gph/\(IV.agg f9Q=gph/\IV.vslice none 0 1 3 [iI 1,iI 0,iI 8]=inv)/\(IV.agg f9R=IV.agg f9R/\IV.vslice none 0 1 2 f9S=IV.vslice none 0 1 2 f9S/\IV.vslice none 0 1 1 [iI 4]=IV.vslice none 0 1 1 [iI 4])/\Q (.bool true) h):=by kernel_rfl
theorem g9R: ∀xs h Q,f9P xs h Q->aU env 25 xs h Q:=by
 intro xs h Q g;unfold f9P at g;split at g
 ·skip
  refine aS (f9O) (g9Q h Q) ?_;delta f9Q f9R f9S d2U iI;exact⟨rfl,rfl,rfl,⟨rfl,rfl⟩,⟨rfl,rfl,rfl⟩,g⟩
 ·exact g.elim
end Go.Proofs.YtkonebkblgemkaaGreat
end
section
namespace Go.Proofs.YtkonebkblgemkaaGreat
open Go.Pv Go.M13 Go.M15 Go.M10 Go.M14
def c4Z(xs:List IV)(h:Heap)(K:KT):Prop:=match xs with
 | [x]=>f6B [x] h K
 |_=>False
theorem f9T: ∀xs h Q,c4Z xs h Q->aU env 9 xs h Q:=by
 intro xs h Q g;unfold c4Z at g;split at g
 ·exact g8G _ _ _ g
 ·exact g.elim
def e3W:=bB 9 c4Z f1E
theorem e8V:aT env e3W:=aI f9T (f9J)
def e3X(xs:List IV)(h:Heap)(K:KT):Prop:=match xs with
 | []=>f9P [] h K
 |_=>False
theorem g4T: ∀xs h Q,e3X xs h Q->aU env 25 xs h Q:=by
 intro xs h Q g;unfold e3X at g;split at g
 ·exact g9R _ _ _ g
 ·exact g.elim
def f1K:=bB 25 e3X e3W
theorem f9U:aT env f1K:=aI g4T (e8V)
theorem i0B{cs:List IV}{g:Nat}{K:List UInt8->Prop}{s:List UInt8}(e:cs[g]?=some (.str s))(i:K s):bZ cs g K:=by
 unfold bZ;rw [e];exact i
theorem i0C{g:Gr}(h:GrOk g):LOk g.ns:=⟨by have:=h.ln;omega,fun n i=>(h.gl.ok n i).2⟩
theorem imI{g:Gr}(h:GrOk g): ∀n∈g.ns,bJ n.im:=fun n i=>(h.gl.ok n i).1.2.1
def d1P(g:Gr)(kn:Int->Option Iv):Prop:=GrOk g/\∃r,FixK g.ns kn r
def il1:Inv':=hJ (List UInt8×Int×Gr×(Int->Option Iv) ×Nat) (fun x=>[(6,.l 6 0),(7,.v (.vslice none 0 (qJ (aO x.2.2.1.ns) x.2.2.2.1).length 3 ((qJ (aO x.2.2.1.ns) x.2.2.2.1).flatMap nS))),(8,.v (.int .i64 (a4C x.2.2.1.ns x.2.2.2.2:Int))),(24,.v (.vslice none 0 (x.2.2.1.ns).length 3 ((x.2.2.1.ns).flatMap cN))),(25,.v (.int .i64 (x.2.2.1.ns.length:Int))),(26,.v (.int .i64 (x.2.2.2.2:Int)))]) (fun x=>[(6,gC x.1 x.2.1 x.2.2.1)]) (fun _=>Heap.empty)
 (fun x=>d1P x.2.2.1 x.2.2.2.1/\x.2.2.2.2<=x.2.2.1.ns.length) (fun x=>x.2.2.1.ns.length-x.2.2.2.2)
def il2:Inv':=hJ (List UInt8×Int×Gr×(Int->Option Iv) ×Nat) (fun x=>[(6,.l 6 0),(7,.v (.vslice none 0 (qJ (aO x.2.2.1.ns) x.2.2.2.1).length 3 ((qJ (aO x.2.2.1.ns) x.2.2.2.1).flatMap nS))),(8,.v (.int .i64 (a4C x.2.2.1.ns x.2.2.1.ns.length:Int))),(42,.v (.int .i64 ((qJ (aO x.2.2.1.ns) x.2.2.2.1).length:Int))),(43,.v (.int .i64 (x.2.2.2.2:Int)))]) (fun x=>[(6,gC x.1 x.2.1 x.2.2.1)]) (fun _=>Heap.empty)
 (fun x=>d1P x.2.2.1 x.2.2.2.1/\x.2.2.2.2<=(qJ (aO x.2.2.1.ns) x.2.2.2.1).length) (fun x=>40000-x.2.2.2.2)
def il3:Inv':=hJ (List UInt8×Int×Gr×(Int->Option Iv) ×Nat×Nat) (fun x=>[(6,.l 6 0),(7,.v (.vslice none 0 (qJ (aO x.2.2.1.ns) x.2.2.2.1).length 3 ((qJ (aO x.2.2.1.ns) x.2.2.2.1).flatMap nS))),(8,.v (.int .i64 (a4C x.2.2.1.ns x.2.2.1.ns.length:Int))),(11,.v (.int .i64 (x.2.2.2.2.1:Int))),(12,.v (.int .i64 (x.2.2.2.2.2:Int))),(42,.v (.int .i64 ((qJ (aO x.2.2.1.ns) x.2.2.2.1).length:Int))),(43,.v (.int .i64 (x.2.2.2.2.1:Int)))]) (fun x=>[(6,gC x.1 x.2.1 x.2.2.1)]) (fun _=>Heap.empty)
 (fun x=>d1P x.2.2.1 x.2.2.2.1/\x.2.2.2.2.1< (qJ (aO x.2.2.1.ns) x.2.2.2.1).length/\x.2.2.2.2.2<=x.2.2.2.2.1) (fun x=>(40000-x.2.2.2.2.1)*40000+(39999-x.2.2.2.2.2))
def h9F(xs:List IV)(h:Heap)(K:KT):Prop:=match xs with
 | [.vslice none e1 n1 1 c1,.int .i64 w]=> ∃l:List Int,(n1=l.length/\c1=l.map (IV.int .i64))/\((∀x∈l,bR x)/\l.length<=9223372036854775807)/\K (.bool true) h
 |_=>False
def z4a(g:List UInt8×Int×Gr×(Int->Option Iv) ×Nat):=Gr.ns g.2.2.1
def z4b:=TV.l 6 0
def z4e(g:List UInt8×Int×Gr×(Int->Option Iv) ×Nat):=g.2.2.1
def z4c(g:List UInt8×Int×Gr×(Int->Option Iv) ×Nat):=qJ (aO (Gr.ns (z4e g))) g.2.2.2.1
def z4d:=Int->Option Iv
def z4f:=TV.v (.int .i64 0)
def z4g(g:List UInt8×Int×Gr×(Int->Option Iv) ×Nat):=g.2.2.2
def h9R(x:List UInt8×Int×Gr×(Int->Option Iv) ×Nat)(i:Int):Prop:= ∃(g:List UInt8×Int×Gr×z4d×Nat),some z4b=some z4b/\some (TV.v (.vslice none 0 ((qJ (aO (Gr.ns x.2.2.1)) x.2.2.2.1).length) 3 (List.flatMap nS (qJ (aO (Gr.ns x.2.2.1)) x.2.2.2.1))))=some (TV.v (.vslice none 0 ((qJ (aO (z4a g)) ((z4g g).1)).length) 3 (List.flatMap
 nS (qJ (aO (z4a g)) ((z4g g).1)))))/\tI (i)=tI (↑(a4C (z4a g) ((z4g g).2)):Int)/\some (TV.v (.vslice none 0 ((Gr.ns x.2.2.1).length) 3 (List.flatMap cN (Gr.ns x.2.2.1))))=some (TV.v (.vslice none 0 ((z4a g).length) 3 (List.flatMap cN (z4a g))))/\tI (↑(List.length
 (Gr.ns x.2.2.1)):Int)=tI (↑((z4a g).length):Int)/\tI (wW ((x.2.2.2.2:Int)+1))=tI (↑((z4g g).2):Int)/\some [IV.str x.1,iI x.2.1,IV.vslice none 0 ((Gr.ns x.2.2.1).length) 3 (List.flatMap cN (Gr.ns x.2.2.1)),iI (Gr.v x.2.2.1),iI (Gr.st x.2.2.1)]=some [IV.str g.1,
 iI g.2.1,IV.vslice none 0 ((z4a g).length) 3 (List.flatMap cN (z4a g)),iI (Gr.v g.2.2.1),iI (Gr.st g.2.2.1)]/\Heap.mk PT.nil 0=Heap.mk PT.nil 0/\((GrOk g.2.2.1/\∃(r:Nat),FixK (z4a g) ((z4g g).1) r)/\Prod.snd (z4g g)<=List.length (z4a g))/\List.length (z4a g)-Prod.snd
 (z4g g)< (Gr.ns x.2.2.1).length-x.2.2.2.2
theorem i0F(l:List Int)(w:Int)(e1:Nat)(h:Heap)(Q:KT):dF (aV f1K) env 4 dV (icA 7 il1 (icA 13 il2 (tK 1000016 il3))) bT [.vslice none e1 (l).length 1 ((l).map (IV.int .i64)),.int .i64 w] h Q=(
 aC (aN [IV.vslice none 0 l.length 1 (List.map (IV.int .i64) l),iI w]) (∃(j:List Int),(l.length=j.length/\List.map (IV.int .i64) l=List.map (IV.int .i64) j)/\(∀(x:Int),x∈j->bR x)/\∀(Z fc u:List IV),qG Z fc->c1C u->((0:Int)<2/\(2:Int)<4611686018427387904)/\aC (decide (0<=w% (2:Int)) &&decide (w% (2:Int)<2)) (bZ u ((w% (2:Int)).toNat*5) fun(K:List UInt8)=>aK .i64 u ((w% (2:Int)).toNat*(5:Nat)+1) fun O=>bH 3 u ((w% (2:Int)).toNat*5+1+1) fun(T:Option Nat)(L y:Nat)(z:List IV)=>aK .i64 u ((w% (2:Int)).toNat*5+1+1+1) fun V=>aK .i64 u ((w% (2:Int)).toNat*5+1+1+1+1) fun X=> ∃(l:List Nd),(y=l.length/\z=List.flatMap cN l)/\(bL (IV.str K)=true/\bL (iI O)=true/\bL (iI V)=true/\bL (iI X)=true)/\LOk l/\(∀(n:Nd),n∈l->bJ (Nd.im n))/\∀(N:Nat),(∀(m:Nat),m<N->Prod.snd (fM l (aO l) m)=true)->Prod.snd (fM l (aO l) N)=false->(∃(x:List UInt8×Int×Gr×z4d×Nat),some z4b=some z4b/\some (TV.v (.vslice none 0 ((qJ (aO l) ((fM l (aO l) N).1)).length) 3 (List.flatMap nS (qJ (aO l) ((fM l (aO l) N).1)))))=some (TV.v (.vslice none 0 ((qJ (aO (Gr.ns x.2.2.1)) x.2.2.2.1).length) 3 (List.flatMap nS (qJ (aO (Gr.ns x.2.2.1)) x.2.2.2.1))))/\some z4f=tI (↑(a4C (Gr.ns x.2.2.1) x.2.2.2.2):Int)/\some (TV.v (.vslice T L y 3 z))=some (TV.v (IV.vslice none 0 ((Gr.ns x.2.2.1).length) 3 (List.flatMap cN (Gr.ns x.2.2.1))))/\tI (y:Int)=tI (↑((Gr.ns x.2.2.1).length):Int)/\some z4f=tI (x.2.2.2.2:Int)/\some [IV.str K,iI O,IV.vslice T L y 3 z,iI V,iI X]=some [IV.str x.1,iI x.2.1,IV.vslice none 0 ((Gr.ns x.2.2.1).length) 3 (List.flatMap cN (Gr.ns x.2.2.1)),iI (Gr.v x.2.2.1),iI (Gr.st x.2.2.1)]/\Heap.mk PT.nil 0=Heap.mk PT.nil 0/\((GrOk x.2.2.1/\∃(r:Nat),FixK (Gr.ns x.2.2.1) x.2.2.2.1 r)/\x.2.2.2.2<=List.length (Gr.ns x.2.2.1))/\True)/\∀(x:List UInt8×Int×Gr×z4d×Nat)(b:FF),d1P x.2.2.1 x.2.2.2.1/\x.2.2.2.2<=List.length (Gr.ns x.2.2.1)->aM (decide ((x.2.2.2.2:Int)< (↑((Gr.ns x.2.2.1).length):Int))) (aC (decide (0<=(x.2.2.2.2:Int)) &&decide ((x.2.2.2.2:Int)< (↑((Gr.ns x.2.2.1).length):Int))) (aK .i64 (List.flatMap cN (Gr.ns x.2.2.1)) ((x.2.2.2.2:Int).toNat*3) fun n8=>aK .i64 (List.flatMap cN (Gr.ns x.2.2.1)) ((x.2.2.2.2:Int).toNat*3+(1:Nat)) fun n9=>bH 1 (List.flatMap cN (Gr.ns x.2.2.1)) ((x.2.2.2.2:Int).toNat*3+1+1) fun(Y:Option Nat)(a0 D:Nat)(a1:List IV)=>aM (n8==31) (h9R x (wW (wW ((↑(a4C (Gr.ns x.2.2.1) x.2.2.2.2):Int)+wW (Int.tdiv (D:Int) 2))-1))) (h9R x (↑(a4C (Gr.ns x.2.2.1) (((x.2.2).2).2)):Int)))) ((∃(g:List UInt8×Int×Gr×z4d×Nat),some z4b=some z4b/\some (TV.v (.vslice none 0 ((qJ (aO (Gr.ns x.2.2.1)) x.2.2.2.1).length) 3 (List.flatMap nS (qJ (aO (Gr.ns (x.2.2.1))) x.2.2.2.1))))=some (TV.v (.vslice none 0 ((qJ (aO (Gr.ns g.2.2.1)) g.2.2.2.1).length) 3 (List.flatMap nS (qJ (aO (Gr.ns ((g.2.2).1))) g.2.2.2.1))))/\tI (↑(a4C (Gr.ns x.2.2.1) x.2.2.2.2):Int)=tI (↑(a4C (Gr.ns g.2.2.1) ((Gr.ns g.2.2.1).length)):Int)/\tI (↑((qJ (aO (Gr.ns x.2.2.1)) x.2.2.2.1).length):Int)=tI (↑((qJ (aO (Gr.ns ((g.2.2).1))) g.2.2.2.1).length):Int)/\some z4f=tI (g.2.2.2.2:Int)/\some [IV.str x.1,iI x.2.1,IV.vslice none 0 ((Gr.ns (x.2.2.1)).length) 3 (List.flatMap cN (Gr.ns x.2.2.1)),iI (Gr.v x.2.2.1),iI (Gr.st x.2.2.1)]=some [IV.str g.1,iI g.2.1,IV.vslice none 0 ((Gr.ns g.2.2.1).length) 3 (List.flatMap cN (Gr.ns g.2.2.1)),iI (Gr.v g.2.2.1),iI (Gr.st g.2.2.1)]/\Heap.mk PT.nil 0=Heap.mk PT.nil 0/\((GrOk g.2.2.1/\∃(r:Nat),FixK (Gr.ns g.2.2.1) g.2.2.2.1 r)/\g.2.2.2.2<=List.length (qJ (aO (Gr.ns (((g.2).2).1))) g.2.2.2.1))/\True)/\∀(x:List UInt8×Int×Gr×z4d×Nat)(b:FF),d1P x.2.2.1 x.2.2.2.1/\x.2.2.2.2<=List.length (qJ (aO (Gr.ns ((x.2.2).1))) x.2.2.2.1)->aM (decide ((x.2.2.2.2:Int)< (↑((qJ (aO (Gr.ns x.2.2.1)) x.2.2.2.1).length):Int))) (∃(M:Nat),(∃(g:List UInt8×Int×Gr×z4d×Nat×Nat),some z4b=some z4b/\some (TV.v (.vslice none 0 ((qJ (aO (Gr.ns x.2.2.1)) x.2.2.2.1).length) 3 (List.flatMap nS (qJ (aO (Gr.ns x.2.2.1)) ((x.2.2.2).1)))))=some (TV.v (.vslice none 0 ((qJ (aO (Gr.ns g.2.2.1)) g.2.2.2.1).length) 3 (List.flatMap nS (qJ (aO (Gr.ns g.2.2.1)) (((g.2.2).2).1)))))/\tI (↑(a4C (Gr.ns x.2.2.1) ((Gr.ns x.2.2.1).length)):Int)=tI (↑(a4C (Gr.ns g.2.2.1) ((Gr.ns (((g.2).2).1)).length)):Int)/\tI (x.2.2.2.2:Int)=tI (g.2.2.2.2.1:Int)/\some z4f=tI (↑(((((g.2).2).2).2).2):Int)/\tI (↑((qJ (aO (Gr.ns x.2.2.1)) x.2.2.2.1).length):Int)=tI (↑((qJ (aO (Gr.ns g.2.2.1)) ((g.2.2.2).1)).length):Int)/\tI (x.2.2.2.2:Int)=tI (g.2.2.2.2.1:Int)/\some [IV.str x.1,iI x.2.1,IV.vslice none 0 ((Gr.ns x.2.2.1).length) 3 (List.flatMap cN (Gr.ns x.2.2.1)),iI (Gr.v x.2.2.1),iI (Gr.st x.2.2.1)]=some [IV.str (g.1),iI g.2.1,IV.vslice none 0 ((Gr.ns g.2.2.1).length) 3 (List.flatMap cN (Gr.ns g.2.2.1)),iI (Gr.v g.2.2.1),iI (Gr.st (g.2.2.1))]/\Heap.mk PT.nil 0=Heap.mk PT.nil 0/\((GrOk g.2.2.1/\∃(r:Nat),FixK (Gr.ns g.2.2.1) g.2.2.2.1 r)/\g.2.2.2.2.1< (qJ (aO (Gr.ns g.2.2.1)) g.2.2.2.1).length/\g.2.2.2.2.2<=g.2.2.2.2.1)/\((40000:Nat)- ((((g.2).2).2).2).1)*40000+((39999:Nat)-g.2.2.2.2.2)<=M)/\∀(g:List UInt8×Int×Gr×z4d×Nat×Nat)(b:FF),d1P g.2.2.1 g.2.2.2.1/\Prod.fst ((((g.2).2).2).2)< (qJ (aO (Gr.ns g.2.2.1)) g.2.2.2.1).length/\g.2.2.2.2.2<=g.2.2.2.2.1->((40000:Nat)- (((g.2.2).2).2).1)*40000+((39999:Nat)-g.2.2.2.2.2)<=M->aM (decide ((g.2.2.2.2.2:Int)< (g.2.2.2.2.1:Int))) (aC (decide (0<=((g.2.2.2.2.2):Int)) &&decide ((g.2.2.2.2.2:Int)< (↑((qJ (aO (Gr.ns g.2.2.1)) g.2.2.2.1).length):Int))) (aK .i64 (List.flatMap nS (qJ (aO (Gr.ns g.2.2.1)) g.2.2.2.1)) ((g.2.2.2.2.2:Int).toNat*3+0) fun G=>aC (decide (0<=(↑((((g.2.2).2).2).1):Int)) &&decide ((g.2.2.2.2.1:Int)< (↑((qJ (aO (Gr.ns g.2.2.1)) g.2.2.2.1).length):Int))) (aK .i64 (List.flatMap nS (qJ (aO (Gr.ns (g.2.2.1))) g.2.2.2.1)) ((g.2.2.2.2.1:Int).toNat*3+0) fun A=>aM (G==A) (Q (.bool false) h) (∃(x:List UInt8×Int×Gr×z4d×Nat×Nat),some z4b=some z4b/\some (TV.v (.vslice none 0 ((qJ (aO (Gr.ns g.2.2.1)) g.2.2.2.1).length) 3 (List.flatMap nS (qJ (aO (Gr.ns g.2.2.1)) g.2.2.2.1))))=some (TV.v (.vslice none 0 ((qJ (aO (Gr.ns x.2.2.1)) x.2.2.2.1).length) 3 (List.flatMap nS (qJ (aO (Gr.ns x.2.2.1)) x.2.2.2.1))))/\some (TV.v (iI (↑(a4C (Gr.ns g.2.2.1) ((Gr.ns g.2.2.1).length)):Int)))=tI (↑(a4C (Gr.ns x.2.2.1) ((Gr.ns x.2.2.1).length)):Int)/\some (TV.v (iI (g.2.2.2.2.1:Int)))=tI (x.2.2.2.2.1:Int)/\tI (wW ((↑(((((g.2).2).2).2).2):Int)+1))=tI (x.2.2.2.2.2:Int)/\tI (↑((qJ (aO (Gr.ns g.2.2.1)) g.2.2.2.1).length):Int)=tI (↑((qJ (aO (Gr.ns x.2.2.1)) x.2.2.2.1).length):Int)/\tI (g.2.2.2.2.1:Int)=tI ((x.2.2.2.2.1):Int)/\some [IV.str g.1,iI g.2.1,IV.vslice none 0 ((Gr.ns g.2.2.1).length) 3 (List.flatMap cN (Gr.ns g.2.2.1)),iI (Gr.v g.2.2.1),iI (Gr.st g.2.2.1)]=some [IV.str x.1,iI x.2.1,IV.vslice none 0 ((Gr.ns x.2.2.1).length) 3 (List.flatMap cN (Gr.ns (x.2.2.1))),iI (Gr.v x.2.2.1),iI (Gr.st x.2.2.1)]/\Heap.mk PT.nil 0=Heap.mk PT.nil 0/\((GrOk x.2.2.1/\∃(r:Nat),FixK (Gr.ns (((x.2).2).1)) x.2.2.2.1 r)/\x.2.2.2.2.1< (qJ (aO (Gr.ns x.2.2.1)) x.2.2.2.1).length/\x.2.2.2.2.2<=Prod.fst (x.2.2.2.2))/\((40000:Nat)-x.2.2.2.2.1)*40000+((39999:Nat)-x.2.2.2.2.2)< ((40000:Nat)-g.2.2.2.2.1)*40000+((39999:Nat)-g.2.2.2.2.2))))) (∃(i:List UInt8×Int×Gr×z4d×Nat),some z4b=some z4b/\some (TV.v (.vslice none 0 ((qJ (aO (Gr.ns g.2.2.1)) g.2.2.2.1).length) 3 (List.flatMap nS (qJ (aO (Gr.ns g.2.2.1)) g.2.2.2.1))))=some (TV.v (.vslice none 0 ((z4c i).length) 3 (List.flatMap nS (z4c i))))/\tI (↑(a4C (Gr.ns ((g.2.2).1)) ((Gr.ns g.2.2.1).length)):Int)=tI (↑(a4C (Gr.ns (z4e i)) ((Gr.ns (z4e i)).length)):Int)/\tI (↑((qJ (aO (Gr.ns g.2.2.1)) (g.2.2.2.1)).length):Int)=tI (↑((z4c i).length):Int)/\tI (wW ((g.2.2.2.2.1:Int)+1))=tI ((i.2.2.2.2):Int)/\some [IV.str g.1,iI g.2.1,IV.vslice none 0 ((Gr.ns g.2.2.1).length) 3 (List.flatMap cN (Gr.ns g.2.2.1)),iI (Gr.v g.2.2.1),iI (Gr.st g.2.2.1)]=some [IV.str i.1,iI i.2.1,IV.vslice none 0 ((Gr.ns (z4e i)).length) 3 (List.flatMap cN (Gr.ns (z4e i))),iI (Gr.v (z4e i)),iI (Gr.st (z4e i))]/\Heap.mk PT.nil 0=Heap.mk PT.nil 0/\((GrOk (z4e i)/\∃(r:Nat),FixK (Gr.ns (z4e i)) i.2.2.2.1 r)/\i.2.2.2.2<=List.length (z4c i))/\(40000:Nat)-i.2.2.2.2<40000-x.2.2.2.2)) (aM ((↑((qJ (aO (Gr.ns x.2.2.1)) x.2.2.2.1).length):Int)==(↑(a4C (Gr.ns x.2.2.1) ((Gr.ns x.2.2.1).length)):Int)) (∃(l:List Nd),∃(C:List (Int×Iv)),((Gr.ns x.2.2.1).length=l.length/\List.flatMap cN (Gr.ns x.2.2.1)=List.flatMap cN l/\List.length (qJ (aO (Gr.ns (x.2.2.1))) x.2.2.2.1)=C.length/\List.flatMap nS (qJ (aO (Gr.ns x.2.2.1)) x.2.2.2.1)=List.flatMap nS C)/\(bL (IV.str x.1)=true/\bL (iI (x.2.1))=true/\bL (iI (Gr.v x.2.2.1))=true/\bL (iI (Gr.st x.2.2.1))=true)/\LOk l/\(∀(n:Nd),n∈l->bJ (Nd.im n))/\((∀(p:Int×Iv),p∈C->dB p.2)/\C.length<=(1099511627776:Nat))/\aM (e6L l C) (Q (.bool true) h) (Q (.bool false) h)) (Q (.bool false) h)))))):=by kernel_rfl
theorem i0G: ∀xs h Q,h9F xs h Q->aU env 4 xs h Q:=by
 intro xs h Q Z;unfold h9F at Z;split at Z
 ·rename_i e1 n1 c1 w;obtain⟨l,⟨rfl,rfl⟩,hb,Z⟩:=Z;refine aS (f9U) (i0F l w e1 h Q) ?_;delta h9R z4a z4b z4c z4d z4e z4f z4g tI wW iI;have tn: ∀x:Nat,(x:Int).toNat=x:=h0Z
  obtain⟨b2,c0⟩:=hb;refine aA (by simp only [aN,bL,cH,h1L]) ⟨l,⟨rfl,rfl⟩,b2,fun ac fc gc hp hg=>⟨by decide,?_⟩⟩;have hw:0<=w%2/\w%2<2:=by omega
  obtain⟨nm,np,g,m,u⟩:=e6M hg (q:=(w%2).toNat) (by omega);have hL:=i0C m;have X:=imI m;refine aP hw (i0B (u 0 (by decide)) (bF (u 1 (by decide)) (sA (u 2 (by decide)) (bF (u 3 (by decide)) (bF (u 4 (by decide)) ⟨g.ns,⟨rfl,rfl⟩,⟨rfl,rfl,rfl,rfl⟩,hL,X,fun N c6 a8=>⟨⟨(nm,np,g,(fM g.ns (aO g.ns) N).1,0),rfl,rfl,rfl,rfl,rfl,rfl,rfl,rfl,⟨⟨m,N,h0N X a8⟩,h1N _⟩,trivial⟩,?_⟩⟩)))));clear u hL X m;rintro⟨Y,V,g2,kn,i⟩ _ ⟨L,hi⟩;obtain⟨m,r,hF⟩:=(show d1P g2 kn from L);dsimp only at hi⊢;have a4:=m.ln;have a5: ∀i,i<=g2.ns.length->a4C g2.ns i<=16*i:=fun i h=>by rw [<-f6Y m.gl i h];exact d5N _ _
  have a1:=c6W (aO g2.ns) kn;have a3:=b1J g2.ns;refine dW (fun c=>?_) (fun c=>?_)
  ·have z:i<g2.ns.length:=by omega
   have G:g2.ns.getD i default=g2.ns[i]:=cQ z;have b9:=a5 i hi;refine aP ⟨by omega,by omega⟩ (a6X z (by rw [tn]) (aD (fun c2=>?_) (fun c2=>?_)))
   ·have c3:g2.ns[i].op=31:=eq_of_beq c2;have a7:=sG (h9E m.gl z (by rw [G];exact c3));have a9:=a7.odd;rw [G]at a9;refine⟨(Y,V,g2,kn,i+1),rfl,rfl,?_,rfl,rfl,(by rw [h0X _ (by omega)];rfl),rfl,rfl,⟨L,z⟩,by dsimp only;omega⟩;dsimp only;rw [show a4C g2.ns (i+1)=a4C g2.ns i+(g2.ns[i].ks.length/2-1) by rw [a4C,G,if_pos c3]];rw [show Int.tdiv (g2.ns[i].ks.length:Int) 2=((g2.ns[i].ks.length/2:Nat):Int)from rfl,h0X ((g2.ns[i].ks.length/2:Nat):Int) (by omega),h0X ((a4C g2.ns i:Int)+((g2.ns[i].ks.length/2:Nat):Int)) (by omega),h0X _ (by omega)]
    congr 3
    omega
   ·have c3: ¬g2.ns[i].op=31:=fun e=>by rw [e]at c2;cases c2
    refine⟨(Y,V,g2,kn,i+1),rfl,rfl,?_,rfl,rfl,(by rw [h0X _ (by omega)];rfl),rfl,rfl,⟨L,z⟩,by dsimp only;omega⟩;dsimp only;rw [show a4C g2.ns (i+1)=a4C g2.ns i by rw [a4C,G,if_neg c3];rfl]
  obtain rfl:i=g2.ns.length:=by omega
  refine⟨⟨(Y,V,g2,kn,0),rfl,rfl,rfl,rfl,rfl,rfl,rfl,⟨L,h1N _⟩,trivial⟩,?_⟩;clear a5 a1 a3 a4 hF m L hi c;rintro⟨b3,b1,A,y,i3⟩ _ ⟨L,hi⟩;obtain⟨m,r3,hF⟩:=(show d1P A y from L);dsimp only at hi⊢;have a4:=m.ln;have a1:=c6W (aO A.ns) y;have a3:=b1J A.ns;refine dW (fun c=>?_) (fun c=>?_)
  ·refine⟨(40000-i3)*40000+39999,⟨(b3,b1,A,y,i3,0),rfl,rfl,rfl,rfl,rfl,rfl,rfl,rfl,rfl,⟨L,by dsimp only;omega,h1N _⟩,by dsimp only;omega⟩,?_⟩;have b5:=hi;rintro⟨a0,a2,D,j,i4,k4⟩ _ ⟨T,h4,h5⟩ hM;obtain⟨b0,r4,b8⟩:=(show d1P D j from T);dsimp only at h4 h5 hM⊢;have b6:=b0.ln;have b7:=c6W (aO D.ns) j;have b4:=b1J D.ns;refine dW (fun c4=>?_) (fun c4=>?_)
   ·have a6:k4<i4:=by omega
    refine aP ⟨by omega,by omega⟩ (bF (by rw [tn];exact vG (show k4< (qJ (aO D.ns) j).length by omega) 0 (by decide)) (aP ⟨by omega,by omega⟩ (bF (by rw [tn];exact vG h4 0 (by decide)) (aD (fun c5=>?_) (fun _=>?_)))))
    ·have e:(qJ (aO D.ns) j)[k4].1=(qJ (aO D.ns) j)[i4].1:=eq_of_beq c5;have:=i1V.1 (a6Z D.ns j) k4 i4 (by rw [h1P];omega) (by rw [h1P];omega) a6;rw [List.getElem_map,List.getElem_map]at this;exact absurd e this
    ·exact⟨(a0,a2,D,j,i4,k4+1),rfl,rfl,rfl,rfl,(by rw [h0X _ (by omega)];rfl),rfl,rfl,rfl,rfl,⟨T,h4,a6⟩,by dsimp only;omega⟩
   ·exact⟨(a0,a2,D,j,i4+1),rfl,rfl,rfl,rfl,(by rw [h0X _ (by omega)];rfl),rfl,rfl,⟨T,h4⟩,by dsimp only;omega⟩
  have O: ∀x∈aO A.ns,y x.v≠none:=fun x hx=>g4W m.gl hF _ x hx rfl
  have K:(qJ (aO A.ns) y).length=a4C A.ns A.ns.length:=by
   rw [e4C O,<-f6Y m.gl _ (h1D _)];rfl
  rw [K];refine aD (fun _=>?_) (fun c=>by simp at c);refine⟨A.ns,qJ (aO A.ns) y,⟨rfl,rfl,K.symm,rfl⟩,⟨rfl,rfl,rfl,rfl⟩,i0C m,imI m,⟨fun p hp=>(hF.ok _ _ (b5Z.1 hp).2).2,by omega⟩,?_⟩;rw [h0Q (imI m) hF O];exact aD (fun _=>Z) (fun c=>by cases c)
 ·exact Z.elim
end Go.Proofs.YtkonebkblgemkaaGreat
end
section
namespace Go.Proofs.YtkonebkblgemkaaGreat.analysisInductive
open Go.Pv Go.ChangeShapes Go.WideShapes Go.ChangeAt Go.RowKit
theorem g4Z{xs:List IV}(h:OkC Tryz.prog 22 xs): ∃l:List Int,xs=[.vslice none 0 l.length 1 (l.map (IV.int .i64))]/\(∀a∈l,Go.M15.bR a)/\l.length<=9223372036854775807:=by
 obtain⟨n,cs,rfl,g,j⟩:=h.slice_inv Tryz.underlying22;obtain⟨l,rfl,rfl,i⟩:=j.ints Tryz.underlying3;have e:Tryz.prog.cellsOf 3=1:=by kernel_rfl
 exact⟨l,by rw [e],fun a m=>a1X (i a m),by unfold maxLen at g;omega⟩
theorem f9W(L:Os)(g:L.Started)(H:Type)(enc:TypeId×Value->H):
  ReturnsInHanded {} Tryz.checked L 4 .any (Rows.analysisInductiveSpec.pre6 enc Tryz.prog Tryz.f4 Rows.analysisInductiveRow.domain false) (Rows.analysisInductiveSpec.post enc Tryz.prog Tryz.f4 false true false false):=by
 refine returnsInHanded_of_change (C:=Tryz.checked) (s:=Rows.analysisInductiveSpec) own g (by kernel_rfl) Tryz.func4
  (ChangeSpec.witness6 (enc:=enc) (C:=Tryz.checked) (s:=Rows.analysisInductiveSpec) false ⟨#[],#[.slice none 0 0,.int .i64 0],[]⟩ 8 (by kernel_rfl) (by kernel_rfl) (by kernel_rfl) (by kernel_rfl)) ?_
 intro W base i ds gs u j T _ _;have A:=T;obtain⟨p,q,l,hV,rfl,a2,a5⟩:=T;have V:DataW.TrodAll enc Tryz.prog W 0 (fun _=>true) true Tryz.f4.params.toList i.toList ds p:=l;rw [Tryz.params4]at V;obtain⟨G,X,d0,a3,p0,q0,e0,f0,g0,D,l⟩:=trodAll_cons V;obtain⟨K,a1,d1,a4,p1,q1,e1,f1,g1,a6,z⟩:=trodAll_cons l;obtain⟨ez,rfl,rfl⟩:=trodAll_nil z;subst ez;subst f1;subst e1;subst f0;obtain rfl:i= #[G,K]:=by cases i;simp_all
 obtain⟨a0,y,vr0⟩:=c0R (P:=Tryz.prog) 8 (by kernel_rfl) (j 0 22 G (by kernel_rfl) rfl) D;obtain⟨r,rfl,m⟩:=g4Z y;have Y:=vr0 (.vslice none 0 r.length 1 (r.map (IV.int .i64))) (by kernel_rfl);obtain⟨O,rfl,b1⟩:=e5L Tryz.underlying3 (j 1 3 K (by kernel_rfl) rfl);have r1:=a1X b1;obtain⟨rfl,rfl⟩:=trodVars_none hV;have Z:aU env 4 [.vslice none 0 r.length 1 (r.map (IV.int .i64)),.int .i64 O] Heap.empty fun v _=>v= .bool true:=i0G _ _ _ ⟨r,⟨rfl,rfl⟩,⟨m.1,m.2⟩,rfl⟩
 refine(d0S (E:=env) d4J g0R Z W (rs:=[G,.int .i64 O]) (g5I W) (cW.cons Y (cW.cons (.int _ _) (cW.nil _)))).mono fun e W' ⟨he,hb⟩=>?_
 exact⟨_,he,a6T (tb:=4) e5M (by kernel_rfl) (by kernel_rfl) Tryz.underlying4 A rfl hb rfl rfl rfl⟩
theorem over:Rows.analysisInductiveRow.holds Tryz.pinned (OpenSpec.ofChange Rows.analysisInductiveSpec):=
 OpenClaim.holds_of_wide 4 Tryz.f4 rfl rfl rfl rfl rfl rfl rfl ⟨rfl,rfl,rfl,rfl,rfl⟩ rfl rfl rfl rfl rfl (by kernel_rfl) Tryz.func4 (by kernel_rfl)
  (of_decide_eq_true (by kernel_rfl)) (by unfold Func.isWrapper;first| (rw [if_pos (by decide+kernel)];kernel_rfl)| (rw [if_neg (by decide+kernel)];exact⟨rfl,rfl⟩))
  (fun i g H enc _=>f9W i g H enc)
theorem proved:Rows.AnalysisInductiveSaid:=
 over
end Go.Proofs.YtkonebkblgemkaaGreat.analysisInductive
end
end
