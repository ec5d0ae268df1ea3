/-
  Texts of this proof, one after the other.
  Conditions: none.
-/
import Derived.Test.YthimicfahhgpcaaGreatW16
set_option linter.unusedVariables false
set_option linter.unusedSimpArgs false
set_option maxRecDepth 100000
set_option maxHeartbeats 4000000
noncomputable section
variable{i j k m n b q:Nat}{x y z u w:Int}{h g:Go.Pv.Heap}{d l:List Go.Pv.IV}{A B C:List Go.M15.Nd}{K L:Y12}{p s t:Go.Pv.IV}{F:List Go.M10.E}{D:Go.Pv.Meta}{V W:List Go.Value}{U:Go.TypeId}{o:Bool}{X Y:Go.Value}{r e:Y11}{O:Go.Oper}{N:Y10}{H:Array Go.Value}
section
namespace Go.Proofs.YthimicfahhgpcaaGreat
open Go.Pv Go.M13 Go.M15 Go.M10 Go.M14 Go.M23
def c8W(xs:Y14)(h:Heap)(K:KT):Prop:=match xs with
 | [.vslice none e1 n1 3 c1,.int .i64 i]=> ∃l:Y15,(n1=l.length/\c1=l.flatMap cN)/\K (.bool (decide (0<=i) &&decide (i< (l.length:Int)))) h
 |_=>False
theorem e4O(l:Y15)(i:Int)(g:Nat)(h:Heap)(Q:KT):dF (aR noC) env 98 cS bK bK [.vslice none g (l).length 3 ((l).flatMap cN),.int .i64 i] h Q=(
 aC (aP [IV.vslice none 0 l.length 3 (List.flatMap cN l),iI i]) (aI (decide (i>=0)) (Q (.bool (decide (i< (l.length:Int)))) h) (Q (.bool false) h))):=by kernel_rfl
theorem e3N: ∀xs h Q,c8W xs h Q->aL env 98 xs h Q:=by
 intro xs h Q g;unfold c8W at g;split at g
 ·rename_i j m c1 i;obtain⟨l,⟨rfl,rfl⟩,g⟩:=g;refine aN (gX env) (e4O l i j h Q) ?_;delta iI;refine aA (by simp only [aP,bG,bR,AL]) (gO (fun c=>?_) (fun c=>?_))
  ·rw [decide_eq_true (show 0<=i from c),BC]at g;exact g
  ·rw [decide_eq_false (show¬0<=i from c),BM]at g;exact g
 ·exact g.elim
def c7I:=aV 98 c8W noC
theorem c5J:aO env c7I:=aF e3N (gX env)
def d5X(id k:Nat)(E:Nat->Nat->Prop)(u:Y12)(rh rep:Nat->Nat)(h:Heap):Inv':=eA (Nat×Heap×Y12) (fun x=>[(0,.v (.hslice id 0 u.length 1)),(1,.v (.int .i64 (x.1:Int)))]) (fun _=>[]) (fun x=>x.2.1)
 (fun x=>(x.1<u.length/\rep x.1=rep k)/\UF E x.2.2 rh rep/\FD id u x.2.2 h x.2.1) (fun x=>rh x.1)
def a6U(xs:Y14)(h:Heap)(K:KT):Prop:=match xs with
 | [.hslice id 0 n 1,.int .i64 i]=> ∃(k:Nat)(E:Nat->Nat->Prop)(u:Y12)(rh rep:Nat->Nat),(n=u.length/\i=(k:Int))/\(k<u.length/\u.length<=1000000)/\(Equivalence E/\UF E u rh rep/\h.get id= .cells (u.map (IV.int .i64)))/\
  ∀(g:Y12)(h2:Heap),UF E g rh rep->FD id u g h h2->K (.int .i64 (rep k:Int)) h2
 |_=>False
def b7G(u:Y12)(x:Nat×Heap×Y12):=decide (0<=(x.1:Int)) &&decide ((x.1:Int)< (u.length:Int))
def a3A(x:Nat×Heap×Y12):=(0:Nat)+(x.1:Int).toNat*1
def b7H(id:Nat)(u:Y12):=TV.v (.hslice id 0 u.length 1)
def c4H(x:Nat×Heap×Y12):=(0:Nat)+(x.1:Int).toNat*1+1
def X5(x:Nat×Heap×Y12):=x.2.1
theorem d8V(id:Nat)(k:Nat)(E:Nat->Nat->Prop)(u:Y12)(rh rep:Nat->Nat)(h:Heap)(Q:KT):dF (aR c7I) env 99 cS (oE 2 (d5X id k E u rh rep h)) bK [.hslice id 0 u.length 1,.int .i64 (k:Int)] h Q=(
 (∃(x:Nat×Heap×Y12),some (b7H id u)=some (b7H id u)/\tI (k:Int)=tI (x.1:Int)/\h=x.2.1/\((x.1<u.length/\rep x.1=rep k)/\UF E x.2.2 rh rep/\FD id u x.2.2 h (X5 x))/\True)/\∀(x:Nat×Heap×Y12)(b:FF),(x.1<u.length/\rep x.1=rep k)/\UF E x.2.2 rh rep/\FD id u x.2.2 h (X5 x)->aC (b7G u x) (aJ (X5 x) id fun r0=>aG .i64 r0 (a3A x) fun m=>aI (m !=(x.1:Int)) (aC (b7G u x) (aJ (X5 x) id fun r2=>aG .i64 r2 (a3A x) fun j=>aC (decide (0<=j) &&decide (j< (u.length:Int))) (aJ (X5 x) id fun r4=>aG .i64 r4 ((0:Nat)+j.toNat*1) fun l=>aC (b7G u x) (aJ (X5 x) id fun r6=>aC (Nat.ble (c4H x) r6.length) (aC (b7G u x) (aJ ((X5 x).set id (IObj.cells (List.take (a3A x) r6++ [iI l]++List.drop (c4H x) r6))) id fun(r7:Y14)=>aG .i64 r7 (a3A x) fun p=> ∃(g:Nat×Heap×Y12),some (b7H id u)=some (b7H id u)/\tI p=tI (g.1:Int)/\Heap.set (X5 x) id (IObj.cells (List.take (a3A x) r6++ [iI l]++List.drop (c4H x) r6))=g.2.1/\((g.1<u.length/\rep g.1=rep k)/\UF E g.2.2 rh rep/\FD id u g.2.2 h g.2.1)/\rh g.1<rh x.1)))))) (Q (.int .i64 ((x.1):Int)) (X5 x)))):=by kernel_rfl
theorem d7D: ∀xs h Q,a6U xs h Q->aL env 99 xs h Q:=by
 intro xs h Q y;unfold a6U at y;split at y
 ·rename_i id n i;obtain⟨k,E,u,rh,rep,⟨rfl,rfl⟩,hb,⟨hE,hu,hg⟩,y⟩:=y;refine aN (c5J) (d8V id k E u rh rep h Q) ?_;delta b7G a3A b7H c4H X5 tI iI;have tn: ∀x:Nat,(x:Int).toNat=x:=AK
  obtain⟨O,a0⟩:=hb;refine⟨⟨(k,h,u),JJ,JJ,JJ,⟨⟨O,rfl⟩,hu,⟨rfl,hg⟩,rfl,fun _ _=>rfl⟩,trivial⟩,?_⟩;rintro⟨j,g,v⟩ _ ⟨⟨hj,V⟩,p,hf⟩;dsimp only at hj V p hf⊢;obtain⟨⟨Y,r⟩,R,z⟩:=(show FD id u v h g from hf);have l:j<v.length:=JF;have r1:=p.rng j l;have K:v.getD j 0=v[j]:=bH l;have g1:(v[j]).toNat=gI v j:=by unfold gI;rw [K]
  rw [K]at r1;have m:=p.lt l;have L:v.getD (gI v j) 0=v[gI v j]:=bH m;have r2:=p.rng _ m;rw [L]at r2;have g2:(v[gI v j]).toNat=gI v (gI v j):=by rw [<-L];rfl
  have G: ∀(w:Y12)(q:Nat)(A:q<w.length),(w.map (IV.int .i64))[q]?=some (.int .i64 w[q]):=fun w q A=>by rw [BL,AA A];rfl
  simp only [tn,AX,AO];refine aW ⟨JF,JF⟩ (aD r (dN (G v j l) (aB (fun c=>?_) (fun c=>?_))))
  ·rw [bne_iff_ne]at c;have hn:gI v j≠j:=fun q=>c JF
   refine aW ⟨JF,JF⟩ (aD r (dN (G v j l) (aW ⟨r1.1,JF⟩ (aD r (dN (n:=v[gI v j]) (by rw [g1];exact G v _ m) (aW ⟨JF,JF⟩ (aD r (aA (by rw [AS,BG];omega) (aW ⟨JF,JF⟩ (aD aK ?_))))))))));rw [Go.M14.Ko l];have D:j< (v.set j v[gI v j]).length:=by rw [BX];exact l
   refine dN (G _ j D) ⟨(gI v (gI v j),g.set id (.cells ((v.set j v[gI v j]).map (IV.int .i64))),v.set j v[gI v j]),JJ,?_,JJ,⟨⟨?_,?_⟩,?_,⟨by dsimp only;rw [BX];exact Y,aK⟩,R,fun q A=>(aH A).trans (z q A)⟩,?_⟩
   ·rw [FE];dsimp only;rw [<-g2,GX r2.1]
   ·have:=p.lt m;dsimp only;omega
   ·dsimp only;rw [p.re _ m,p.re _ l];exact V
   ·have:=p.halve hE l;rw [L]at this;exact this
   ·dsimp only;have Z:=p.up j l hn
    by_cases c2:gI v (gI v j)=gI v j
    ·rw [c2];exact Z
    ·exact JA (p.up _ m c2) Z
  ·have X:gI v j=j:=by
    rw [bne_eq_false_iff_eq]at c;unfold gI
    rw [K,c];exact AK j
   have e:rep k=j:=by rw [<-V];exact p.rt j l X
   have:=y v g p hf;rw [e]at this;exact this
 ·exact y.elim
def c4N:=aV 99 a6U c7I
theorem c9U:aO env c4N:=aF d7D (c5J)
def cnA(l:Y15)(ss:List Ste)(a b:Int):Inv':=eA (Nat×Heap×Y12) (fun x=>[(1,.v (.ptr 0 0)),(3,.v (.hslice 1 0 l.length 1)),(15,.v (.int .i64 (l.length:Int))),(16,.v (.int .i64 (x.1:Int)))]) (fun _=>[]) (fun x=>x.2.1)
 (fun x=>x.1<=l.length/\CnH l ss a b x.2.1 x.2.2/\∀q,q<x.1->x.2.2.getD q 0=(q:Int)) (fun x=>l.length-x.1)
def cnB(l:Y15)(ss:List Ste)(a b:Int)(E:Nat->Nat->Prop):Inv':=eA (Nat×Heap×Y12) (fun x=>[(1,.v (.ptr 0 0)),(3,.v (.hslice 1 0 l.length 1)),(25,.v (.vslice none 0 ss.length 5 (ss.flatMap iT))),(26,.v (.int .i64 (ss.length:Int))),(27,.v (.int .i64 (x.1:Int)))]) (fun _=>[]) (fun x=>x.2.1)
 (fun x=>x.1<=ss.length/\CnH l ss a b x.2.1 x.2.2/\∃rh rep,UF E x.2.2 rh rep) (fun x=>ss.length-x.1)
def cnC(l:Y15)(ss:List Ste)(a b:Int)(E:Nat->Nat->Prop):Inv':=eA (Nat×Nat×Nat×Heap×Y12) (fun x=>[(1,.v (.ptr 0 0)),(3,.v (.hslice 1 0 l.length 1)),(6,.v (.ptr x.2.2.1 0)),(7,.l 7 0),(8,.l 8 0),(25,.v (.vslice none 0 ss.length 5 (ss.flatMap iT))),(26,.v (.int .i64 (ss.length:Int))),(27,.v (.int .i64 (x.1:Int))),(83,.v (.int .i64 ((nL l ss x.1).ks.length:Int))),(84,.v (.int .i64 (x.2.1:Int)))]) (fun x=>[(7,cN (nL l ss x.1)),(8,cN (nR l ss x.1))]) (fun x=>x.2.2.2.1)
 (fun x=>(x.1<ss.length/\iV l (fA ss x.1).l/\iV l (fA ss x.1).r/\(fA ss x.1).y=0)/\((nL l ss x.1).op=(nR l ss x.1).op/\(nL l ss x.1).im=(nR l ss x.1).im/\(nL l ss x.1).ks.length=(nR l ss x.1).ks.length)/\(x.2.1<=(nL l ss x.1).ks.length/\∀q,q<x.2.1->iV l ((nL l ss x.1).ks.getD q 0)/\iV l ((nR l ss x.1).ks.getD q 0)/\E ((nL l ss x.1).ks.getD q 0).toNat ((nR l ss x.1).ks.getD q 0).toNat)/\
  (x.2.2.2.1.get x.2.2.1= .cells (iT (fA ss x.1))/\2<=x.2.2.1)/\CnH l ss a b x.2.2.2.1 x.2.2.2.2/\∃rh rep,UF E x.2.2.2.2 rh rep) (fun x=>(ss.length-x.1)*2000+((nL l ss x.1).ks.length-x.2.1))
def cnD(l:Y15)(ss:List Ste)(a b:Int)(E:Nat->Nat->Prop):Inv':=eA (Nat×Nat×Heap×Y12) (fun x=>[(1,.v (.ptr 0 0)),(3,.v (.hslice 1 0 l.length 1)),(6,.v (.ptr x.2.1 0)),(25,.v (.vslice none 0 ss.length 5 (ss.flatMap iT))),(26,.v (.int .i64 (ss.length:Int))),(27,.v (.int .i64 (x.1:Int)))]) (fun _=>[]) (fun x=>x.2.2.1)
 (fun x=>(x.1<ss.length/\iV l (fA ss x.1).l/\iV l (fA ss x.1).r/\E (fA ss x.1).l.toNat (fA ss x.1).r.toNat)/\(x.2.2.1.get x.2.1= .cells (iT (fA ss x.1))/\2<=x.2.1)/\CnH l ss a b x.2.2.1 x.2.2.2/\∃rh rep,UF E x.2.2.2 rh rep) (fun x=>ss.length-x.1)
def a6Q(xs:Y14)(h:Heap)(K:KT):Prop:=match xs with
 | [.agg [.vslice none e1 n1 3 c1,.vslice none e2 n2 5 c2,.int .i64 a,.int .i64 b]]=> ∃(l:Y15)(ss:List Ste)(E:Nat->Nat->Prop),(n1=l.length/\c1=l.flatMap cN/\n2=ss.length/\c2=ss.flatMap iT)/\((1<=l.length/\l.length<=100000)/\ss.length<=100000/\∀n∈l,n.ks.length<=1000)/\(Equivalence E/\CE E l ss)/\
  ∀r:Bool,(r=true->iV l a/\iV l b/\E a.toNat b.toNat)->K (.bool r) h
 |_=>False
def C9:=IObj.cells [iI 0,iI 0,iI 0,IV.nilslice,IV.nilslice]
def H3(z A D:Int)(y p:Y10)(l q m r:Nat)(g j zL:Y14):=IObj.cells (iI z::iI A::iI D::IV.vslice y l q 1 g::IV.vslice p m r 1 j::List.drop 5 zL)
def c3V(l:Y15):=l.length
def uR(l:Y15):=TV.v (.hslice 1 0 (c3V l) 1)
def H4(ss:List Ste):=TV.v (.vslice none 0 ss.length 5 (List.flatMap iT ss))
def tW:=TV.v (.ptr 0 0)
def H5(ss:List Ste):=TV.v (.int .i64 (ss.length:Int))
def kN:=IV.int .i64
def uS(l:Y15)(ss:List Ste)(a b:Int):=[IV.vslice none 0 (c3V l) 3 (List.flatMap cN l),IV.vslice none 0 ss.length 5 (List.flatMap iT ss),iI a,iI b]
def d4K:=IV.bool false
def V5(l:Y15):=TV.v (.int .i64 ((c3V l):Int))
def c3S:=TV.v (.int .i64 0)
def c3T:=TV.l 7 0
def b5V:=TV.l 8 0
abbrev b5W(k:Nat)(u:Y12):=k<u.length/\u.length<=1000000
abbrev c3U(u:Y12)(g:Nat):=g<u.length/\u.length<=1000000
theorem d8R(l:Y15)(ss:List Ste)(a b:Int)(E:Nat->Nat->Prop)(e1 e2:Nat)(h:Heap)(Q:KT):dF (aR c4N) env 54 cS (vC 4 (cnA l ss a b) (vC 9 (cnB l ss a b E) (oE 1000018 (cnC l ss a b E)))) (oE 1000023 (cnD l ss a b E)) [.agg [.vslice none e1 (l).length 3 ((l).flatMap cN),.vslice none e2 ss.length 5 (ss.flatMap iT),.int .i64 a,.int .i64 b]] h Q=(
 aC (aP [IV.agg (uS l ss a b)]) (aC (decide (0<=((c3V l):Int)) && (decide (((c3V l):Int)<=((c3V l):Int)) && (decide (((c3V l):Int)<=9223372036854775807) &&decide ((8:Int)*((c3V l):Int)<=140737488355328)))) ((∃(x:Nat×Heap×Y12),some tW=some tW/\some (TV.v (.hslice 1 0 (((c3V l):Int).toNat) 1))=some (uR l)/\tI (↑(((c3V l):Int).toNat):Int)=some (V5 l)/\some c3S=tI (x.1:Int)/\Heap.mk (PT.node (PT.node PT.nil (some (IObj.cells (dY (((c3V l):Int).toNat) [iI 0]))) PT.nil) (some (IObj.cells (uS l ss a b))) PT.nil) ((1:Nat)+1)=x.2.1/\(x.1<=l.length/\CnH l ss a b x.2.1 x.2.2/\∀(q:Nat),q<x.1->List.getD x.2.2 q 0=(q:Int))/\True)/\∀(x:Nat×Heap×Y12)(h5:FF),(x.1<=l.length/\CnH l ss a b x.2.1 x.2.2/\∀(q:Nat),q<x.1->List.getD x.2.2 q 0=(q:Int))->aI (decide ((x.1:Int)< ((c3V l):Int))) (aC (decide (0<=(x.1:Int)) &&decide ((x.1:Int)< ((c3V l):Int))) (aJ x.2.1 1 fun r0=>aC (Nat.ble ((0:Nat)+(x.1:Int).toNat*1+1) r0.length) (∃(g:Nat×Heap×Y12),some tW=some tW/\some (uR l)=some (uR l)/\some (V5 l)=some (V5 l)/\tI (wW ((x.1:Int)+1))=tI (g.1:Int)/\Heap.set x.2.1 1 (IObj.cells (List.take ((0:Nat)+(x.1:Int).toNat*1) r0++ [iI (x.1:Int)]++List.drop ((0:Nat)+(x.1:Int).toNat*1+1) r0))=(g.2).1/\(g.1<=l.length/\CnH l ss a b g.2.1 g.2.2/\∀(q:Nat),q<g.1->List.getD g.2.2 q 0=(q:Int))/\l.length-g.1<l.length-x.1))) (aJ x.2.1 0 fun r1=>aZ 5 r1 1 fun(i2:Y10)(e3 l4:Nat)(c5:Y14)=>(∃(g:Nat×Heap×Y12),some tW=some tW/\some (uR l)=some (uR l)/\some (TV.v (.vslice i2 e3 l4 5 c5))=some (H4 ss)/\tI (l4:Int)=some (H5 ss)/\some c3S=tI (g.1:Int)/\x.2.1=g.2.1/\(g.1<=ss.length/\CnH l ss a b g.2.1 g.2.2/\∃(rh rep:Nat->Nat),UF E ((g.2).2) rh rep)/\True)/\∀(x:Nat×Heap×Y12)(h6:FF),(x.1<=ss.length/\CnH l ss a b x.2.1 x.2.2/\∃(rh rep:Nat->Nat),UF E x.2.2 rh rep)->aI (decide ((x.1:Int)< (ss.length:Int))) (aC (decide (0<=(x.1:Int)) &&decide ((x.1:Int)< (ss.length:Int))) (aG .i64 (List.flatMap iT ss) ((x.1:Int).toNat*5) fun n6=>aG .i64 (List.flatMap iT ss) ((x.1:Int).toNat*5+(1:Nat)) fun n7=>aG .i64 (List.flatMap iT ss) ((x.1:Int).toNat*5+1+1) fun n8=>aZ 1 (List.flatMap iT ss) ((x.1:Int).toNat*5+1+1+1) fun(i9:Y10)(A L:Nat)(p:Y14)=>aZ 1 (List.flatMap iT ss) ((x.1:Int).toNat*5+1+1+1+1) fun(G:Y10)(D O:Nat)(z:Y14)=>aJ (x.2.1.push C9) (x.2.1.next) fun zL=>aC (Nat.ble 5 zL.length) (aJ ((x.2.1.push C9).set (x.2.1.next) (H3 n6 n7 n8 i9 G A L D O p z zL)) 0 fun Gq=>aZ 3 Gq 0 fun(i6:Y10)(h7 d6:Nat)(c3:Y14)=>aJ ((x.2.1.push C9).set (x.2.1.next) (H3 n6 n7 n8 i9 G A L D O p z zL)) (x.2.1.next) fun r23=>aG .i64 r23 0 fun b1=> ∃(Y:Y15),(d6=Y.length/\c3=List.flatMap cN Y)/\aI (!(decide (0<=b1) &&decide (b1< (Y.length:Int)))) (Q d4K h) (aJ ((x.2.1.push C9).set (x.2.1.next) (H3 n6 n7 n8 i9 G A L D O p z zL)) 0 fun(r25:Y14)=>aZ 3 r25 0 fun(i7:Y10)(h8 d7:Nat)(c4:Y14)=>aJ ((x.2.1.push C9).set (x.2.1.next) (H3 n6 n7 n8 i9 G A L D O p z zL)) (x.2.1.next) fun(f5:Y14)=>aG .i64 f5 1 fun b2=> ∃(Z:Y15),(d7=Z.length/\c4=List.flatMap cN Z)/\aI (!(decide (0<=b2) &&decide (b2< (Z.length:Int)))) (Q d4K h) (∃(M:Nat),(aJ ((x.2.1.push C9).set (x.2.1.next) (H3 n6 n7 n8 i9 G A L D O p z zL)) (x.2.1.next) fun f6=>aG .i64 f6 2 fun e8=>aI (e8==0) (aJ ((x.2.1.push C9).set (x.2.1.next) (H3 n6 n7 n8 i9 G A L D O p z zL)) 0 fun f7=>aZ 3 f7 0 fun(i8:Y10)(h9 d8:Nat)(a3:Y14)=>aJ ((x.2.1.push C9).set (x.2.1.next) (H3 n6 n7 n8 i9 G A L D O p z zL)) (x.2.1.next) fun f8=>aG .i64 f8 0 fun a1=>aC (decide (0<=a1) &&decide (a1< (d8:Int))) (aG .i64 a3 (a1.toNat*3) fun b3=>aG .i64 a3 (a1.toNat*3+(1:Nat)) fun b4=>aZ 1 a3 (a1.toNat*3+1+1) fun(d4:Y10)(d2 a5:Nat)(c6:Y14)=>aJ ((x.2.1.push C9).set (x.2.1.next) (H3 n6 n7 n8 i9 G A L D O p z zL)) 0 fun f9=>aZ 3 f9 0 fun(j0:Y10)(i0 d9:Nat)(a4:Y14)=>aJ ((x.2.1.push C9).set (x.2.1.next) (H3 n6 n7 n8 i9 G A L D O p z zL)) (x.2.1.next) fun g0=>aG .i64 g0 1 fun a2=>aC (decide (0<=a2) &&decide (a2< (d9:Int))) (aG .i64 a4 (a2.toNat*3) fun b5=>aG .i64 a4 (a2.toNat*3+1) fun b6=>aZ 1 a4 (a2.toNat*3+1+1) fun(d5:Y10)(d3 b0:Nat)(c7:Y14)=>aI (b3 !=b5) (Q d4K h) (aI (b4 !=b6) (Q d4K h) (aI ((a5:Int) !=(b0:Int)) (Q d4K h) (∃(a9:Nat),(∃(g:Nat×Nat×Nat×Heap×Y12),some tW=some tW/\some (uR l)=some (uR l)/\some (TV.v (.ptr (x.2.1.next) 0))=some (TV.v (.ptr g.2.2.1 0))/\some c3T=some c3T/\some b5V=some b5V/\some (H4 ss)=some (H4 ss)/\some (H5 ss)=some (H5 ss)/\tI (x.1:Int)=tI (g.1:Int)/\tI (a5:Int)=tI (↑((Nd.ks (nL l ss g.1)).length):Int)/\some c3S=tI (↑((g.2).1):Int)/\some [iI b3,iI b4,IV.vslice d4 d2 a5 1 c6]=some [iI (Nd.op (nL l ss g.1)),iI (Nd.im (nL l ss g.1)),IV.vslice none 0 ((Nd.ks (nL l ss g.1)).length) 1 (List.map kN (Nd.ks (nL l ss g.1)))]/\some [iI b5,iI b6,IV.vslice d5 d3 b0 1 c7]=some [iI (Nd.op (nR l ss g.1)),iI (Nd.im (nR l ss g.1)),IV.vslice none 0 ((Nd.ks (nR l ss g.1)).length) 1 (List.map kN (Nd.ks (nR l ss g.1)))]/\Heap.set (x.2.1.push C9) (x.2.1.next) (H3 n6 n7 n8 i9 G A L D O p z zL)=g.2.2.2.1/\((g.1<ss.length/\iV l (Ste.l (fA ss g.1))/\iV l (Ste.r (fA ss g.1))/\Ste.y (fA ss g.1)=0)/\(Nd.op (nL l ss g.1)=Nd.op (nR l ss g.1)/\Nd.im (nL l ss g.1)=Nd.im (nR l ss g.1)/\List.length (Nd.ks (nL l ss (g.1)))=(Nd.ks (nR l ss g.1)).length)/\(g.2.1<=List.length (Nd.ks (nL l ss g.1))/\∀(q:Nat),q<g.2.1->iV l (List.getD (Nd.ks (nL l ss g.1)) q 0)/\iV l (List.getD (Nd.ks (nR l ss g.1)) q 0)/\E ((List.getD (Nd.ks (nL l ss g.1)) q 0).toNat) ((List.getD (Nd.ks (nR l ss g.1)) q 0).toNat))/\(g.2.2.2.1.get g.2.2.1=IObj.cells [iI (Ste.l (fA ss g.1)),iI (Ste.r (fA ss g.1)),iI (Ste.y (fA ss g.1)),IV.vslice none 0 ((Ste.vs (fA ss g.1)).length) 1 (List.map kN (Ste.vs (fA ss g.1))),IV.vslice none 0 ((Ste.ms (fA ss g.1)).length) 1 (List.map kN (Ste.ms (fA ss g.1)))]/\2<=g.2.2.1)/\CnH l ss a b g.2.2.2.1 g.2.2.2.2/\∃(rh rep:Nat->Nat),UF E ((((g.2).2).2).2) rh rep)/\(ss.length-g.1)*2000+((Nd.ks (nL l ss g.1)).length-g.2.1)<=a9)/\∀(x:Nat×Nat×Nat×Heap×Y12)(c2:FF),((x.1<ss.length/\iV l (Ste.l (fA ss x.1))/\iV l (Ste.r (fA ss (x.1)))/\Ste.y (fA ss x.1)=0)/\(Nd.op (nL l ss x.1)=Nd.op (nR l ss x.1)/\Nd.im (nL l ss x.1)=Nd.im (nR l ss x.1)/\List.length (Nd.ks (nL l ss x.1))=(Nd.ks (nR l ss x.1)).length)/\(x.2.1<=List.length (Nd.ks (nL l ss x.1))/\∀(q:Nat),q<x.2.1->iV l (List.getD (Nd.ks (nL l ss x.1)) q 0)/\iV l (List.getD (Nd.ks (nR l ss x.1)) q 0)/\E ((List.getD (Nd.ks (nL l ss x.1)) q 0).toNat) ((List.getD (Nd.ks (nR l ss x.1)) q 0).toNat))/\(x.2.2.2.1.get x.2.2.1=IObj.cells [iI (Ste.l (fA ss x.1)),iI (Ste.r (fA ss x.1)),iI (Ste.y (fA ss x.1)),IV.vslice none 0 ((Ste.vs (fA ss x.1)).length) 1 (List.map kN (Ste.vs (fA ss x.1))),IV.vslice none 0 ((Ste.ms (fA ss x.1)).length) 1 (List.map kN (Ste.ms (fA ss x.1)))]/\2<=x.2.2.1)/\CnH l ss a b x.2.2.2.1 x.2.2.2.2/\∃(rh rep:Nat->Nat),UF E x.2.2.2.2 rh rep)->(ss.length-x.1)*2000+((Nd.ks (nL l ss x.1)).length-x.2.1)<=a9->aI (decide ((x.2.1:Int)< (↑((Nd.ks (nL l ss x.1)).length):Int))) (aJ x.2.2.2.1 0 fun g1=>aZ 3 g1 0 fun(j1:Y10)(i1 e4:Nat)(c8:Y14)=>aC (decide (0<=(x.2.1:Int)) &&decide ((x.2.1:Int)< (↑((Nd.ks (nL l ss x.1)).length):Int))) (aG .i64 (List.map kN (Nd.ks (nL l ss x.1))) ((x.2.1:Int).toNat*1) fun b7=> ∃(a6:Y15),(e4=a6.length/\c8=List.flatMap cN a6)/\aI (!(decide (0<=b7) &&decide (b7< (a6.length:Int)))) (Q d4K h) (aJ x.2.2.2.1 0 fun g2=>aZ 3 g2 0 fun(j2:Y10)(i3 e5:Nat)(c9:Y14)=>aC (decide (0<=(x.2.1:Int)) &&decide ((x.2.1:Int)< (↑((Nd.ks (nR l ss x.1)).length):Int))) (aG .i64 (List.map kN (Nd.ks (nR l ss x.1))) ((x.2.1:Int).toNat*(1:Nat)) fun b9=> ∃(a7:Y15),(e5=a7.length/\c9=List.flatMap cN a7)/\aI (!(decide (0<=b9) &&decide (b9< (a7.length:Int)))) (Q d4K h) (aC (decide (0<=(x.2.1:Int)) &&decide ((x.2.1:Int)< (↑((Nd.ks (nL l ss x.1)).length):Int))) (aG .i64 (List.map kN (Nd.ks (nL l ss x.1))) ((x.2.1:Int).toNat*1) fun e9=> ∃(k:Nat)(V:Nat->Nat->Prop)(u:Y12)(rh rep:Nat->Nat),(l.length=u.length/\e9=(k:Int))/\(b5W k u)/\(Equivalence V/\UF V u rh rep/\Heap.get x.2.2.2.1 1=IObj.cells (List.map kN u))/\∀(R:Y12)(h2:Heap),UF V R rh rep->FD 1 u R x.2.2.2.1 h2->aC (decide (0<=(x.2.1:Int)) &&decide ((x.2.1:Int)< (↑((Nd.ks (nR l ss x.1)).length):Int))) (aG .i64 (List.map kN (Nd.ks (nR l ss x.1))) ((x.2.1:Int).toNat*1) fun f0=> ∃(K:Nat)(X:Nat->Nat->Prop)(u:Y12)(rh j:Nat->Nat),(l.length=u.length/\f0=(K:Int))/\(c3U u K)/\(Equivalence X/\UF X u rh j/\Heap.get h2 1=IObj.cells (List.map kN u))/\∀(R:Y12)(m:Heap),UF X R rh j->FD 1 u R h2 m->aI (((rep k):Int) !=((j K):Int)) (Q d4K h) (∃(g:Nat×Nat×Nat×Heap×Y12),some tW=some tW/\some (uR l)=some (uR l)/\some (TV.v (.ptr x.2.2.1 0))=some (TV.v (.ptr (((g.2).2).1) 0))/\some c3T=some c3T/\some b5V=some b5V/\some (H4 ss)=some (H4 ss)/\some (H5 ss)=some (H5 ss)/\tI (x.1:Int)=tI (g.1:Int)/\tI (↑((Nd.ks (nL l ss x.1)).length):Int)=tI (↑((Nd.ks (nL l ss g.1)).length):Int)/\tI (wW ((x.2.1:Int)+1))=tI (g.2.1:Int)/\some [iI (Nd.op (nL l ss x.1)),iI (Nd.im (nL l ss x.1)),IV.vslice none 0 ((Nd.ks (nL l ss x.1)).length) 1 (List.map kN (Nd.ks (nL l ss x.1)))]=some [iI (Nd.op (nL l ss g.1)),iI (Nd.im (nL l ss g.1)),IV.vslice none 0 ((Nd.ks (nL l ss g.1)).length) 1 (List.map kN (Nd.ks (nL l ss g.1)))]/\some [iI (Nd.op (nR l ss x.1)),iI (Nd.im (nR l ss x.1)),IV.vslice none 0 ((Nd.ks (nR l ss x.1)).length) 1 (List.map kN (Nd.ks (nR l ss x.1)))]=some [iI (Nd.op (nR l ss g.1)),iI (Nd.im (nR l ss g.1)),IV.vslice none 0 ((Nd.ks (nR l ss g.1)).length) 1 (List.map kN (Nd.ks (nR l ss g.1)))]/\m=g.2.2.2.1/\((g.1<ss.length/\iV l (Ste.l (fA ss g.1))/\iV l (Ste.r (fA ss g.1))/\Ste.y (fA ss g.1)=0)/\(Nd.op (nL l ss g.1)=Nd.op (nR l ss g.1)/\Nd.im (nL l ss g.1)=Nd.im (nR l ss g.1)/\List.length (Nd.ks (nL l ss g.1))=(Nd.ks (nR l ss g.1)).length)/\(g.2.1<=List.length (Nd.ks (nL l ss g.1))/\∀(q:Nat),q< (g.2).1->iV l (List.getD (Nd.ks (nL l ss g.1)) q 0)/\iV l (List.getD (Nd.ks (nR l ss g.1)) q 0)/\E ((List.getD (Nd.ks (nL l ss g.1)) q 0).toNat) ((List.getD (Nd.ks (nR l ss g.1)) q 0).toNat))/\(((g.2.2.2).1).get g.2.2.1=IObj.cells [iI (Ste.l (fA ss g.1)),iI (Ste.r (fA ss g.1)),iI (Ste.y (fA ss g.1)),IV.vslice none 0 ((Ste.vs (fA ss g.1)).length) 1 (List.map kN (Ste.vs (fA ss g.1))),IV.vslice none 0 ((Ste.ms (fA ss g.1)).length) 1 (List.map kN (Ste.ms (fA ss g.1)))]/\2<=g.2.2.1)/\CnH l ss a b g.2.2.2.1 g.2.2.2.2/\∃(rh rep:Nat->Nat),UF E g.2.2.2.2 rh rep)/\(ss.length-g.1)*2000+((Nd.ks (nL l ss g.1)).length-g.2.1)< (ss.length-x.1)*2000+((Nd.ks (nL l ss x.1)).length-x.2.1))))))))) (∃(g:Nat×Nat×Heap×Y12),some tW=some tW/\some (uR l)=some (uR l)/\some (TV.v (.ptr x.2.2.1 0))=some (TV.v (.ptr g.2.1 0))/\some (H4 ss)=some (H4 ss)/\some (H5 ss)=some (H5 ss)/\tI (x.1:Int)=tI (g.1:Int)/\x.2.2.2.1=g.2.2.1/\((g.1<ss.length/\iV l (Ste.l (fA ss g.1))/\iV l (Ste.r (fA ss g.1))/\E ((Ste.l (fA ss g.1)).toNat) ((Ste.r (fA ss g.1)).toNat))/\(g.2.2.1.get g.2.1=IObj.cells [iI (Ste.l (fA ss (g.1))),iI (Ste.r (fA ss g.1)),iI (Ste.y (fA ss g.1)),IV.vslice none 0 ((Ste.vs (fA ss g.1)).length) 1 (List.map kN (Ste.vs (fA ss g.1))),IV.vslice none 0 ((Ste.ms (fA ss (g.1))).length) 1 (List.map kN (Ste.ms (fA ss g.1)))]/\2<=g.2.1)/\CnH l ss a b g.2.2.1 g.2.2.2/\∃(rh rep:Nat->Nat),UF E g.2.2.2 rh rep)/\List.length ss-g.1<=M))))))) (∃(g:Nat×Nat×Heap×Y12),some tW=some tW/\some (uR l)=some (uR l)/\some (TV.v (.ptr (x.2.1.next) 0))=some (TV.v (.ptr g.2.1 0))/\some (H4 ss)=some (H4 ss)/\some (H5 ss)=some (H5 ss)/\tI (x.1:Int)=tI (g.1:Int)/\Heap.set (x.2.1.push C9) (x.2.1.next) (H3 n6 n7 n8 i9 G A L D O p z zL)=((g.2).2).1/\((g.1<ss.length/\iV l (Ste.l (fA ss g.1))/\iV l (Ste.r (fA ss g.1))/\E ((Ste.l (fA ss g.1)).toNat) ((Ste.r (fA ss g.1)).toNat))/\(g.2.2.1.get g.2.1=IObj.cells [iI (Ste.l (fA ss g.1)),iI (Ste.r (fA ss g.1)),iI (Ste.y (fA ss g.1)),IV.vslice none 0 ((Ste.vs (fA ss g.1)).length) 1 (List.map kN (Ste.vs (fA ss g.1))),IV.vslice none 0 ((Ste.ms (fA ss g.1)).length) 1 (List.map kN (Ste.ms (fA ss g.1)))]/\2<=g.2.1)/\CnH l ss a b g.2.2.1 g.2.2.2/\∃(rh rep:Nat->Nat),UF E (g.2.2.2) rh rep)/\ss.length-g.1<=M))/\∀(g:Nat×Nat×Heap×Y12)(c2:FF),((g.1<ss.length/\iV l (Ste.l (fA ss g.1))/\iV l (Ste.r (fA ss g.1))/\E ((Ste.l (fA ss g.1)).toNat) ((Ste.r (fA ss g.1)).toNat))/\(g.2.2.1.get g.2.1=IObj.cells [iI (Ste.l (fA ss g.1)),iI (Ste.r (fA ss g.1)),iI (Ste.y (fA ss g.1)),IV.vslice none 0 ((Ste.vs (fA ss g.1)).length) 1 (List.map kN (Ste.vs (fA ss g.1))),IV.vslice none 0 ((Ste.ms (fA ss g.1)).length) 1 (List.map kN (Ste.ms (fA ss g.1)))]/\2<=g.2.1)/\CnH l ss a b (((g.2).2).1) g.2.2.2/\∃(rh rep:Nat->Nat),UF E g.2.2.2 rh rep)->ss.length-g.1<=M->aJ g.2.2.1 g.2.1 fun g3=>aG .i64 g3 0 fun(f1:Int)=>aJ g.2.2.1 g.2.1 fun g4=>aG .i64 g4 1 fun f2=> ∃(k:Nat)(V:Nat->Nat->Prop)(u:Y12)(rh rep:Nat->Nat),(l.length=u.length/\f1=(k:Int))/\(b5W k u)/\(Equivalence V/\UF V u rh rep/\Heap.get g.2.2.1 1=IObj.cells (List.map kN u))/\∀(R:Y12)(h2:Heap),UF V R rh rep->FD 1 u R g.2.2.1 h2->qP h2 g.2.1 1=qP g.2.2.1 g.2.1 1/\∃(K:Nat)(X:Nat->Nat->Prop)(u:Y12)(rh j:Nat->Nat),(l.length=u.length/\f2=(K:Int))/\(c3U u K)/\(Equivalence X/\UF X u rh j/\Heap.get h2 1=IObj.cells (List.map kN u))/\∀(R:Y12)(m:Heap),UF X R rh j->FD 1 u R h2 m->aC (decide (0<=((rep k):Int)) &&decide (((rep k):Int)< ((c3V l):Int))) (aJ m 1 fun a8=>aC (Nat.ble ((0:Nat)+((rep k):Int).toNat*1+1) a8.length) (∃(a0:Nat×Heap×Y12),some tW=some tW/\some (uR l)=some (uR l)/\some (H4 ss)=some (H4 ss)/\some (H5 ss)=some (H5 ss)/\tI (wW ((g.1:Int)+(1:Int)))=tI (a0.1:Int)/\Heap.set m 1 (IObj.cells (List.take ((0:Nat)+((rep k):Int).toNat*1) a8++ [iI ((j K):Int)]++List.drop ((0:Nat)+((rep k):Int).toNat*1+1) a8))=a0.2.1/\(a0.1<=ss.length/\CnH l ss a b a0.2.1 a0.2.2/\∃(rh rep:Nat->Nat),UF E a0.2.2 rh rep)/\ss.length-a0.1<ss.length-x.1))))))) (aJ ((x.2).1) 0 fun g5=>aZ 3 g5 0 fun(j3:Y10)(i4 e6:Nat)(d0:Y14)=>aJ x.2.1 0 fun g6=>aG .i64 g6 2 fun c0=> ∃(Y:Y15),(e6=Y.length/\d0=List.flatMap cN Y)/\aI (decide (0<=c0) &&decide (c0< (Y.length:Int))) (aJ x.2.1 0 fun g7=>aZ 3 g7 0 fun(j4:Y10)(i5 e7:Nat)(d1:Y14)=>aJ x.2.1 0 fun g8=>aG .i64 g8 3 fun c1=> ∃(Z:Y15),(e7=Z.length/\d1=List.flatMap cN Z)/\aI (decide (0<=c1) &&decide (c1< (Z.length:Int))) (aJ x.2.1 0 fun g9=>aG .i64 g9 2 fun(f3:Int)=>aJ x.2.1 0 fun h0=>aG .i64 h0 3 fun f4=> ∃(k:Nat)(E:Nat->Nat->Prop)(u:Y12)(rh rep:Nat->Nat),(l.length=u.length/\f3=(k:Int))/\(b5W k u)/\(Equivalence E/\UF E u rh rep/\Heap.get x.2.1 1=IObj.cells (List.map kN u))/\∀(R:Y12)(h2:Heap),UF E R rh rep->FD 1 u R x.2.1 h2->qP h2 0 3=qP x.2.1 0 3/\∃(K:Nat)(E:Nat->Nat->Prop)(u:Y12)(rh j:Nat->Nat),(l.length=u.length/\f4=(K:Int))/\(c3U u K)/\(Equivalence E/\UF E u rh j/\Heap.get h2 1=IObj.cells (List.map kN u))/\∀(R:Y12)(m:Heap),UF E R rh j->FD 1 u R h2 m->Q (.bool (((rep k):Int)==((j K):Int))) h) (Q d4K h)) (Q d4K h)))))):=by kernel_rfl
theorem d6Z: ∀xs h Q,a6Q xs h Q->aL env 54 xs h Q:=by
 intro xs h Q hk;unfold a6Q at hk;split at hk
 ·rename_i e1 n1 c1 e2 n2 c2 a b;obtain⟨l,ss,E,⟨rfl,rfl,rfl,rfl⟩,hb,⟨O,hC⟩,hk⟩:=hk;refine aN (c9U) (d8R l ss a b E e1 e2 h Q) ?_;delta C9 H3 uR H4 tW H5 kN uS d4K V5 c3S c3T b5V b5W c3U c3V tI wW iI;have tn: ∀x:Nat,(x:Int).toNat=x:=AK
  obtain⟨⟨e7,e8⟩,f0,c8⟩:=hb;have b4: ∀x:Nat,x<=1000000->IntKind.i64.wrap ((x:Int)+1)=((x+1:Nat):Int):=fun x hx=>by rw [AF _ JF];rfl
  have fin:Q (.bool false) h:=hk false (fun e=>by cases e);have a7: ∀i:Int,¬ (!(decide (0<=i) &&decide (i< (l.length:Int))))=true->iV l i:=fun i hi=>by
   simp only [FH,BO,AD,decide_eq_true_eq]at hi;exact hi
  simp only [tn,AX,AO];refine aA (by simp only [aP,bG,bR,pS,AL]) (aA (by simp only [AD,decide_eq_true_eq];omega) ⟨⟨(0,Heap.mk (PT.node (PT.node PT.nil (some (.cells (dY l.length [.int .i64 0]))) PT.nil) (some (.cells [.vslice none 0 (l).length 3 ((l).flatMap cN),.vslice none 0 ss.length 5 (ss.flatMap iT),.int .i64 a,.int .i64 b])) PT.nil) (1+1),List.replicate l.length 0),JJ,JJ,JJ,JJ,JJ,⟨BE _,⟨rfl,?_,JH,AG _⟩,fun q hq=>absurd hq (CF _)⟩,trivial⟩,?_⟩)
  ·show IObj.cells (dY _ _)=_;rw [mW]
  rintro⟨i,g,w⟩ _ ⟨hi,hH,hq⟩;dsimp only at hi hH hq⊢;obtain⟨h0,h1,b3,a2⟩:=hH;refine gO (fun c=>?_) (fun c=>?_)
  ·have c0:i<w.length:=JF;refine aW ⟨JF,JF⟩ (aD h1 (aA (by rw [AS,BG];omega) ?_));rw [Go.M14.Ko c0];refine⟨(i+1,g.set 1 (.cells ((w.set i (i:Int)).map (IV.int .i64))),w.set i (i:Int)),JJ,JJ,JJ,by rw [b4 _ JF],JJ,⟨JK,⟨(aH JG).trans h0,aK,by dsimp only;rw [BX];exact b3,a2⟩,fun q d5=>?_⟩,JK⟩;dsimp only at d5⊢;rw [Go.M23.getD_set c0];split
   ·rename_i e;rw [e]
   ·exact hq q JF
  have d9:w=idL l.length:=by
   refine List.ext_getElem (by rw [b3,Dq]) fun q q1 q2=>?_
   have:=hq q JF;rw [bH q1]at this;have h2:=Pm (n:=l.length) (k:=q) JF;rw [bH q2]at h2;rw [this,h2]
  refine aD h0 (bM rfl ⟨⟨(0,g,w),JJ,JJ,JJ,JJ,JJ,JJ,⟨BE _,⟨h0,h1,b3,a2⟩,_,_,by rw [d9];exact UF.init O _⟩,trivial⟩,?_⟩);rintro⟨t,g,u⟩ _ ⟨ht,hH,rh,rep,hu⟩;dsimp only at ht hH hu⊢;obtain⟨h0,h1,b2,a2⟩:=hH;refine gO (fun c=>?_) (fun c=>?_)
  case refine_2=>
   refine aD h0 (bM rfl (aD h0 (bB rfl ⟨l,⟨rfl,rfl⟩,aB (fun c1=>?_) (fun _=>fin)⟩)));refine aD h0 (bM rfl (aD h0 (bB rfl ⟨l,⟨rfl,rfl⟩,aB (fun c2=>?_) (fun _=>fin)⟩)));simp only [AD,decide_eq_true_eq]at c1 c2;refine aD h0 (bB rfl (aD h0 (bB rfl ⟨a.toNat,E,u,rh,rep,⟨b2.symm,JF⟩,⟨JF,JF⟩,⟨O,hu,h1⟩,fun u2 g2 d7 d4=>?_⟩)));obtain⟨⟨f1,f2⟩,f3,f4⟩:=(show FD 1 u u2 g g2 from d4);refine⟨by unfold qP;rw [f4 0 JG],b.toNat,E,u2,rh,rep,⟨JF,JF⟩,⟨JF,JF⟩,⟨O,d7,f2⟩,fun u3 g3 f5 e4=>hk _ fun e=>?_⟩;rw [beq_iff_eq]at e;exact⟨⟨c1.1,c1.2⟩,⟨c2.1,c2.2⟩,hu.same O JF JF JF⟩
  have a3:t<ss.length:=JF;have G:fA ss t=ss[t]:=bH a3;have e9: ∀x:IObj,(g.push x).get g.next=x:=fun x=>aT
  refine aW ⟨JF,JF⟩ (c4W a3 rfl (aD aT (aA rfl ?_)));have G0: ∀x y:IObj,((g.push x).set g.next y).get 0= .cells [.vslice none 0 (l).length 3 ((l).flatMap cN),.vslice none 0 ss.length 5 (ss.flatMap iT),.int .i64 a,.int .i64 b]:=fun x y=>(aH JF).trans ((aQ JF).trans h0)
  have G1: ∀x y:IObj,((g.push x).set g.next y).get 1= .cells (u.map (IV.int .i64)):=fun x y=>(aH JF).trans ((aQ JF).trans h1)
  generalize hg4:(g.push (.cells [.int .i64 0,.int .i64 0,.int .i64 0,.nilslice,.nilslice])).set g.next (.cells (.int .i64 ss[t].l:: .int .i64 ss[t].r:: .int .i64 ss[t].y:: .vslice none 0 ss[t].vs.length 1 (ss[t].vs.map (IV.int .i64)):: .vslice none 0 ss[t].ms.length 1 (ss[t].ms.map (IV.int .i64))::List.drop 5 [.int .i64 0,.int .i64 0,.int .i64 0,.nilslice,.nilslice]))=g4;have n4:2<=g4.next/\2<=g.next:=by rw [<-hg4];exact⟨FY a2,a2⟩
  have k0:=G0 (.cells [.int .i64 0,.int .i64 0,.int .i64 0,.nilslice,.nilslice]) (.cells (.int .i64 ss[t].l:: .int .i64 ss[t].r:: .int .i64 ss[t].y:: .vslice none 0 ss[t].vs.length 1 (ss[t].vs.map (IV.int .i64)):: .vslice none 0 ss[t].ms.length 1 (ss[t].ms.map (IV.int .i64))::List.drop 5 [.int .i64 0,.int .i64 0,.int .i64 0,.nilslice,.nilslice]));have k1:=G1 (.cells [.int .i64 0,.int .i64 0,.int .i64 0,.nilslice,.nilslice]) (.cells (.int .i64 ss[t].l:: .int .i64 ss[t].r:: .int .i64 ss[t].y:: .vslice none 0 ss[t].vs.length 1 (ss[t].vs.map (IV.int .i64)):: .vslice none 0 ss[t].ms.length 1 (ss[t].ms.map (IV.int .i64))::List.drop 5 [.int .i64 0,.int .i64 0,.int .i64 0,.nilslice,.nilslice]));rw [hg4]at k0 k1;have k2:g4.get g.next= .cells (iT ss[t]):=by rw [<-hg4];exact aK
  refine aD k0 (bM rfl (aD k2 (bB rfl ⟨l,⟨rfl,rfl⟩,aB (fun _=>fin) (fun cL=>?_)⟩)));have iL:=a7 _ (fun e=>by rw [cL]at e;cases e);refine aD k0 (bM rfl (aD k2 (bB rfl ⟨l,⟨rfl,rfl⟩,aB (fun _=>fin) (fun cR=>?_)⟩)));have iR:=a7 _ (fun e=>by rw [cR]at e;cases e);have d3:=hC _ (AH a3) iL iR;obtain⟨Ln,b6⟩: ∃p:Nat,ss[t].l=(p:Int):=⟨ss[t].l.toNat,by have:=iL.1;omega⟩
  obtain⟨Rn,b7⟩: ∃p:Nat,ss[t].r=(p:Int):=⟨ss[t].r.toNat,by have:=iR.1;omega⟩
  have lL:Ln<l.length:=by have:=iL.2;omega
  have lR:Rn<l.length:=by have:=iR.2;omega
  have Z:nL l ss t=l[Ln]:=by unfold nL;rw [G,b6,tn];exact bH lL
  have a5:nR l ss t=l[Rn]:=by unfold nR;rw [G,b7,tn];exact bH lR
  refine⟨ss.length-t,?_,?_⟩
  ·refine aD k2 (bB rfl (aB (fun cy=>?_) (fun cy=>?_)))
   ·rw [beq_iff_eq]at cy;refine aD k0 (bM rfl (aD k2 (bB rfl (aW ⟨iL.1,iL.2⟩ (pK lL (by rw [b6,tn]) ?_)))));refine aD k0 (bM rfl (aD k2 (bB rfl (aW ⟨iR.1,iR.2⟩ (pK lR (by rw [b7,tn]) ?_)))));refine aB (fun _=>fin) (fun c1=>aB (fun _=>fin) (fun c2=>aB (fun _=>fin) (fun c3=>?_)));rw [bne_eq_false_iff_eq]at c1 c2 c3;have e6:=c8 _ (AH lL);refine⟨(ss.length-t)*2000+l[Ln].ks.length,⟨(t,0,g.next,g4,u),JJ,JJ,JJ,JJ,JJ,JJ,JJ,JJ,by dsimp only;rw [Z],JJ,by dsimp only;rw [Z],by dsimp only;rw [a5],JJ,⟨⟨a3,by dsimp only;rw [G];exact iL,by dsimp only;rw [G];exact iR,by dsimp only;rw [G];exact cy⟩,⟨by dsimp only;rw [Z,a5];exact c1,by dsimp only;rw [Z,a5];exact c2,by dsimp only;rw [Z,a5];omega⟩,⟨BE _,fun q hq=>absurd hq (CF _)⟩,⟨by dsimp only;rw [G];exact k2,n4.2⟩,⟨k0,k1,b2,n4.1⟩,rh,rep,hu⟩,by dsimp only;rw [Z];omega⟩,?_⟩;rintro⟨A,q,j,g5,u5⟩ _ ⟨⟨L,D,K,a6⟩,⟨o1,o2,o3⟩,⟨d6,R⟩,⟨hj,a1⟩,a0,X,m,V⟩ hM;dsimp only at L D K a6 o1 o2 o3 d6 R hj a1 a0 V hM⊢;obtain⟨p0,p1,p2,p3⟩:=a0;refine gO (fun c4=>?_) (fun c4=>?_)
    ·have b0:q< (nL l ss A).ks.length:=JF;have e5:(nL l ss A).ks.length<=1000:=by
      have h1:=D.1;have h2:=D.2;have e:nL l ss A=l[(fA ss A).l.toNat]:=bH JF;rw [e];exact c8 _ (AH _)
     have c9:q< (nR l ss A).ks.length:=JF;have ea:(nL l ss A).ks.getD q 0=(nL l ss A).ks[q]:=bH b0;have eb:(nR l ss A).ks.getD q 0=(nR l ss A).ks[q]:=bH c9;have d0:((nL l ss A).ks.map (IV.int .i64))[q]?=some (.int .i64 (nL l ss A).ks[q]):=by rw [BL,AA b0];rfl
     have ldR:((nR l ss A).ks.map (IV.int .i64))[q]?=some (.int .i64 (nR l ss A).ks[q]):=by rw [BL,AA c9];rfl
     refine aD p0 (bM rfl (aW ⟨JF,JF⟩ (dN d0 ⟨l,⟨rfl,rfl⟩,aB (fun _=>fin) (fun c5=>?_)⟩)));refine aD p0 (bM rfl (aW ⟨JF,JF⟩ (dN ldR ⟨l,⟨rfl,rfl⟩,aB (fun _=>fin) (fun c6=>?_)⟩)));have i5:=a7 _ (fun e=>by rw [c5]at e;cases e);have i6:=a7 _ (fun e=>by rw [c6]at e;cases e);have f6:=i5.1;have f7:=i5.2;have f8:=i6.1;have f9:=i6.2;refine aW ⟨JF,JF⟩ (dN d0 ⟨(nL l ss A).ks[q].toNat,E,u5,X,m,⟨p2.symm,JF⟩,⟨JF,JF⟩,⟨O,V,p1⟩,fun u6 g6 b1 a8=>?_⟩);obtain⟨⟨f1,f2⟩,f3,f4⟩:=(show FD 1 u5 u6 g5 g6 from a8);refine aW ⟨JF,JF⟩ (dN ldR ⟨(nR l ss A).ks[q].toNat,E,u6,X,m,⟨JF,JF⟩,⟨JF,JF⟩,⟨O,b1,f2⟩,fun u7 g7 a4 a9=>?_⟩);obtain⟨⟨m1,m2⟩,m3,m4⟩:=(show FD 1 u6 u7 g6 g7 from a9);refine aB (fun _=>fin) (fun c7=>?_);rw [bne_eq_false_iff_eq]at c7;refine⟨(A,q+1,j,g7,u7),JJ,JJ,JJ,JJ,JJ,JJ,JJ,JJ,JJ,by rw [b4 _ JF],JJ,JJ,JJ,⟨⟨L,D,K,a6⟩,⟨o1,o2,o3⟩,⟨b0,fun z hz=>?_⟩,⟨(m4 j JF).trans ((f4 j JF).trans hj),a1⟩,⟨(m4 0 JG).trans ((f4 0 JG).trans p0),m2,JK,JK⟩,X,m,a4⟩,JK⟩;dsimp only at hz⊢;rcases BB z q with d|d
     ·exact R z d
     ·obtain rfl:z=q:=JF;rw [ea,eb];exact⟨i5,i6,V.same O JF JF JF⟩
    ·have b9:q=(nL l ss A).ks.length:=JF;subst b9;refine⟨(A,j,g5,u5),JJ,JJ,JJ,JJ,JJ,JJ,JJ,⟨⟨L,D,K,?_⟩,⟨hj,a1⟩,⟨p0,p1,p2,p3⟩,X,m,V⟩,JK⟩;have Y:fA ss A=ss[A]:=bH L;have d2:=(hC _ (AH L) (by rw [Y]at D;exact D) (by rw [Y]at K;exact K)).2;unfold nL nR at o1 o2 o3 R;rw [Y]at o1 o2 o3 R a6;dsimp only;rw [Y];exact d2 a6 o1 o2 o3 (fun z hz _ _=>(R z hz).2.2) (fun z hz=>⟨(R z hz).1,(R z hz).2.1⟩)
   ·rw [beq_eq_false_iff_ne]at cy;exact⟨(t,g.next,g4,u),JJ,JJ,JJ,JJ,JJ,JJ,JJ,⟨⟨a3,by dsimp only;rw [G];exact iL,by dsimp only;rw [G];exact iR,by dsimp only;rw [G];exact d3.1 cy⟩,⟨by dsimp only;rw [G];exact k2,n4.2⟩,⟨k0,k1,b2,n4.1⟩,rh,rep,hu⟩,AG _⟩
  rintro⟨A,j,g5,u5⟩ _ ⟨⟨L,D,K,b5⟩,⟨hj,a1⟩,a0,X,m,V⟩ hM;dsimp only at L D K b5 hj a1 a0 V hM⊢;obtain⟨p0,p1,p2,p3⟩:=a0;have g0:=D.1;have g1:=D.2;have g8:=K.1;have g9:=K.2;refine aD hj (bB rfl (aD hj (bB rfl ⟨(fA ss A).l.toNat,E,u5,X,m,⟨p2.symm,JF⟩,⟨JF,JF⟩,⟨O,V,p1⟩,fun u6 g6 b1 a8=>?_⟩)));obtain⟨⟨f1,f2⟩,f3,f4⟩:=(show FD 1 u5 u6 g5 g6 from a8);refine⟨by unfold qP;rw [f4 j JF],(fA ss A).r.toNat,E,u6,X,m,⟨JF,JF⟩,⟨JF,JF⟩,⟨O,b1,f2⟩,fun u7 g7 a4 a9=>?_⟩;obtain⟨⟨m1,m2⟩,m3,m4⟩:=(show FD 1 u6 u7 g6 g7 from a9);have rA:=a4.rep_eq O _ (fA ss A).l.toNat (AV _) JF;have rB:=a4.rep_eq O _ (fA ss A).r.toNat (AV _) JF;refine aW ⟨JF,JF⟩ (aD m2 (aA (by rw [AS,BG];omega) ?_));rw [Go.M14.Ko rA.1];obtain⟨e3,d1,d8⟩:=a4.link O rA.1 rB.1 rA.2.1 rB.2.1 (O.trans (O.symm rA.2.2) (O.trans b5 rB.2.2));exact⟨(A+1,g7.set 1 (.cells ((u7.set (m (fA ss A).l.toNat) (m (fA ss A).r.toNat:Int)).map (IV.int .i64))),u7.set (m (fA ss A).l.toNat) (m (fA ss A).r.toNat:Int)),JJ,JJ,JJ,JJ,by rw [b4 _ JF],JJ,⟨L,⟨(aH JG).trans ((m4 0 JG).trans ((f4 0 JG).trans p0)),aK,by dsimp only;rw [BX];omega,by dsimp only;show 2<=g7.next;omega⟩,e3,d1,d8⟩,JK⟩
 ·exact hk.elim
def a7V(xs:Y14)(h:Heap)(K:KT):Prop:=match xs with
 | [.vslice none e1 n1 2 c1,.int .i64 n]=> ∃H:List (Int×Int),(n1=H.length/\c1=H.flatMap cR)/\H.length<=9223372036854775807/\K (.tuple [.agg [.int .i64 (vr H n).1,.int .i64 (vr H n).2],.bool (St H n)]) h
 |_=>False
theorem d9V(H:IvL)(g:Nat)(n:Int)(h:Heap)(Q:KT):dF (aR a5F) env 214 cS bK bK [.vslice none g H.length 2 (H.flatMap cR),.int .i64 n] h Q=(
 aC (aP [IV.vslice none 0 H.length 2 (List.flatMap cR H),iI n]) (aI (decide (n<1)) (Q (.tuple [.agg [.int .i64 0,iI 0],IV.bool false]) h) (aI (decide (n>(H.length:Int))) (Q (.tuple [.agg [.int .i64 0,iI 0],IV.bool false]) h) (aC (decide (0<=wW (n-1)) &&decide (wW (n-1)< (H.length:Int))) (aG .i64 (List.flatMap cR H) ((wW (n-1)).toNat*2) fun j=>aG .i64 (List.flatMap cR H) ((wW (n-1)).toNat*2+1) fun l=>Q (.tuple [.agg [.int .i64 j,iI l],IV.bool true]) h))))):=by kernel_rfl
theorem d8C: ∀xs h Q,a7V xs h Q->aL env 214 xs h Q:=by
 intro xs h Q g;unfold a7V at g;split at g
 ·rename_i j m c1 n;obtain⟨H,⟨rfl,rfl⟩,l,g⟩:=g;refine aN (a9X) (d9V H j n h Q) ?_;delta wW iI;refine aA (by simp only [aP,bG,yD,AL]) ?_;refine aB (fun c=>?_) (fun c1=>aB (fun c=>?_) (fun c2=>?_))
  ·rw [decide_eq_true_eq]at c;rw [c6F (Yb (.inl c)),Yb (.inl c)]at g;exact g
  ·rw [decide_eq_true_eq]at c;rw [c6F (Yb (.inr c)),Yb (.inr c)]at g;exact g
  ·rw [decide_eq_false_iff_not]at c1 c2;rw [c6E JF JF]at g;exact ldH (K:=fun x y=>Q (IV.tuple [IV.agg [IV.int .i64 x,IV.int .i64 y],IV.bool true]) h) JF JF l g
 ·exact g.elim
def a5H:=aV 214 a7V a5F
theorem a9Y:aO env a5H:=aF d8C (a9X)
def Dy(xs:Y14)(h:Heap)(K:KT):Prop:=match xs with
 | [.agg [.int .i64 k,.int .i64 a,.int .i64 b,.int .i64 n],.vslice none e1 n1 2 c1,.vslice none e2 n2 1 c2]=> ∃(H:List (Int×Int))(L:Y12),(n1=H.length/\c1=H.flatMap cR)/\(n2=L.length/\c2=L.map (IV.int .i64))/\(H.length<=9223372036854775807/\L.length<=9223372036854775807/\∀x∈L,inR x)/\K (.bool (holds k a b n H L)) h
 |_=>False
def U3:=IV.bool false
theorem c1Z(k a b n:Int)(H:IvL)(L:Y12)(l m:Nat)(h:Heap)(Q:KT):dF (aR a5H) env 142 cS bK bK [.agg [.int .i64 k,.int .i64 a,.int .i64 b,.int .i64 n],.vslice none l H.length 2 (H.flatMap cR),.vslice none m L.length 1 (L.map (IV.int .i64))] h Q=(
 aC (aP [IV.agg [.int .i64 k,iI a,iI b,iI n],IV.vslice none 0 H.length 2 (List.flatMap cR H),IV.vslice none 0 L.length 1 (List.map (IV.int .i64) L)]) (∃(g:List (Int×Int)),(List.length H=g.length/\List.flatMap cR H=List.flatMap cR g)/\g.length<=9223372036854775807/\aI (!St g a) (Q U3 h) (aI (k==1) (Q (.bool !contains ((vr g a).1) ((vr g a).2) 0) h) (aI (k==2) (Q (.bool (decide ((vr g a).1>=n))) h) (aI (k==3) (Q (.bool (decide ((vr g a).2<=n))) h) (aI (k==4) (∃(j:List (Int×Int)),(H.length=j.length/\List.flatMap cR H=List.flatMap cR j)/\j.length<=9223372036854775807/\aI (St j b) (Q (.bool !pP ((vr g a).1) ((vr g a).2) ((vr j b).1) ((vr j b).2)) h) (Q U3 h)) (aI (k==5) (aI (decide (b>=1)) (aI (decide (b<=(L.length:Int))) (aI (decide ((vr g a).1>=0)) (aC (decide (0<=wW (b- (1:Int))) &&decide (wW (b-1)< (L.length:Int))) (aG .i64 (List.map (IV.int .i64) L) ((wW (b-1)).toNat*1) fun p=>Q (.bool (decide ((vr g a).2<p))) h)) (Q U3 h)) (Q U3 h)) (Q U3 h)) (Q U3 h)))))))):=by kernel_rfl
theorem c0Q: ∀xs h Q,Dy xs h Q->aL env 142 xs h Q:=by
 intro xs h Q g;unfold Dy at g;split at g
 ·rename_i k a b n A O c1 D R c2;obtain⟨H,L,⟨rfl,rfl⟩,⟨rfl,rfl⟩,G,g⟩:=g;refine aN (a9Y) (c1Z k a b n H L A D h Q) ?_;delta U3 wW iI;obtain⟨r,K,hL⟩:=G;refine aA (by simp only [aP,bG,yD,bC,AL]) ⟨H,⟨rfl,rfl⟩,r,aB (fun c=>?_) (fun c=>?_)⟩
  ·have c:St H a=false:=by simpa using c
   rw [show holds k a b n H L=false from if_pos c]at g;exact g
  have c:St H a=true:=by simpa using c
  unfold holds at g;rw [if_neg (by rw [c];simp)]at g;refine aB (fun c1=>?_) (fun c1=>?_)
  ·rw [beq_iff_eq]at c1;rw [if_pos c1]at g;exact g
  rw [beq_eq_false_iff_ne]at c1;rw [if_neg c1]at g;refine aB (fun c2=>?_) (fun c2=>?_)
  ·rw [beq_iff_eq]at c2;rw [if_pos c2]at g;exact g
  rw [beq_eq_false_iff_ne]at c2;rw [if_neg c2]at g;refine aB (fun l=>?_) (fun l=>?_)
  ·rw [beq_iff_eq]at l;rw [if_pos l]at g;exact g
  rw [beq_eq_false_iff_ne]at l;rw [if_neg l]at g;refine aB (fun m=>?_) (fun m=>?_)
  ·rw [beq_iff_eq]at m;rw [if_pos m]at g;refine⟨H,⟨rfl,rfl⟩,r,aB (fun d=>?_) (fun d=>?_)⟩
   ·rw [d]at g;exact g
   ·rw [d]at g;exact g
  rw [beq_eq_false_iff_ne]at m;rw [if_neg m]at g;refine aB (fun p=>?_) (fun p=>?_)
  ·rw [beq_iff_eq]at p;rw [if_pos p]at g;refine aB (fun j=>aB (fun q=>aB (fun y=>?_) (fun y=>?_)) (fun q=>?_)) (fun j=>?_)
   ·rw [show decide (1<=b)=true from j,q,show decide (0<=(vr H a).1)=true from y]at g;rw [decide_eq_true_eq]at j q;have z:(b-1).toNat<L.length:=JF;rw [AF _ JF];refine aA (by simp;omega) ?_;rw [AO];refine bT z ?_;rw [AC,AA z]at g;exact g
   ·rw [show decide (1<=b)=true from j,q,show decide (0<=(vr H a).1)=false from y]at g;exact g
   ·rw [show decide (1<=b)=true from j,q]at g;exact g
   ·rw [show decide (1<=b)=false from j]at g;exact g
  ·rw [beq_eq_false_iff_ne]at p;rw [if_neg p]at g;exact g
 ·exact g.elim
def Uc:=aV 142 Dy a5H
theorem a8Y:aO env Uc:=aF c0Q (a9Y)
def Pt(xs:Y14)(h:Heap)(K:KT):Prop:=match xs with
 | [x]=>a6Q [x] h K
 |_=>False
theorem d0M: ∀xs h Q,Pt xs h Q->aL env 54 xs h Q:=by
 intro xs h Q g;unfold Pt at g;split at g
 ·exact d6Z _ _ _ g
 ·exact g.elim
def a3Y:=aV 54 Pt Uc
theorem b9W:aO env a3Y:=aF d0M (a8Y)
def Eb(xs:Y14)(h:Heap)(K:KT):Prop:=match xs with
 | [x,y,z,w]=>Ec [x,y,z,w] h K
 |_=>False
theorem c0T: ∀xs h Q,Eb xs h Q->aL env 141 xs h Q:=by
 intro xs h Q g;unfold Eb at g;split at g
 ·exact c0U _ _ _ g
 ·exact g.elim
def Ud:=aV 141 Eb a3Y
theorem a8Z:aO env Ud:=aF c0T (b9W)
def Ez(xs:Y14)(h:Heap)(K:KT):Prop:=match xs with
 | [x]=>Qx [x] h K
 |_=>False
theorem c1H: ∀xs h Q,Ez xs h Q->aL env 140 xs h Q:=by
 intro xs h Q g;unfold Ez at g;split at g
 ·exact d1N _ _ _ g
 ·exact g.elim
def Da:=aV 140 Ez Ud
theorem Jt:aO env Da:=aF c1H (a8Z)
def c8O(xs:Y14)(h:Heap)(K:KT):Prop:=match xs with
 | [.ptr id 0,.int .i64 i]=> ∃(rl:List Ru)(g:Y12)(l:Y15)(j:Nat),CkH rl g l id j h/\K (.bool (decide (0<=i) &&decide (i< (l.length:Int)))) h
 |_=>False
theorem e4H(id:Nat)(i:Int)(rl:List Ru)(g:Y12)(l:Y15)(r:Nat)(h:Heap)(Q:KT):dF (aR Da) env 94 cS bK bK [.ptr id 0,.int .i64 i] h Q=(
 aI (decide (i>=0)) (aJ h id fun r0=>aZ 3 r0 2 fun(q:Y10)(p j:Nat)(m:Y14)=>Q (.bool (decide (i< (j:Int)))) h) (Q (.bool false) h)):=by kernel_rfl
theorem e3F: ∀xs h Q,c8O xs h Q->aL env 94 xs h Q:=by
 intro xs h Q g;unfold c8O at g;split at g
 ·rename_i id i;obtain⟨rl,j,l,y,r,g⟩:=g;refine aN (Jt) (e4H id i rl j l y h Q) ?_;obtain⟨m,c1,q,p⟩:=r;refine gO (fun c=>aD m (bM rfl ?_)) (fun c=>?_)
  ·rw [decide_eq_true (show 0<=i from c),BC]at g;exact g
  ·rw [decide_eq_false (show¬0<=i from c),BM]at g;exact g
 ·exact g.elim
def c7B:=aV 94 c8O Da
theorem c5C:aO env c7B:=aF e3F (Jt)
def c8M(xs:Y14)(h:Heap)(K:KT):Prop:=match xs with
 | [.ptr id 0,.agg [.int .i64 a,.int .i64 b,.int .i64 y,.vslice i1 e1 n1 1 c1,.vslice i2 e2 n2 1 c2]]=> ∃(s:Ste)(rl:List Ru)(g:Y12)(l:Y15)(j:Nat),(i1=none/\i2=none/\a=s.l/\b=s.r/\y=s.y/\n1=s.vs.length/\c1=s.vs.map (IV.int .i64)/\n2=s.ms.length/\c2=s.ms.map (IV.int .i64))/\(CkH rl g l id j h/\WS l/\iV l s.l/\iV l s.r)/\∀(b:Bool)(h2:Heap),HP h h2->K (.bool b) h2
 |_=>False
def My(s:Ste)(g j:Nat)(h:Heap):=h.push (IObj.cells [iI (Ste.l s),iI (Ste.r s),iI (Ste.y s),IV.vslice none g ((Ste.vs s).length) 1 (List.map (IV.int .i64) (Ste.vs s)),IV.vslice none j ((Ste.ms s).length) 1 (List.map (IV.int .i64) (Ste.ms s))])
theorem e4F(id:Nat)(s:Ste)(j m:Nat)(rl:List Ru)(R:Y12)(l:Y15)(is:Nat)(h:Heap)(Q:KT):dF (aR c7B) env 95 cS bK bK [.ptr id 0,.agg [.int .i64 s.l,.int .i64 s.r,.int .i64 s.y,.vslice none j s.vs.length 1 (s.vs.map (IV.int .i64)),.vslice none m s.ms.length 1 (s.ms.map (IV.int .i64))]] h Q=(
 aJ (My s j m h) id fun r0=>aZ 3 r0 2 fun(i1:Y10)(O l3:Nat)(z:Y14)=>aJ (My s j m h) (h.next) fun r5=>aG .i64 r5 0 fun q=>aC (decide (0<=q) &&decide (q< (l3:Int))) (aG .i64 z (q.toNat*3) fun n7=>aG .i64 z (q.toNat*3+1) fun n8=>aZ 1 z (q.toNat*3+1+1) fun(i9:Y10)(Y A:Nat)(V:Y14)=>aJ (My s j m h) id fun(W9:Y14)=>aZ 3 W9 2 fun(a1:Y10)(Z D:Nat)(p:Y14)=>aJ (My s j m h) (h.next) fun Gq=>aG .i64 Gq 1 fun g=>aC (decide (0<=g) &&decide (g< (D:Int))) (aG .i64 p (g.toNat*3) fun K=>aG .i64 p (g.toNat*3+1) fun L=>aZ 1 p (g.toNat*3+1+1) fun(a2:Y10)(a0 G:Nat)(X:Y14)=>aI (n7==K) (aI (n8==L) (Q (.bool ((A:Int)==(G:Int))) (My s j m h)) (Q (.bool false) (My s j m h))) (Q (.bool false) (My s j m h))))):=by kernel_rfl
theorem e3D: ∀xs h Q,c8M xs h Q->aL env 95 xs h Q:=by
 intro xs h Q g;unfold c8M at g;split at g
 ·rename_i id a b y i1 j n1 c1 i2 m n2 c2;obtain⟨s,rl,q,l,is,⟨rfl,rfl,rfl,rfl,rfl,rfl,rfl,rfl,rfl⟩,⟨hc,hw,A,D⟩,g⟩:=g;refine aN (c5C) (e4F id s j m rl q l is h Q) ?_;delta My iI;have R: ∀x:Nat,(x:Int).toNat=x:=AK
  obtain⟨Y,c1,Z,G⟩:=hc;have O:=G.1;obtain⟨V,K⟩: ∃p:Nat,s.l=(p:Int):=⟨s.l.toNat,by have:=A.1;omega⟩
  obtain⟨X,L⟩: ∃p:Nat,s.r=(p:Int):=⟨s.r.toNat,by have:=D.1;omega⟩
  have lL:V<l.length:=by have:=A.2;omega
  have lR:X<l.length:=by have:=D.2;omega
  have k0:(h.push (.cells [.int .i64 s.l,.int .i64 s.r,.int .i64 s.y,.vslice none j s.vs.length 1 (s.vs.map (IV.int .i64)),.vslice none m s.ms.length 1 (s.ms.map (IV.int .i64))])).get id=_:=(aQ O).trans Y;have k2:(h.push (.cells [.int .i64 s.l,.int .i64 s.r,.int .i64 s.y,.vslice none j s.vs.length 1 (s.vs.map (IV.int .i64)),.vslice none m s.ms.length 1 (s.ms.map (IV.int .i64))])).get h.next=_:=aT;have z:HP h (h.push (.cells [.int .i64 s.l,.int .i64 s.r,.int .i64 s.y,.vslice none j s.vs.length 1 (s.vs.map (IV.int .i64)),.vslice none m s.ms.length 1 (s.ms.map (IV.int .i64))])):=HP.push;generalize h.push (.cells [.int .i64 s.l,.int .i64 s.r,.int .i64 s.y,.vslice none j s.vs.length 1 (s.vs.map (IV.int .i64)),.vslice none m s.ms.length 1 (s.ms.map (IV.int .i64))])=g4 at k0 k2 z⊢;refine aD k0 (bM rfl (aD k2 (bB rfl (aW ⟨A.1,A.2⟩ (pK lL (by rw [K,R]) ?_)))));refine aD k0 (bM rfl (aD k2 (bB rfl (aW ⟨D.1,D.2⟩ (pK lR (by rw [L,R]) ?_)))));exact aB (fun _=>aB (fun _=>g _ _ z) (fun _=>g _ _ z)) (fun _=>g _ _ z)
 ·exact g.elim
def c6Z:=aV 95 c8M c7B
theorem c5A:aO env c6Z:=aF e3D (c5C)
structure CfX where
 g:Heap
 js:Nat
 i:Nat
 x:Int
 y:Int
def nA(l:Y15)(s:Ste):Nd:=l.getD s.l.toNat default
def nB(l:Y15)(s:Ste):Nd:=l.getD s.r.toNat default
def d5U(id:Nat)(s:Ste)(j m:Nat)(l:Y15)(p:Nat)(h:Heap):Inv':=eA CfX (fun x=>[(0,.v (.ptr id 0)),(5,.l 5 0),(6,.l 6 0),(8,.l 8 0),(74,.v (.vslice none 0 (nA l s).ks.length 1 ((nA l s).ks.map (IV.int .i64)))),(75,.v (.int .i64 ((nA l s).ks.length:Int))),(76,.v (.int .i64 (x.i:Int)))]) (fun x=>[(5,cN (nA l s)),(6,cN (nB l s)),(8,[.int .i64 x.x,.int .i64 x.y])]) (fun x=>x.g)
 (fun x=>HP h x.g/\(4<=(nA l s).op/\(nA l s).op<=21/\(nB l s).op=1)/\x.i<=(nA l s).ks.length/\(∀q,q<x.i->(l.getD ((nA l s).ks.getD q 0).toNat default).op=1)/\(0<x.i->x.x=(l.getD ((nA l s).ks.getD 0 0).toNat default).im)/\(1<x.i->x.y=(l.getD ((nA l s).ks.getD 1 0).toNat default).im)) (fun x=>(nA l s).ks.length-x.i)
def c8N(xs:Y14)(h:Heap)(K:KT):Prop:=match xs with
 | [.ptr id 0,.agg [.int .i64 a,.int .i64 b,.int .i64 y,.vslice i1 e1 n1 1 c1,.vslice i2 e2 n2 1 c2]]=> ∃(s:Ste)(rl:List Ru)(g:Y12)(l:Y15)(j:Nat),(i1=none/\i2=none/\a=s.l/\b=s.r/\y=s.y/\n1=s.vs.length/\c1=s.vs.map (IV.int .i64)/\n2=s.ms.length/\c2=s.ms.map (IV.int .i64))/\(CkH rl g l id j h/\WS l/\iV l s.l/\iV l s.r)/\∀(b:Bool)(h2:Heap),(b=true->W2 l s.l.toNat s.r.toNat)->HP h h2->K (.bool b) h2
 |_=>False
def d4V(s:Ste)(g j:Nat):=IObj.cells [iI (Ste.l s),iI (Ste.r s),iI (Ste.y s),IV.vslice none g ((Ste.vs s).length) 1 (List.map (IV.int .i64) (Ste.vs s)),IV.vslice none j ((Ste.ms s).length) 1 (List.map (IV.int .i64) (Ste.ms s))]
def c3Z(s:Ste)(l:Y15):=[iI (Nd.op (nA l s)),iI (Nd.im (nA l s)),IV.vslice none 0 ((Nd.ks (nA l s)).length) 1 (List.map (IV.int .i64) (Nd.ks (nA l s)))]
def c4A(s:Ste)(l:Y15):=[iI (Nd.op (nB l s)),iI (Nd.im (nB l s)),IV.vslice none 0 ((Nd.ks (nB l s)).length) 1 (List.map (IV.int .i64) (Nd.ks (nB l s)))]
def c4B(s:Ste)(l:Y15):=TV.v (.vslice none 0 ((Nd.ks (nA l s)).length) 1 (List.map (IV.int .i64) (Nd.ks (nA l s))))
def b6H(x:CfX):=[iI (CfX.x x),iI (CfX.y x)]
abbrev c4C(s:Ste)(l:Y15):=4<=Nd.op (nA l s)/\Nd.op (nA l s)<=21/\Nd.op (nB l s)=1
def c4D(s:Ste)(l:Y15):=List.getD l ((List.getD (Nd.ks (nA l s)) 0 0).toNat) default
def c4E(s:Ste)(l:Y15):=List.getD l ((List.getD (Nd.ks (nA l s)) 1 0).toNat) default
def c4F(s:Ste)(l:Y15):=TV.v (.int .i64 (↑((Nd.ks (nA l s)).length):Int))
def c4G(s:Ste)(l:Y15)(q:Nat):=List.getD l ((List.getD (Nd.ks (nA l s)) q 0).toNat) default
def zH(s:Ste)(g j:Nat)(h:Heap):=h.push (d4V s g j)
def b6I:=TV.l 5 0
def b6J:=TV.l 6 0
def b6K:=TV.l 8 0
def d4W(x:CfX):=(0:Nat)+((CfX.i x):Int).toNat*1+1
def a2Z:=IV.bool false
def b6L(id:Nat):=TV.v (.ptr id 0)
theorem e4G(id:Nat)(s:Ste)(m p:Nat)(rl:List Ru)(c5:Y12)(l:Y15)(is:Nat)(h:Heap)(Q:KT):dF (aR c6Z) env 96 cS (oE 14 (d5U id s m p l is h)) bK [.ptr id 0,.agg [.int .i64 s.l,.int .i64 s.r,.int .i64 s.y,.vslice none m s.vs.length 1 (s.vs.map (IV.int .i64)),.vslice none p s.ms.length 1 (s.ms.map (IV.int .i64))]] h Q=(
 aJ (zH s m p h) id fun r0=>aZ 3 r0 2 fun(i1:Y10)(c3 l3:Nat)(c4:Y14)=>aJ (zH s m p h) (h.next) fun r5=>aG .i64 r5 0 fun X=>aC (decide (0<=X) &&decide (X< (l3:Int))) (aG .i64 c4 (X.toNat*3) fun Y=>aG .i64 c4 (X.toNat*3+1) fun n8=>aZ 1 c4 (X.toNat*3+1+1) fun(i9:Y10)(R z:Nat)(D:Y14)=>aJ (zH s m p h) id fun(W9:Y14)=>aZ 3 W9 2 fun(d2:Y10)(c7 a4:Nat)(L:Y14)=>aJ (zH s m p h) (h.next) fun Gq=>aG .i64 Gq 1 fun G=>aC (decide (0<=G) &&decide (G< (a4:Int))) (aG .i64 L (G.toNat*3) fun V=>aG .i64 L (G.toNat*3+1) fun a9=>aZ 1 L (G.toNat*3+1+1) fun(a3:Y10)(a2 a5:Nat)(Z:Y14)=>aI (Y==22) (aJ (zH s m p h) id fun(r26:Y14)=>aZ 3 r26 2 fun(d3:Y10)(c8 a6:Nat)(O:Y14)=>aC (true&&decide (0< (z:Int))) (aG .i64 D 0 fun K=>aC (decide (0<=K) &&decide (K< (a6:Int))) (aG .i64 O (K.toNat*(3:Nat)) fun b0=>aG .i64 O (K.toNat*3+1) fun b1=>aZ 1 O (K.toNat*3+1+1) fun(d4:Y10)(c9 d7:Nat)(c6:Y14)=>aI (b0 !=1) (Q a2Z (zH s m p h)) (aI (b1 !=(0:Int)) (aJ (zH s m p h) (h.next) fun b9=>aG .i64 b9 1 fun b2=>aC (true&&decide (1< (z:Int))) (aG .i64 D 1 fun b3=>Q (.bool (b2==b3)) (zH s m p h))) (aJ (zH s m p h) (h.next) fun c0=>aG .i64 c0 1 fun b4=>aC (true&&decide (2< (z:Int))) (aG .i64 D 2 fun b5=>Q (.bool (b4==b5)) (zH s m p h))))))) (aI (decide (Y<4)) (Q a2Z (zH s m p h)) (aI (decide (Y>(21:Int))) (Q a2Z (zH s m p h)) (aI (V !=1) (Q a2Z (zH s m p h)) ((∃(x:CfX),some (b6L id)=some (b6L id)/\some b6I=some b6I/\some b6J=some b6J/\some b6K=some b6K/\some (TV.v (.vslice i9 R z 1 D))=some (c4B s l)/\tI (z:Int)=some (c4F s l)/\tI 0=tI ((CfX.i x):Int)/\some [iI Y,iI n8,IV.vslice i9 R z 1 D]=some (c3Z s l)/\some [iI V,iI a9,IV.vslice a3 a2 a5 1 Z]=some (c4A s l)/\some [iI 0,iI 0]=some (b6H x)/\Heap.push h (d4V s m p)=CfX.g x/\(HP h (CfX.g x)/\(c4C s l)/\CfX.i x<=List.length (Nd.ks (nA l s))/\(∀(q:Nat),q<CfX.i x->Nd.op (c4G s l q)=1)/\(0<CfX.i x->CfX.x x=Nd.im (c4D s l))/\(1<CfX.i x->CfX.y x=Nd.im (c4E s l)))/\True)/\∀(x:CfX)(b:FF),HP h (CfX.g x)/\(c4C s l)/\CfX.i x<=List.length (Nd.ks (nA l s))/\(∀(q:Nat),q<CfX.i x->Nd.op (c4G s l q)=1)/\(0<CfX.i x->CfX.x x=Nd.im (c4D s l))/\(1<CfX.i x->CfX.y x=Nd.im (c4E s l))->aI (decide (((CfX.i x):Int)< (↑((Nd.ks (nA l s)).length):Int))) (aC (decide (0<=((CfX.i x):Int)) &&decide (((CfX.i x):Int)< (↑((Nd.ks (nA l s)).length):Int))) (aG .i64 (List.map (IV.int .i64) (Nd.ks (nA l s))) (((CfX.i x):Int).toNat*1) fun A=>aJ (CfX.g x) id fun c1=>aZ 3 c1 2 fun(d5:Y10)(d0 a7:Nat)(a0:Y14)=>aC (decide (0<=A) &&decide (A< (a7:Int))) (aG .i64 a0 (A.toNat*3+0) fun b6=>aI (b6 !=1) (Q a2Z (CfX.g x)) (aJ (CfX.g x) id fun c2=>aZ 3 c2 2 fun(d6:Y10)(d1 a8:Nat)(a1:Y14)=>aC (decide (0<=A) &&decide (A< (a8:Int))) (aG .i64 a1 (A.toNat*3+1) fun b7=>aC (decide (0<=((CfX.i x):Int)) &&decide (((CfX.i x):Int)<2)) (aC (Nat.ble (d4W x) ((b6H x).length)) (∃(j:CfX),some (b6L id)=some (b6L id)/\some b6I=some b6I/\some b6J=some b6J/\some b6K=some b6K/\some (c4B s l)=some (c4B s l)/\some (c4F s l)=some (c4F s l)/\tI (wW (((CfX.i x):Int)+1))=tI ((CfX.i j):Int)/\some (c3Z s l)=some (c3Z s l)/\some (c4A s l)=some (c4A s l)/\some (List.take ((0:Nat)+((CfX.i x):Int).toNat*1) (b6H x)++ [iI b7]++List.drop (d4W x) (b6H x))=some [iI (CfX.x j),iI (CfX.y j)]/\CfX.g x=CfX.g j/\(HP h (CfX.g j)/\(c4C s l)/\CfX.i j<=List.length (Nd.ks (nA l s))/\(∀(q:Nat),q<CfX.i j->Nd.op (c4G s l q)=1)/\(0<CfX.i j->CfX.x j=Nd.im (c4D s l))/\(1<CfX.i j->CfX.y j=Nd.im (c4E s l)))/\List.length (Nd.ks (nA l s))-CfX.i j< (Nd.ks (nA l s)).length-CfX.i x))))))) (aI ((↑((Nd.ks (nA l s)).length):Int)==1) (Q (.bool (Nd.im (nB l s)==F4 (Nd.op (nA l s)) (CfX.x x))) (CfX.g x)) (Q (.bool (Nd.im (nB l s)==oG (Nd.op (nA l s)) (CfX.x x) (CfX.y x))) (CfX.g x)))))))))):=by kernel_rfl
theorem e3E: ∀xs h Q,c8N xs h Q->aL env 96 xs h Q:=by
 intro xs h Q L;unfold c8N at L;split at L
 ·rename_i id a b y i1 e1 n1 c1 i2 e2 n2 c2;obtain⟨s,rl,a6,l,is,⟨rfl,rfl,rfl,rfl,rfl,rfl,rfl,rfl,rfl⟩,⟨hc,hw,iL,iR⟩,L⟩:=L;refine aN (c5A) (e4G id s e1 e2 rl a6 l is h Q) ?_;delta d4V c3Z c4A c4B b6H c4C c4D c4E c4F c4G zH b6I b6J b6K d4W a2Z b6L tI wW iI;have tn: ∀x:Nat,(x:Int).toNat=x:=AK
  obtain⟨c0,c1,b1,a7⟩:=hc;have a5:=a7.1;obtain⟨A,a3⟩: ∃p:Nat,s.l=(p:Int):=⟨s.l.toNat,by have:=iL.1;omega⟩
  obtain⟨Rn,a4⟩: ∃p:Nat,s.r=(p:Int):=⟨s.r.toNat,by have:=iR.1;omega⟩
  have K:A<l.length:=by have:=iL.2;omega
  have lR:Rn<l.length:=by have:=iR.2;omega
  have k0:(h.push (.cells [.int .i64 s.l,.int .i64 s.r,.int .i64 s.y,.vslice none e1 s.vs.length 1 (s.vs.map (IV.int .i64)),.vslice none e2 s.ms.length 1 (s.ms.map (IV.int .i64))])).get id=_:=(aQ a5).trans c0;have k2:(h.push (.cells [.int .i64 s.l,.int .i64 s.r,.int .i64 s.y,.vslice none e1 s.vs.length 1 (s.vs.map (IV.int .i64)),.vslice none e2 s.ms.length 1 (s.ms.map (IV.int .i64))])).get h.next=_:=aT;have hp:HP h (h.push (.cells [.int .i64 s.l,.int .i64 s.r,.int .i64 s.y,.vslice none e1 s.vs.length 1 (s.vs.map (IV.int .i64)),.vslice none e2 s.ms.length 1 (s.ms.map (IV.int .i64))])):=HP.push;generalize h.push (.cells [.int .i64 s.l,.int .i64 s.r,.int .i64 s.y,.vslice none e1 s.vs.length 1 (s.vs.map (IV.int .i64)),.vslice none e2 s.ms.length 1 (s.ms.map (IV.int .i64))])=g4 at k0 k2 hp⊢;refine aD k0 (bM rfl (aD k2 (bB rfl (aW ⟨iL.1,iL.2⟩ (pK K (by rw [a3,tn]) ?_)))));refine aD k0 (bM rfl (aD k2 (bB rfl (aW ⟨iR.1,iR.2⟩ (pK lR (by rw [a4,tn]) ?_)))));have fin:Q (.bool false) g4:=L false g4 (fun e=>by cases e) hp;have V: ∀(n:Nat)(hn:n<l.length)(m:Nat)(hm:m<l[n].ks.length),(l[n].ks.map (IV.int .i64))[m]?=some (.int .i64 (l[n].ks.getD m 0)):=fun n hn m hm=>by
   rw [BL,AA hm,bH hm];rfl
  have eL:s.l.toNat=A:=by rw [a3,tn]
  have eR:s.r.toNat=Rn:=by rw [a4,tn]
  rw [eL,eR]at L;refine aB (fun X=>?_) (fun X=>?_)
  ·rw [beq_iff_eq]at X;have h3:=d8E hw K X;have Y:=Rb hw K (m:=0) JF;have e0:l.getD (l[A].ks.getD 0 0).toNat default=l[(l[A].ks.getD 0 0).toNat]:=bH Y.2.2;refine aD k0 (bM rfl (aA (by simp only [BC,decide_eq_true_eq];omega) (dN (V A K 0 JF) (aW ⟨Y.1,JF⟩ (pK Y.2.2 rfl (aB (fun _=>fin) (fun o1=>?_)))))));rw [bne_eq_false_iff_eq,<-e0]at o1;have hS:=d5Z hw K X o1;rw [<-e0];refine aB (fun z=>?_) (fun z=>?_)
   ·rw [bne_iff_ne]at z;refine aD k2 (bB rfl (aA (by simp only [BC,decide_eq_true_eq];omega) (dN (V A K 1 JF) (L _ g4 (fun e=>?_) hp))));have:=hS.1 z;rw [beq_iff_eq]at e;rw [<-e,eR]at this;exact this
   ·rw [bne_eq_false_iff_eq]at z;refine aD k2 (bB rfl (aA (by simp only [BC,decide_eq_true_eq];omega) (dN (V A K 2 JF) (L _ g4 (fun e=>?_) hp))));have:=hS.2 z;rw [beq_iff_eq]at e;rw [<-e,eR]at this;exact this
  refine gO (fun _=>fin) (fun o4=>gO (fun _=>fin) (fun b2=>aB (fun _=>fin) (fun ob=>?_)));rw [bne_eq_false_iff_eq]at ob;have ho:4<=l[A].op/\l[A].op<=21:=JF;have a8:nA l s=l[A]:=by unfold nA;rw [eL];exact bH K
  have a9:nB l s=l[Rn]:=by unfold nB;rw [eR];exact bH lR
  have h2:=ar2 hw K ho;rw [a8,a9];refine⟨⟨⟨g4,0,0,0,0⟩,JJ,JJ,JJ,JJ,JJ,JJ,JJ,JJ,JJ,JJ,JJ,⟨hp,⟨ho.1,ho.2,ob⟩,BE _,fun q R=>absurd R (CF _),fun R=>absurd R (CF _),fun R=>absurd R (CF _)⟩,trivial⟩,?_⟩;rintro⟨g,js,i,x,y⟩ _ ⟨D,Z,hi,G,hx,hy⟩;dsimp only at D Z hi G hx hy⊢;have c5:=(D.2 _ a5).trans c0;have a2:Q (.bool false) g:=L false g (fun e=>by cases e) D;simp only [tn,AO,EP,AX];refine gO (fun c=>?_) (fun c=>?_)
  ·have O:i<l[A].ks.length:=JF;have Y:=Rb hw K O;have e0:l.getD (l[A].ks.getD i 0).toNat default=l[(l[A].ks.getD i 0).toNat]:=bH Y.2.2;have a0:(l.flatMap cN)[(l[A].ks.getD i 0).toNat*3]?=some (.int .i64 l[(l[A].ks.getD i 0).toNat].op):=by
    have:=uZ Y.2.2 (j:=0) JF;rw [EP]at this;exact this
   have a1:(l.flatMap cN)[(l[A].ks.getD i 0).toNat*3+1]?=some (.int .i64 l[(l[A].ks.getD i 0).toNat].im):=uZ Y.2.2 (j:=1) JF;refine aW ⟨JF,JF⟩ (dN (V A K i O) (aD c5 (bM rfl (aW ⟨Y.1,JF⟩ (dN a0 (aB (fun _=>a2) (fun o1=>?_)))))));rw [bne_eq_false_iff_eq]at o1;refine aD c5 (bM rfl (aW ⟨Y.1,JF⟩ (dN a1 (aW ⟨JF,JF⟩ (aA (by simp;omega) ?_)))));have nx: ∀q,q<i+1->(l.getD (l[A].ks.getD q 0).toNat default).op=1:=fun q R=>by
    rcases BB q i with d|d
    ·exact G q d
    ·obtain rfl:q=i:=JF;rw [e0];exact o1
   have b0:i=0\/i=1:=JF;rcases b0 with rfl|rfl
   ·exact⟨⟨g,js,1,_,y⟩,JJ,JJ,JJ,JJ,JJ,JJ,JJ,JJ,JJ,JJ,JJ,⟨D,Z,O,nx,fun _=>by rw [e0],fun R=>absurd R JK⟩,JK⟩
   ·exact⟨⟨g,js,2,x,_⟩,JJ,JJ,JJ,JJ,JJ,JJ,JJ,JJ,JJ,JJ,JJ,⟨D,Z,O,nx,fun _=>hx JF,fun _=>by rw [e0]⟩,JK⟩
  refine aB (fun c1=>L _ g (fun e=>?_) D) (fun c1=>L _ g (fun e=>?_) D)
  ·rw [beq_iff_eq]at e c1;exact d5Y hw K lR ho JF (G 0 JF) ob (by rw [e,hx JF])
  ·rw [beq_iff_eq]at e;rw [beq_eq_false_iff_ne]at c1;exact sU hw K lR ho JF (fun q R=>G q JF) ob (by rw [e,hx JF,hy JF])
 ·exact L.elim
def c7A:=aV 96 c8N c6Z
theorem c5B:aO env c7A:=aF e3E (c5A)
def ruA(id:Nat)(s:Ste)(m p:Nat)(nm:Y11)(L G q R:Int)(k1:List T)(O K z V:Int)(k2:List T)(cs:List Cn)(D A:Int)(l:Y15)(h:Heap):Inv':= .or
 (eA RuX (fun x=>[(0,.v (.ptr id 0)),(4,.l 4 0),(5,.l 5 0),(7,.v .nilslice),(40,.v (.vslice none m s.vs.length 1 (s.vs.map (IV.int .i64)))),(41,.v (.int .i64 (s.vs.length:Int))),(42,.v (.int .i64 (x.j:Int)))]) (fun _=>[(4,[.int .i64 s.l,.int .i64 s.r,.int .i64 s.y,.vslice none m s.vs.length 1 (s.vs.map (IV.int .i64)),.vslice none p s.ms.length 1 (s.ms.map (IV.int .i64))]),(5,[.str nm,.int .i64 L,.int .i64 G,.int .i64 q,.int .i64 R,.vslice none 0 k1.length 5 (cQ k1),.int .i64 O,.int .i64 K,.int .i64 z,.int .i64 V,.vslice none 0 k2.length 5 (cQ k2),.vslice none 0 cs.length 4 (cs.flatMap vS),.int .i64 D,.int .i64 A])]) (fun x=>x.g) (fun x=>HP h x.g/\x.j=0) (fun x=>s.vs.length-x.j))
 (eA RuX (fun x=>[(0,.v (.ptr id 0)),(4,.l 4 0),(5,.l 5 0),(7,.v (.vslice (some x.io) (x.j*2) x.j 2 ((E8 l (s.vs.take x.j)).flatMap cR))),(40,.v (.vslice none m s.vs.length 1 (s.vs.map (IV.int .i64)))),(41,.v (.int .i64 (s.vs.length:Int))),(42,.v (.int .i64 (x.j:Int)))]) (fun _=>[(4,[.int .i64 s.l,.int .i64 s.r,.int .i64 s.y,.vslice none m s.vs.length 1 (s.vs.map (IV.int .i64)),.vslice none p s.ms.length 1 (s.ms.map (IV.int .i64))]),(5,[.str nm,.int .i64 L,.int .i64 G,.int .i64 q,.int .i64 R,.vslice none 0 k1.length 5 (cQ k1),.int .i64 O,.int .i64 K,.int .i64 z,.int .i64 V,.vslice none 0 k2.length 5 (cQ k2),.vslice none 0 cs.length 4 (cs.flatMap vS),.int .i64 D,.int .i64 A])]) (fun x=>x.g) (fun x=>HP h x.g/\rowT h x.g x.io (x.j*2)/\vSo l s.vs x.j) (fun x=>s.vs.length-x.j))
def ruD(id:Nat)(s:Ste)(j m:Nat)(nm:Y11)(K D p O:Int)(k1:List T)(L G q R:Int)(k2:List T)(cs:List Cn)(A z:Int)(l:Y15)(h:Heap):Inv':=
 eA RuX (fun x=>[(0,.v (.ptr id 0)),(4,.l 4 0),(5,.l 5 0),(7,.v (.vslice (some x.io) (s.vs.length*2) s.vs.length 2 ((E8 l s.vs).flatMap cR)))]) (fun _=>[(4,[.int .i64 s.l,.int .i64 s.r,.int .i64 s.y,.vslice none j s.vs.length 1 (s.vs.map (IV.int .i64)),.vslice none m s.ms.length 1 (s.ms.map (IV.int .i64))]),(5,[.str nm,.int .i64 K,.int .i64 D,.int .i64 p,.int .i64 O,.vslice none 0 k1.length 5 (cQ k1),.int .i64 L,.int .i64 G,.int .i64 q,.int .i64 R,.vslice none 0 k2.length 5 (cQ k2),.vslice none 0 cs.length 4 (cs.flatMap vS),.int .i64 A,.int .i64 z])]) (fun x=>x.g) (fun x=>HP h x.g/\rowT h x.g x.io (s.vs.length*2)/\vSo l s.vs s.vs.length) (fun _=>0)
def ruF(id:Nat)(s:Ste)(K L:Nat)(nm:Y11)(z p j D:Int)(k1:List T)(A q m G:Int)(k2:List T)(cs:List Cn)(R O:Int)(l:Y15)(h:Heap):Inv':=
 eA RuX (fun x=>[(0,.v (.ptr id 0)),(4,.l 4 0),(5,.l 5 0),(7,.v (.vslice (some x.io) (s.vs.length*2) s.vs.length 2 ((E8 l s.vs).flatMap cR)))]) (fun _=>[(4,[.int .i64 s.l,.int .i64 s.r,.int .i64 s.y,.vslice none K s.vs.length 1 (s.vs.map (IV.int .i64)),.vslice none L s.ms.length 1 (s.ms.map (IV.int .i64))]),(5,[.str nm,.int .i64 z,.int .i64 p,.int .i64 j,.int .i64 D,.vslice none 0 k1.length 5 (cQ k1),.int .i64 A,.int .i64 q,.int .i64 m,.int .i64 G,.vslice none 0 k2.length 5 (cQ k2),.vslice none 0 cs.length 4 (cs.flatMap vS),.int .i64 R,.int .i64 O])]) (fun x=>x.g) (fun x=>HP h x.g/\rowT h x.g x.io (s.vs.length*2)/\vSo l s.vs s.vs.length/\iSo l s (.mk z p j D k1) (.mk A q m G k2)) (fun _=>0)
def ruB(id:Nat)(s:Ste)(q p:Nat)(nm:Y11)(O K z V:Int)(k1:List T)(R L A X:Int)(k2:List T)(cs:List Cn)(G D:Int)(m:Y12)(l:Y15)(h:Heap):Inv':= .or
 (eA RuX (fun x=>[(0,.v (.ptr id 0)),(4,.l 4 0),(5,.l 5 0),(7,.v (.vslice (some x.io) (s.vs.length*2) s.vs.length 2 ((E8 l s.vs).flatMap cR))),(14,.v .nilslice),(118,.v (.vslice none p s.ms.length 1 (s.ms.map (IV.int .i64)))),(119,.v (.int .i64 (s.ms.length:Int))),(120,.v (.int .i64 (x.j:Int)))]) (fun _=>[(4,[.int .i64 s.l,.int .i64 s.r,.int .i64 s.y,.vslice none q s.vs.length 1 (s.vs.map (IV.int .i64)),.vslice none p s.ms.length 1 (s.ms.map (IV.int .i64))]),(5,[.str nm,.int .i64 O,.int .i64 K,.int .i64 z,.int .i64 V,.vslice none 0 k1.length 5 (cQ k1),.int .i64 R,.int .i64 L,.int .i64 A,.int .i64 X,.vslice none 0 k2.length 5 (cQ k2),.vslice none 0 cs.length 4 (cs.flatMap vS),.int .i64 G,.int .i64 D])]) (fun x=>x.g) (fun x=>HP h x.g/\x.j=0) (fun x=>s.ms.length-x.j))
 (eA RuX (fun x=>[(0,.v (.ptr id 0)),(4,.l 4 0),(5,.l 5 0),(7,.v (.vslice (some x.io) (s.vs.length*2) s.vs.length 2 ((E8 l s.vs).flatMap cR))),(14,.v (.vslice (some x.iq) x.j x.j 1 ((G8 m (s.ms.take x.j)).map (IV.int .i64)))),(118,.v (.vslice none p s.ms.length 1 (s.ms.map (IV.int .i64)))),(119,.v (.int .i64 (s.ms.length:Int))),(120,.v (.int .i64 (x.j:Int)))]) (fun _=>[(4,[.int .i64 s.l,.int .i64 s.r,.int .i64 s.y,.vslice none q s.vs.length 1 (s.vs.map (IV.int .i64)),.vslice none p s.ms.length 1 (s.ms.map (IV.int .i64))]),(5,[.str nm,.int .i64 O,.int .i64 K,.int .i64 z,.int .i64 V,.vslice none 0 k1.length 5 (cQ k1),.int .i64 R,.int .i64 L,.int .i64 A,.int .i64 X,.vslice none 0 k2.length 5 (cQ k2),.vslice none 0 cs.length 4 (cs.flatMap vS),.int .i64 G,.int .i64 D])]) (fun x=>x.g) (fun x=>HP h x.g/\rowT h x.g x.iq x.j/\x.j<=s.ms.length) (fun x=>s.ms.length-x.j))
def ruE(id:Nat)(s:Ste)(m p:Nat)(nm:Y11)(L G q R:Int)(k1:List T)(O K z V:Int)(k2:List T)(cs:List Cn)(D A:Int)(j:Y12)(l:Y15)(h:Heap):Inv':= .or
 (eA RuX (fun x=>[(0,.v (.ptr id 0)),(4,.l 4 0),(5,.l 5 0),(7,.v (.vslice (some x.io) (s.vs.length*2) s.vs.length 2 ((E8 l s.vs).flatMap cR))),(14,.v .nilslice)]) (fun _=>[(4,[.int .i64 s.l,.int .i64 s.r,.int .i64 s.y,.vslice none m s.vs.length 1 (s.vs.map (IV.int .i64)),.vslice none p s.ms.length 1 (s.ms.map (IV.int .i64))]),(5,[.str nm,.int .i64 L,.int .i64 G,.int .i64 q,.int .i64 R,.vslice none 0 k1.length 5 (cQ k1),.int .i64 O,.int .i64 K,.int .i64 z,.int .i64 V,.vslice none 0 k2.length 5 (cQ k2),.vslice none 0 cs.length 4 (cs.flatMap vS),.int .i64 D,.int .i64 A])]) (fun x=>x.g) (fun x=>HP h x.g/\s.ms=[]) (fun _=>0))
 (eA RuX (fun x=>[(0,.v (.ptr id 0)),(4,.l 4 0),(5,.l 5 0),(7,.v (.vslice (some x.io) (s.vs.length*2) s.vs.length 2 ((E8 l s.vs).flatMap cR))),(14,.v (.vslice (some x.iq) s.ms.length s.ms.length 1 ((G8 j s.ms).map (IV.int .i64))))]) (fun _=>[(4,[.int .i64 s.l,.int .i64 s.r,.int .i64 s.y,.vslice none m s.vs.length 1 (s.vs.map (IV.int .i64)),.vslice none p s.ms.length 1 (s.ms.map (IV.int .i64))]),(5,[.str nm,.int .i64 L,.int .i64 G,.int .i64 q,.int .i64 R,.vslice none 0 k1.length 5 (cQ k1),.int .i64 O,.int .i64 K,.int .i64 z,.int .i64 V,.vslice none 0 k2.length 5 (cQ k2),.vslice none 0 cs.length 4 (cs.flatMap vS),.int .i64 D,.int .i64 A])]) (fun x=>x.g) (fun x=>HP h x.g) (fun _=>0))
def ruC(id:Nat)(s:Ste)(p q:Nat)(nm:Y11)(O K z V:Int)(k1:List T)(R L A X:Int)(k2:List T)(cs:List Cn)(G D:Int)(m:Y12)(l:Y15)(h:Heap):Inv':= .or
 (eA RuX (fun x=>[(0,.v (.ptr id 0)),(4,.l 4 0),(5,.l 5 0),(7,.v (.vslice (some x.io) (s.vs.length*2) s.vs.length 2 ((E8 l s.vs).flatMap cR))),(14,.v .nilslice),(150,.v (.vslice none 0 cs.length 4 (cs.flatMap vS))),(151,.v (.int .i64 (cs.length:Int))),(152,.v (.int .i64 (x.j:Int)))]) (fun _=>[(4,[.int .i64 s.l,.int .i64 s.r,.int .i64 s.y,.vslice none p s.vs.length 1 (s.vs.map (IV.int .i64)),.vslice none q s.ms.length 1 (s.ms.map (IV.int .i64))]),(5,[.str nm,.int .i64 O,.int .i64 K,.int .i64 z,.int .i64 V,.vslice none 0 k1.length 5 (cQ k1),.int .i64 R,.int .i64 L,.int .i64 A,.int .i64 X,.vslice none 0 k2.length 5 (cQ k2),.vslice none 0 cs.length 4 (cs.flatMap vS),.int .i64 G,.int .i64 D])]) (fun x=>x.g) (fun x=>HP h x.g/\s.ms=[]/\On s m l cs x.j) (fun x=>cs.length-x.j))
 (eA RuX (fun x=>[(0,.v (.ptr id 0)),(4,.l 4 0),(5,.l 5 0),(7,.v (.vslice (some x.io) (s.vs.length*2) s.vs.length 2 ((E8 l s.vs).flatMap cR))),(14,.v (.vslice (some x.iq) s.ms.length s.ms.length 1 ((G8 m s.ms).map (IV.int .i64)))),(150,.v (.vslice none 0 cs.length 4 (cs.flatMap vS))),(151,.v (.int .i64 (cs.length:Int))),(152,.v (.int .i64 (x.j:Int)))]) (fun _=>[(4,[.int .i64 s.l,.int .i64 s.r,.int .i64 s.y,.vslice none p s.vs.length 1 (s.vs.map (IV.int .i64)),.vslice none q s.ms.length 1 (s.ms.map (IV.int .i64))]),(5,[.str nm,.int .i64 O,.int .i64 K,.int .i64 z,.int .i64 V,.vslice none 0 k1.length 5 (cQ k1),.int .i64 R,.int .i64 L,.int .i64 A,.int .i64 X,.vslice none 0 k2.length 5 (cQ k2),.vslice none 0 cs.length 4 (cs.flatMap vS),.int .i64 G,.int .i64 D])]) (fun x=>x.g) (fun x=>HP h x.g/\On s m l cs x.j) (fun x=>cs.length-x.j))
def c8R(xs:Y14)(h:Heap)(K:KT):Prop:=match xs with
 | [.ptr id 0,.agg [.int .i64 a,.int .i64 b,.int .i64 y,.vslice i1 e1 n1 1 c1,.vslice i2 e2 n2 1 c2],.agg [.str nm,.int .i64 v1,.int .i64 o1,.int .i64 m1,.int .i64 w1,.vslice i3 e3 n3 5 d1,.int .i64 v2,.int .i64 o2,.int .i64 m2,.int .i64 w2,.vslice i4 e4 n4 5 d2,.vslice i5 e5 n5 4 d3,.int .i64 nv,.int .i64 ni]]=> ∃(s:Ste)(k1 k2:List T)(cs:List Cn)(rl:List Ru)(g:Y12)(l:Y15)(j:Nat),(i1=none/\i2=none/\a=s.l/\b=s.r/\y=s.y/\n1=s.vs.length/\c1=s.vs.map (IV.int .i64)/\n2=s.ms.length/\c2=s.ms.map (IV.int .i64))/\(i3=none/\e3=0/\i4=none/\e4=0/\i5=none/\e5=0/\n3=k1.length/\d1=cQ k1/\n4=k2.length/\d2=cQ k2/\n5=cs.length/\d3=cs.flatMap vS)/\((⟨nm,.mk v1 o1 m1 w1 k1,.mk v2 o2 m2 w2 k2,nv,ni,cs⟩:Ru) ∈cC/\CkH rl g l id j h/\WS l/\iV l s.l/\iV l s.r/\(aE l).getD s.l.toNat 0=(aE l).getD s.r.toNat 0/\s.ok/\(g.length<=1000/\∀x∈g,inR x))/\∀(b:Bool)(h2:Heap),(b=true->W2 l s.l.toNat s.r.toNat)->HP h h2->K (.bool b) h2
 |_=>False
def kO(cs:List Cn):=List.flatMap vS cs
def fC(nm:Y11)(r p g z y q j A m l:Int)(k1 k2:List T)(cs:List Cn):=[IV.str nm,iI r,iI p,iI g,iI z,IV.vslice none 0 k1.length 5 (cQ k1),iI y,iI q,iI j,iI A,IV.vslice none 0 k2.length 5 (cQ k2),IV.vslice none 0 cs.length 4 (kO cs),iI m,iI l]
def mS:=IV.int .i64
def eF(s:Ste):=(Ste.ms s).length
def kT(s:Ste):=(Ste.vs s).length
def tX(s:Ste):=List.map mS (Ste.ms s)
def fN(s:Ste)(g j:Nat):=[iI (Ste.l s),iI (Ste.r s),iI (Ste.y s),IV.vslice none g (kT s) 1 (List.map mS (Ste.vs s)),IV.vslice none j (eF s) 1 (tX s)]
def qL(s:Ste):=(Ste.vs s).length*2
def uT(s:Ste)(l:Y15):=List.flatMap cR (E8 l (Ste.vs s))
def H6(s:Ste)(l:Y15)(g:RuX):=TV.v (.vslice (some (RuX.io g)) (qL s) (kT s) 2 (uT s l))
def fO:=TV.l 4 0
def fP:=TV.l 5 0
def Gh(H:List (Int×Int))(L:Y12):=(H.length<=9223372036854775807/\L.length<=9223372036854775807/\∀(x:Int),x∈L->inR x)
def D1(s:Ste)(g:Nat):=TV.v (.vslice none g (kT s) 1 (List.map mS (Ste.vs s)))
def fQ(id:Nat):=TV.v (.ptr id 0)
def D2(s:Ste)(g:Nat):=TV.v (.vslice none g (eF s) 1 (tX s))
def D3(s:Ste):=TV.v (.int .i64 ((kT s):Int))
abbrev Gi(s:Ste)(l:Y15)(H:List (Int×Int)):=(Ste.vs s).length=H.length/\List.flatMap cR (E8 l (Ste.vs s))=List.flatMap cR H
def Gj(cs:List Cn):=TV.v (.vslice none 0 cs.length 4 (kO cs))
def D4(s:Ste):=TV.v (.int .i64 ((eF s):Int))
def uU(s:Ste)(g:Y12):=List.map mS (G8 g (Ste.ms s))
def Gk(cs:List Cn):=TV.v (.int .i64 (cs.length:Int))
def kP:=IV.bool false
def Gl(g:RuX):=TV.v (.int .i64 ((RuX.j g):Int))
abbrev b7F(s:Ste)(g L:Y12):=(Ste.ms s).length=L.length/\List.map mS (G8 g (Ste.ms s))=List.map mS L
def Tx(g:RuX):=TV.v (.int .i64 ((RuX.j g):Int))
def Gm:=[iI 0]
def V6:=TV.v (.int .i64 0)
def oS:=TV.v IV.nilslice
abbrev Mz(L:Y12):=(0:Nat)=L.length/\[]=List.map mS L
def b6R(s:Ste)(g:Int):=decide (0<=wW (g-1)) &&decide (wW (g-1)< ((eF s):Int))
def b6S(s:Ste)(g:Int):=decide (0<=wW (g-1)) &&decide (wW (g-1)< ((eF s):Int))
def b6T(s:Ste)(g:Int):=decide (0<=wW (g-1)) &&decide (wW (g-1)< ((eF s):Int))
def b6U(s:Ste)(g:Int):=decide (0<=wW (g-1)) &&decide (wW (g-1)< ((eF s):Int))
def b6V(s:Ste)(l:Y15)(g:RuX):=TV.v (.vslice (some (RuX.io g)) (RuX.j g*2) (RuX.j g) 2 (List.flatMap cR (E8 l (List.take (RuX.j g) (Ste.vs s)))))
def Zf(s:Ste)(l:Y15)(g:RuX):=TV.v (.vslice (some (RuX.io g)) (qL s) (kT s) 2 (uT s l))
def Zg(s:Ste)(g:Y12)(j:RuX):=TV.v (.vslice (some (RuX.iq j)) (eF s) (eF s) 1 (uU s g))
def b6W(s:Ste)(g:Y12)(l:RuX):=TV.v (.vslice (some (RuX.iq l)) (RuX.j l) (RuX.j l) 1 (List.map mS (G8 g (List.take (RuX.j l) (Ste.ms s)))))
abbrev b6X(s:Ste)(h:Heap)(l:RuX):=HP h (RuX.g l)/\rowT h (RuX.g l) (RuX.iq l) (RuX.j l)/\RuX.j l<=List.length (Ste.ms s)
abbrev b6Y(s:Ste)(g:Y12):=(Ste.vs s).length=g.length/\List.map mS (Ste.vs s)=List.map mS g
abbrev b6Z(s:Ste)(imms:Y12):=(Ste.ms s).length=imms.length/\List.map mS (Ste.ms s)=List.map mS imms
abbrev b7A(g:Y12):=(∀(x:Int),x∈g->aU x)/\g.length<=1000
def b7B(g:Int):=(wW (g-1)).toNat*1
def b7C(g:Int):=(wW (g-1)).toNat*1
def b7D(g:Int):=(wW (g-1)).toNat*1
def b7E(g:Int):=(wW (g-1)).toNat*1
def b6M(cs:List Cn)(m p id:Nat)(h:Heap)(k1 k2:List T)(l:Y15)(q r y z A D G K L O:Int)(nm:Y11)(s:Ste)(x:RuX)(R:IV):Prop:= ∃(j:RuX),some (fQ id)=some (fQ id)/\some fO=some fO/\some fP=some fP/\some (TV.v (R))=some (H6 s l j)/\some (fN s m p)=some (fN s m p)/\some (fC nm G A q L K D r O z y k1 k2 cs)=some (fC nm G A q L K D r O z y k1 k2 cs)/\RuX.g x=
 RuX.g j/\(HP h (RuX.g j)/\rowT h (RuX.g j) (RuX.io j) (qL s)/\vSo l (Ste.vs s) (kT s))/\True
def Zb(cs:List Cn)(q p id:Nat)(h:Heap)(k1 k2:List T)(l:Y15)(r y z A D G K L O R:Int)(nm:Y11)(s:Ste)(x:RuX)(V:IV):Prop:= ∃(m:RuX),some (fQ id)=some (fQ id)/\some fO=some fO/\some fP=some fP/\some (TV.v (.vslice (some (RuX.io x)) (qL s) (kT s) 2 (uT s l)))=some (H6 s l m)/\some (TV.v (V))=some oS/\some (D2 s p)=some (D2 s p)/\some (D4 s)=some (D4 s)/\tI (wW (((RuX.j
 x):Int)+1))=some (Gl m)/\some (fN s q p)=some (fN s q p)/\some (fC nm K D r O L G y R A z k1 k2 cs)=some (fC nm K D r O L G y R A z k1 k2 cs)/\Heap.push (RuX.g x) (IObj.tip 1)=RuX.g m/\(HP h (RuX.g m)/\RuX.j m=0)/\List.length (Ste.ms s)
 -RuX.j m< (Ste.ms s).length-RuX.j x
def Zc(cs:List Cn)(q p id:Nat)(h:Heap)(k1 k2:List T)(l:Y15)(r y z A D G K L O R:Int)(nm:Y11)(s:Ste)(x:RuX)(V:IV):Prop:= ∃(m:RuX),some (fQ id)=some (fQ id)/\some fO=some fO/\some fP=some fP/\some (TV.v (.vslice (some (RuX.io x)) (qL s) (kT s) 2 (uT s l)))=some (H6 s l m)/\some (TV.v (V))=some oS/\some (D2 s p)=some (D2 s p)/\some (D4 s)=some (D4 s)/\tI (wW (((RuX.j
 x):Int)+1))=some (Gl m)/\some (fN s q p)=some (fN s q p)/\some (fC nm K D r O L G y R A z k1 k2 cs)=some (fC nm K D r O L G y R A z k1 k2 cs)/\Heap.set (RuX.g x) (RuX.iq x) (IObj.tip (RuX.j x+1))=RuX.g m/\(HP h (RuX.g m)/\RuX.j m=0)/\List.length
 (Ste.ms s)-RuX.j m< (Ste.ms s).length-RuX.j x
def Zd(cs:List Cn)(r q id:Nat)(h:Heap)(k1 k2:List T)(l:Y15)(p:Y12)(y z A D G K L O R V:Int)(nm:Y11)(s:Ste)(x:RuX)(X:IV):Prop:= ∃(m:RuX),some (fQ id)=some (fQ id)/\some fO=some fO/\some fP=some fP/\some (TV.v (.vslice (some (RuX.io x)) (qL s) (kT s) 2 (uT s l)))=some (H6 s l m)/\some (TV.v (X))=some (b6W s p m)/\some (D2 s q)=some (D2 s q)/\some (D4 s)=some (D4 s)
 /\tI (wW (((RuX.j x):Int)+1))=some (Gl m)/\some (fN s r q)=some (fN s r q)/\some (fC nm L G y R O K z V D A k1 k2 cs)=some (fC nm L G y R O K z V D A k1 k2 cs)/\Heap.push (RuX.g x) (IObj.tip 1)=RuX.g m/\(b6X s h m)/\List.length (Ste.ms
 s)-RuX.j m< (Ste.ms s).length-RuX.j x
def Ze(cs:List Cn)(r q id:Nat)(h:Heap)(k1 k2:List T)(l:Y15)(p:Y12)(y z A D G K L O R V:Int)(nm:Y11)(s:Ste)(x:RuX)(X:IV):Prop:= ∃(m:RuX),some (fQ id)=some (fQ id)/\some fO=some fO/\some fP=some fP/\some (TV.v (.vslice (some (RuX.io x)) (qL s) (kT s) 2 (uT s l)))=some (H6 s l m)/\some (TV.v (X))=some (b6W s p m)/\some (D2 s q)=some (D2 s q)/\some (D4 s)=some (D4 s)
 /\tI (wW (((RuX.j x):Int)+1))=some (Gl m)/\some (fN s r q)=some (fN s r q)/\some (fC nm L G y R O K z V D A k1 k2 cs)=some (fC nm L G y R O K z V D A k1 k2 cs)/\Heap.set (RuX.g x) (RuX.iq x) (IObj.tip (RuX.j x+1))=RuX.g m/\(b6X s h m)/\List.length
 (Ste.ms s)-RuX.j m< (Ste.ms s).length-RuX.j x
def b6N(cs:List Cn)(m p id:Nat)(h:Heap)(k1 k2:List T)(l:Y15)(q r y z A D G K L O:Int)(nm:Y11)(s:Ste)(x:RuX)(R:IV):Prop:= ∃(j:RuX),some (fQ id)=some (fQ id)/\some fO=some fO/\some fP=some fP/\some (TV.v (.vslice (some (RuX.io x)) (qL s) (kT s) 2 (uT s l)))=some (H6 s l j)/\some (TV.v (R))=some oS/\some (fN s m p)=some (fN s m p)/\some (fC nm G A q L K D r
 O z y k1 k2 cs)=some (fC nm G A q L K D r O z y k1 k2 cs)/\RuX.g x=RuX.g j/\(HP h (RuX.g j)/\Ste.ms s=[])/\True
def b6O(cs:List Cn)(q r id:Nat)(h:Heap)(k1 k2:List T)(l:Y15)(m:Y12)(y z A D G K L O R V:Int)(nm:Y11)(s:Ste)(x:RuX)(X:IV):Prop:= ∃(p:RuX),some (fQ id)=some (fQ id)/\some fO=some fO/\some fP=some fP/\some (TV.v (.vslice (some (RuX.io x)) (qL s) (kT s) 2 (uT s l)))=some (H6 s l p)/\some (TV.v (X))=some (Zg s m p)/\some (fN s q r)=some (fN s q r)/\some (fC nm L G y
 R O K z V D A k1 k2 cs)=some (fC nm L G y R O K z V D A k1 k2 cs)/\RuX.g x=RuX.g p/\(h.next<=Heap.next (RuX.g p)/\∀(j:Nat),j<h.next->Heap.get (RuX.g p) j=h.get j)/\True
def b6P(cs:List Cn)(q r id:Nat)(h:Heap)(k1 k2:List T)(l:Y15)(m:Y12)(y z A D G K L O R V:Int)(nm:Y11)(s:Ste)(x:RuX)(X:IV):Prop:= ∃(p:RuX),some (fQ id)=some (fQ id)/\some fO=some fO/\some fP=some fP/\some (TV.v (.vslice (some (RuX.io x)) (qL s) (kT s) 2 (uT s l)))=some (H6 s l p)/\some (TV.v (X))=some oS/\some (Gj cs)=some (Gj cs)/\some (Gk cs)=some (Gk cs)/\some V6
 =some (Gl p)/\some (fN s q r)=some (fN s q r)/\some (fC nm L G y R O K z V D A k1 k2 cs)=some (fC nm L G y R O K z V D A k1 k2 cs)/\RuX.g x=RuX.g p/\(HP h (RuX.g p)/\Ste.ms s=[]/\On s m l cs (RuX.j p))/\True
def qJ(cs:List Cn)(q r id:Nat)(h:Heap)(k1 k2:List T)(l:Y15)(p:Y12)(y z A D G K L O R V:Int)(nm:Y11)(s:Ste)(x:RuX)(X:IV):Prop:= ∃(m:RuX),some (fQ id)=some (fQ id)/\some fO=some fO/\some fP=some fP/\some (TV.v (.vslice (some (RuX.io x)) (qL s) (kT s) 2 (uT s l)))=some (H6 s l m)/\some (TV.v (X))=some oS/\some (Gj cs)=some (Gj cs)/\some (Gk cs)=some (Gk cs)/\tI (wW (((RuX.j
 x):Int)+1))=some (Gl m)/\some (fN s q r)=some (fN s q r)/\some (fC nm L G y R O K z V D A k1 k2 cs)=some (fC nm L G y R O K z V D A k1 k2 cs)/\RuX.g x=RuX.g m/\(HP h (RuX.g m)/\Ste.ms s=[]/\On s p l cs (RuX.j m))/\cs.length-RuX.j m<cs.length
 -RuX.j x
def b6Q(cs:List Cn)(q r id:Nat)(h:Heap)(k1 k2:List T)(l:Y15)(m:Y12)(y z A D G K L O R V:Int)(nm:Y11)(s:Ste)(x:RuX)(X:IV):Prop:= ∃(p:RuX),some (fQ id)=some (fQ id)/\some fO=some fO/\some fP=some fP/\some (TV.v (.vslice (some (RuX.io x)) (qL s) (kT s) 2 (uT s l)))=some (H6 s l p)/\some (TV.v (X))=some (Zg s m p)/\some (Gj cs)=some (Gj cs)/\some (Gk cs)=some (Gk cs)/\
 some V6=some (Gl p)/\some (fN s q r)=some (fN s q r)/\some (fC nm L G y R O K z V D A k1 k2 cs)=some (fC nm L G y R O K z V D A k1 k2 cs)/\RuX.g x=RuX.g p/\(HP h (RuX.g p)/\On s m l cs (RuX.j p))/\True
def qK(cs:List Cn)(q r id:Nat)(h:Heap)(k1 k2:List T)(l:Y15)(m:Y12)(y z A D G K L O R V:Int)(nm:Y11)(s:Ste)(x:RuX)(X:IV):Prop:= ∃(p:RuX),some (fQ id)=some (fQ id)/\some fO=some fO/\some fP=some fP/\some (TV.v (.vslice (some (RuX.io x)) (qL s) (kT s) 2 (uT s l)))=some (H6 s l p)/\some (TV.v (X))=some (Zg s m p)/\some (Gj cs)=some (Gj cs)/\some (Gk cs)=some (Gk cs)/\
 tI (wW (((RuX.j x):Int)+1))=some (Gl p)/\some (fN s q r)=some (fN s q r)/\some (fC nm L G y R O K z V D A k1 k2 cs)=some (fC nm L G y R O K z V D A k1 k2 cs)/\RuX.g x=RuX.g p/\(HP h (RuX.g p)/\On s m l cs (RuX.j p))/\cs.length-RuX.j p<
 cs.length-RuX.j x
theorem e4K(id:Nat)(s:Ste)(q Y:Nat)(nm:Y11)(K D z V:Int)(k1:List T)(O G A X:Int)(k2:List T)(cs:List Cn)(nv Z:Int)(rl:List Ru)(m:Y12)(l:Y15)(is:Nat)(h:Heap)(Q:KT):dF (aR c7A) env 97 cS (vC 6 (ruA id s q Y nm K D z V k1 O G A X k2 cs nv Z l h) (vC 20 (ruB id s q Y nm K D z V k1 O G A X k2 cs nv Z m l h) (oE 27 (ruC id s q Y nm K D z V k1 O G A X k2 cs nv Z m l h)))) (vC 12 (ruD id s q Y nm K D z V k1 O G A X k2 cs nv Z l h) (vC 18 (ruF id s q Y nm K D z V k1 O G A X k2 cs nv Z l h) (oE 26 (ruE id s q Y nm K D z V k1 O G A X k2 cs nv Z m l h)))) [.ptr id 0,.agg [.int .i64 s.l,.int .i64 s.r,.int .i64 s.y,.vslice none q s.vs.length 1 (s.vs.map (IV.int .i64)),.vslice none Y s.ms.length 1 (s.ms.map (IV.int .i64))],.agg [.str nm,.int .i64 K,.int .i64 D,.int .i64 z,.int .i64 V,.vslice none 0 k1.length 5 (cQ k1),.int .i64 O,.int .i64 G,.int .i64 A,.int .i64 X,.vslice none 0 k2.length 5 (cQ k2),.vslice none 0 cs.length 4 (cs.flatMap vS),.int .i64 nv,.int .i64 Z]] h Q=(
 ∃(r:Ru),IV.agg (fC nm K D z V O G A X nv Z k1 k2 cs)=IV.agg (IV.str (Ru.nm r)::(cT (Ru.L r)++(cT (Ru.R r)++ [IV.vslice none 0 ((Ru.cs r).length) 4 (List.flatMap vS (Ru.cs r)),iI (Ru.nv r),iI (Ru.ni r)])))/\List.Mem r cC/\aI (((kT s):Int) !=nv) (Q kP h) (aI (((eF s):Int) !=Z) (Q kP h) ((((∃(x:RuX),some (fQ id)=some (fQ id)/\some fO=some fO/\some fP=some fP/\some oS=some oS/\some (D1 s q)=some (D1 s q)/\some (D3 s)=some (D3 s)/\some V6=some (TV.v (iI ((RuX.j x):Int)))/\some (fN s q Y)=some (fN s q Y)/\some (fC nm K D z V O G A X nv Z k1 k2 cs)=some (fC nm K D z V O G A X nv Z k1 k2 cs)/\h=RuX.g x/\(HP h (RuX.g x)/\RuX.j x=0)/\True) \/ ∃(x:RuX),some (fQ id)=some (fQ id)/\some fO=some fO/\some fP=some fP/\some oS=some (TV.v (.vslice (some (RuX.io x)) (RuX.j x*2) (RuX.j x) 2 (List.flatMap cR (E8 l (List.take (RuX.j x) (Ste.vs s))))))/\some (D1 s q)=some (D1 s q)/\some (D3 s)=some (D3 s)/\some V6=some (TV.v (iI ((RuX.j x):Int)))/\some (fN s q Y)=some (fN s q Y)/\some (fC nm K D z V O G A X nv Z k1 k2 cs)=some (fC nm K D z V O G A X nv Z k1 k2 cs)/\h=RuX.g x/\(HP h (RuX.g x)/\rowT h (RuX.g x) (RuX.io x) (RuX.j x*2)/\vSo l (Ste.vs s) (RuX.j x))/\True)/\(∀(x:RuX)(b:FF),HP h (RuX.g x)/\RuX.j x=0->aI (decide (((RuX.j x):Int)< ((kT s):Int))) (aC (decide (0<=((RuX.j x):Int)) &&decide (((RuX.j x):Int)< ((kT s):Int))) (aG .i64 (List.map mS (Ste.vs s)) (((RuX.j x):Int).toNat*(1:Nat)) fun n0=> ∃(rl:List Ru)(m:Y12)(a0:Y15)(is:Nat),CkH rl m a0 id is (RuX.g x)/\aI (!(decide (0<=n0) &&decide (n0< (a0.length:Int)))) (Q kP (RuX.g x)) (aJ (RuX.g x) id fun r1=>aZ 2 r1 4 fun(i2:Y10)(e3 l4:Nat)(c5:Y14)=>aC (decide (0<=n0) &&decide (n0< (l4:Int))) (aG .i64 c5 (n0.toNat*2) fun n6=>aG .i64 c5 (n0.toNat*2+1) fun n7=>(∃(p:RuX),some (fQ id)=some (fQ id)/\some fO=some fO/\some fP=some fP/\some (TV.v (.vslice (some ((RuX.g x).next)) 2 1 2 [iI n6,iI n7]))=some oS/\some (D1 s q)=some (D1 s q)/\some (D3 s)=some (D3 s)/\tI (wW (((RuX.j x):Int)+1))=some (Tx p)/\some (fN s q Y)=some (fN s q Y)/\some (fC nm K D z V O G A X nv Z k1 k2 cs)=some (fC nm K D z V O G A X nv Z k1 k2 cs)/\Heap.push (RuX.g x) (IObj.tip 2)=RuX.g p/\(HP h (RuX.g p)/\RuX.j p=0)/\List.length (Ste.vs s)-RuX.j p< (Ste.vs s).length-RuX.j x) \/ ∃(p:RuX),some (fQ id)=some (fQ id)/\some fO=some fO/\some fP=some fP/\some (TV.v (.vslice (some ((RuX.g x).next)) 2 1 2 [iI n6,iI n7]))=some (b6V s l p)/\some (D1 s q)=some (D1 s q)/\some (D3 s)=some (D3 s)/\tI (wW (((RuX.j x):Int)+1))=some (Tx p)/\some (fN s q Y)=some (fN s q Y)/\some (fC nm K D z V O G A X nv Z k1 k2 cs)=some (fC nm K D z V O G A X nv Z k1 k2 cs)/\Heap.push (RuX.g x) (IObj.tip 2)=RuX.g p/\(HP h (RuX.g p)/\rowT h (RuX.g p) (RuX.io p) (RuX.j p*2)/\vSo l (Ste.vs s) (RuX.j p))/\List.length (Ste.vs s)-RuX.j p< (Ste.vs s).length-RuX.j x)))) (b6M cs q Y id h k1 k2 l z A Z nv D G K O V X nm s x IV.nilslice))/\∀(x:RuX)(b:FF),HP h (RuX.g x)/\rowT h (RuX.g x) (RuX.io x) (RuX.j x*2)/\vSo l (Ste.vs s) (RuX.j x)->aI (decide (((RuX.j x):Int)< ((kT s):Int))) (aC (decide ((0:Int)<=((RuX.j x):Int)) &&decide (((RuX.j x):Int)< ((kT s):Int))) (aG .i64 (List.map mS (Ste.vs s)) (((RuX.j x):Int).toNat*1) fun n8=> ∃(rl:List Ru)(m:Y12)(a0:Y15)(is:Nat),CkH rl m a0 id is (RuX.g x)/\aI (!(decide ((0:Int)<=n8) &&decide (n8< (a0.length:Int)))) (Q kP (RuX.g x)) (aJ (RuX.g x) id fun r9=>aZ 2 r9 4 fun(l1:Y10)(i9 e4:Nat)(c0:Y14)=>aC (decide (0<=n8) &&decide (n8< (e4:Int))) (aG .i64 c0 (n8.toNat*2) fun c4=>aG .i64 c0 (n8.toNat*2+1) fun c6=>cF (RuX.g x) (RuX.io x) fun(f6:Nat)=>aC (Nat.beq f6 (RuX.j x*2) &&Nat.ble ((RuX.j x+1)*16) 140737488355328) ((∃(p:RuX),some (fQ id)=some (fQ id)/\some fO=some fO/\some fP=some fP/\some (TV.v (.vslice (some (RuX.io x)) (RuX.j x*2+2) (RuX.j x+1) 2 (List.flatMap cR (E8 l (List.take (RuX.j x) (Ste.vs s)))++ [iI c4,iI c6])))=some oS/\some (D1 s q)=some (D1 s q)/\some (D3 s)=some (D3 s)/\tI (wW (((RuX.j x):Int)+1))=some (Tx p)/\some (fN s q Y)=some (fN s q Y)/\some (fC nm K D z V O G A X nv Z k1 k2 cs)=some (fC nm K D z V O G A X nv Z k1 k2 cs)/\Heap.set (RuX.g x) (RuX.io x) (IObj.tip (RuX.j x*2+2))=RuX.g p/\(HP h (RuX.g p)/\RuX.j p=0)/\List.length (Ste.vs s)-RuX.j p< (Ste.vs s).length-RuX.j x) \/ ∃(p:RuX),some (fQ id)=some (fQ id)/\some fO=some fO/\some fP=some fP/\some (TV.v (.vslice (some (RuX.io x)) (RuX.j x*2+2) (RuX.j x+1) 2 (List.flatMap cR (E8 l (List.take (RuX.j x) (Ste.vs s)))++ [iI c4,iI c6])))=some (b6V s l p)/\some (D1 s q)=some (D1 s q)/\some (D3 s)=some (D3 s)/\tI (wW (((RuX.j x):Int)+1))=some (Tx p)/\some (fN s q Y)=some (fN s q Y)/\some (fC nm K D z V O G A X nv Z k1 k2 cs)=some (fC nm K D z V O G A X nv Z k1 k2 cs)/\Heap.set (RuX.g x) (RuX.io x) (IObj.tip (RuX.j x*2+2))=RuX.g p/\(HP h (RuX.g p)/\rowT h (RuX.g p) (RuX.io p) (RuX.j p*2)/\vSo l (Ste.vs s) (RuX.j p))/\List.length (Ste.vs s)-RuX.j p< (Ste.vs s).length-RuX.j x))))) (b6M cs q Y id h k1 k2 l z A Z nv D G K O V X nm s x (IV.vslice (some (RuX.io x)) (RuX.j x*2) (RuX.j x) 2 (List.flatMap cR (E8 l (List.take (RuX.j x) (Ste.vs s)))))))/\∀(x:RuX)(b:FF),HP h (RuX.g x)/\rowT h (RuX.g x) (RuX.io x) (qL s)/\vSo l (Ste.vs s) (kT s)->aJ (RuX.g x) id fun zL=>aZ 3 zL 2 fun(l2:Y10)(j0 e5:Nat)(d6:Y14)=> ∃(a0:Y15)(ks:List T)(a1 imms:Y12),(e5=a0.length/\d6=List.flatMap cN a0)/\(k1.length=ks.length/\cQ k1=cQ ks)/\(b6Y s a1)/\(b6Z s imms)/\((a0≠[]/\(∀(x:Nd),x∈a0->lV x)/\a0.length<=1000000/\∀(x:Nd),x∈a0->List.length (Nd.ks x)<=1000000)/\(T.ok (T.mk K D z V ks)/\T.num (T.mk K D z V ks)<=1000000)/\(b7A a1)/\(∀(x:Int),x∈imms->aU x)/\imms.length<=1000)/\aJ (RuX.g x) id fun r22=>aZ 3 r22 2 fun(l3:Y10)(j1 e6:Nat)(i1:Y14)=>aI ((↑(((mH a0 (T.mk K D z V ks) a1 imms).1).length):Int) !=(e6:Int)) (Q kP (RuX.g x)) (aI ((mH a0 (T.mk K D z V ks) a1 imms).2 !=Ste.l s) (Q kP (RuX.g x)) ((aJ (RuX.g x) id fun r27=>aZ 3 r27 2 fun(l5:Y10)(j2 e7:Nat)(d7:Y14)=> ∃(a3:Y15)(ks:List T)(a1 imms:Y12),(e7=a3.length/\d7=List.flatMap cN a3)/\(k2.length=ks.length/\cQ k2=cQ ks)/\(b6Y s a1)/\(b6Z s imms)/\((a3≠[]/\(∀(x:Nd),x∈a3->lV x)/\a3.length<=1000000/\∀(x:Nd),x∈a3->List.length (Nd.ks x)<=1000000)/\(T.ok (T.mk O G A X ks)/\T.num (T.mk O G A X ks)<=1000000)/\(b7A a1)/\(∀(x:Int),x∈imms->aU x)/\imms.length<=1000)/\aJ (RuX.g x) id fun g6=>aZ 3 g6 2 fun(l6:Y10)(j3 e8:Nat)(i3:Y14)=>aI ((↑(((mH a3 (T.mk O G A X ks) a1 imms).1).length):Int) !=(e8:Int)) (Q kP (RuX.g x)) (aI ((mH a3 (T.mk O G A X ks) a1 imms).2 !=Ste.r s) (Q kP (RuX.g x)) (∃(p:RuX),some (fQ id)=some (fQ id)/\some fO=some fO/\some fP=some fP/\some (TV.v (.vslice (some (RuX.io x)) (qL s) (kT s) 2 (uT s l)))=some (Zf s l p)/\some (fN s q Y)=some (fN s q Y)/\some (fC nm K D z V O G A X nv Z k1 k2 cs)=some (fC nm K D z V O G A X nv Z k1 k2 cs)/\RuX.g x=RuX.g p/\(HP h (RuX.g p)/\rowT h (RuX.g p) (RuX.io p) (qL s)/\vSo l (Ste.vs s) (kT s)/\iSo l s (T.mk K D z V k1) (T.mk O G A X k2))/\True)))/\∀(x:RuX)(b:FF),HP h (RuX.g x)/\rowT h (RuX.g x) (RuX.io x) (qL s)/\vSo l (Ste.vs s) (kT s)/\iSo l s (T.mk K D z V k1) (T.mk O G A X k2)->(((∃(p:RuX),some (fQ id)=some (fQ id)/\some fO=some fO/\some fP=some fP/\some (TV.v (.vslice (some (RuX.io x)) (qL s) (kT s) 2 (uT s l)))=some (Zf s l p)/\some oS=some oS/\some (D2 s Y)=some (D2 s Y)/\some (D4 s)=some (D4 s)/\some V6=some (Tx p)/\some (fN s q Y)=some (fN s q Y)/\some (fC nm K D z V O G A X nv Z k1 k2 cs)=some (fC nm K D z V O G A X nv Z k1 k2 cs)/\RuX.g x=RuX.g p/\(HP h (RuX.g p)/\RuX.j p=0)/\True) \/ ∃(p:RuX),some (fQ id)=some (fQ id)/\some fO=some fO/\some fP=some fP/\some (TV.v (.vslice (some (RuX.io x)) (qL s) (kT s) 2 (uT s l)))=some (Zf s l p)/\some oS=some (TV.v (.vslice (some (RuX.iq p)) (RuX.j p) (RuX.j p) 1 (List.map mS (G8 m (List.take (RuX.j p) (Ste.ms s))))))/\some (D2 s Y)=some (D2 s Y)/\some (D4 s)=some (D4 s)/\some V6=some (Tx p)/\some (fN s q Y)=some (fN s q Y)/\some (fC nm K D z V O G A X nv Z k1 k2 cs)=some (fC nm K D z V O G A X nv Z k1 k2 cs)/\RuX.g x=RuX.g p/\(HP h (RuX.g p)/\rowT h (RuX.g p) (RuX.iq p) (RuX.j p)/\RuX.j p<=List.length (Ste.ms s))/\True)/\(∀(x:RuX)(b:FF),HP h (RuX.g x)/\RuX.j x=0->aI (decide (((RuX.j x):Int)< ((eF s):Int))) (aC (decide (0<=((RuX.j x):Int)) &&decide (((RuX.j x):Int)< ((eF s):Int))) (aG .i64 (tX s) (((RuX.j x):Int).toNat*1) fun a9=>aI (decide (a9>=0)) (aJ (RuX.g x) id fun g7=>aZ 1 g7 1 fun(l7:Y10)(j4 e9:Nat)(i4:Y14)=>aI (decide (a9< (e9:Int))) (aJ (RuX.g x) id fun g8=>aZ 1 g8 1 fun(l8:Y10)(j5 f0:Nat)(d8:Y14)=>aC (decide (0<=a9) &&decide (a9< (f0:Int))) (aG .i64 d8 (a9.toNat*1) fun c7=>(Zb cs q Y id h k1 k2 l z A Z nv D G K O V X nm s x (IV.vslice (some ((RuX.g x).next)) 1 1 1 [iI c7])) \/Zd cs q Y id h k1 k2 l m z A Z nv D G K O V X nm s x (IV.vslice (some ((RuX.g x).next)) 1 1 1 [iI c7]))) ((Zb cs q Y id h k1 k2 l z A Z nv D G K O V X nm s x (IV.vslice (some ((RuX.g x).next)) 1 1 1 Gm)) \/Zd cs q Y id h k1 k2 l m z A Z nv D G K O V X nm s x (IV.vslice (some ((RuX.g x).next)) 1 1 1 Gm))) ((Zb cs q Y id h k1 k2 l z A Z nv D G K O V X nm s x (IV.vslice (some ((RuX.g x).next)) 1 1 1 Gm)) \/Zd cs q Y id h k1 k2 l m z A Z nv D G K O V X nm s x (IV.vslice (some ((RuX.g x).next)) 1 1 1 Gm)))) ((b6N cs q Y id h k1 k2 l z A Z nv D G K O V X nm s x IV.nilslice) \/b6O cs q Y id h k1 k2 l m z A Z nv D G K O V X nm s x IV.nilslice))/\∀(x:RuX)(b:FF),HP h (RuX.g x)/\rowT h (RuX.g x) (RuX.iq x) (RuX.j x)/\RuX.j x<=List.length (Ste.ms s)->aI (decide (((RuX.j x):Int)< ((eF s):Int))) (aC (decide (0<=((RuX.j x):Int)) &&decide (((RuX.j x):Int)< ((eF s):Int))) (aG .i64 (tX s) (((RuX.j x):Int).toNat*1) fun b0=>aI (decide (b0>=0)) (aJ (RuX.g x) id fun g9=>aZ 1 g9 1 fun(l9:Y10)(j6 f1:Nat)(i5:Y14)=>aI (decide (b0< (f1:Int))) (aJ (RuX.g x) id fun h0=>aZ 1 h0 1 fun(m0:Y10)(j7 f2:Nat)(d9:Y14)=>aC (decide (0<=b0) &&decide (b0< (f2:Int))) (aG .i64 d9 (b0.toNat*1) fun c8=>cF (RuX.g x) (RuX.iq x) fun(f7:Nat)=>aC (Nat.beq f7 (RuX.j x) &&Nat.ble ((RuX.j x+1)*8) 140737488355328) ((Zc cs q Y id h k1 k2 l z A Z nv D G K O V X nm s x (IV.vslice (some (RuX.iq x)) (RuX.j x+1) (RuX.j x+1) 1 (List.map mS (G8 m (List.take (RuX.j x) (Ste.ms s)))++ [iI c8]))) \/Ze cs q Y id h k1 k2 l m z A Z nv D G K O V X nm s x (IV.vslice (some (RuX.iq x)) (RuX.j x+1) (RuX.j x+1) 1 (List.map mS (G8 m (List.take (RuX.j x) (Ste.ms s)))++ [iI c8]))))) (cF (RuX.g x) (RuX.iq x) fun(f8:Nat)=>aC (Nat.beq f8 (RuX.j x) &&Nat.ble ((RuX.j x+1)*8) 140737488355328) ((Zc cs q Y id h k1 k2 l z A Z nv D G K O V X nm s x (IV.vslice (some (RuX.iq x)) (RuX.j x+1) (RuX.j x+1) 1 (List.map mS (G8 m (List.take (RuX.j x) (Ste.ms s)))++Gm))) \/Ze cs q Y id h k1 k2 l m z A Z nv D G K O V X nm s x (IV.vslice (some (RuX.iq x)) (RuX.j x+1) (RuX.j x+1) 1 (List.map mS (G8 m (List.take (RuX.j x) (Ste.ms s)))++Gm))))) (cF (RuX.g x) (RuX.iq x) fun(f9:Nat)=>aC (Nat.beq f9 (RuX.j x) &&Nat.ble ((RuX.j x+1)*8) 140737488355328) ((Zc cs q Y id h k1 k2 l z A Z nv D G K O V X nm s x (IV.vslice (some (RuX.iq x)) (RuX.j x+1) (RuX.j x+1) 1 (List.map mS (G8 m (List.take (RuX.j x) (Ste.ms s)))++Gm))) \/Ze cs q Y id h k1 k2 l m z A Z nv D G K O V X nm s x (IV.vslice (some (RuX.iq x)) (RuX.j x+1) (RuX.j x+1) 1 (List.map mS (G8 m (List.take (RuX.j x) (Ste.ms s)))++Gm)))))) ((b6N cs q Y id h k1 k2 l z A Z nv D G K O V X nm s x (IV.vslice (some (RuX.iq x)) (RuX.j x) (RuX.j x) 1 (List.map mS (G8 m (List.take (RuX.j x) (Ste.ms s)))))) \/b6O cs q Y id h k1 k2 l m z A Z nv D G K O V X nm s x (IV.vslice (some (RuX.iq x)) (RuX.j x) (RuX.j x) 1 (List.map mS (G8 m (List.take (RuX.j x) (Ste.ms s)))))))/\(∀(x:RuX)(b:FF),HP h (RuX.g x)/\Ste.ms s=[]->((b6P cs q Y id h k1 k2 l m z A Z nv D G K O V X nm s x IV.nilslice) \/b6Q cs q Y id h k1 k2 l m z A Z nv D G K O V X nm s x IV.nilslice)/\(∀(x:RuX)(b:FF),HP h (RuX.g x)/\Ste.ms s=[]/\On s m l cs (RuX.j x)->aI (decide (((RuX.j x):Int)< (cs.length:Int))) (aC (decide (0<=((RuX.j x):Int)) &&decide (((RuX.j x):Int)< (cs.length:Int))) (aG .i64 (kO cs) (((RuX.j x):Int).toNat*(4:Nat)) fun b4=>aG .i64 (kO cs) (((RuX.j x):Int).toNat*4+1) fun b1=>aG .i64 (kO cs) (((RuX.j x):Int).toNat*4+1+1) fun a6=>aG .i64 (kO cs) (((RuX.j x):Int).toNat*(4:Nat)+1+1+1) fun c9=>aI (b4==6) (aC (decide (0<=wW (b1-1)) &&decide (wW (b1-1)< ((eF s):Int))) (aG .i64 (tX s) ((wW (b1-1)).toNat*1) fun g0=>aC (b6R s a6) (aG .i64 (tX s) (b7B a6) fun g1=>aI (g0==g1) (Q kP (RuX.g x)) ((qJ cs q Y id h k1 k2 l m z A Z nv D G K O V X nm s x IV.nilslice) \/qK cs q Y id h k1 k2 l m z A Z nv D G K O V X nm s x IV.nilslice)))) (aI (b4==5) (aC (b6R s a6) (aG .i64 (tX s) (b7B a6) fun d0=>aI (decide (d0<0)) (Q kP (RuX.g x)) (aJ (RuX.g x) id fun h5=>aZ 1 h5 1 fun(m3:Y10)(j8 f3:Nat)(i6:Y14)=>aI (decide (d0>=(f3:Int))) (Q kP (RuX.g x)) (∃(H:List (Int×Int))(L:Y12),(Gi s l H)/\(Mz L)/\(Gh H L)/\aI (!holds b4 b1 a6 c9 H L) (Q kP (RuX.g x)) ((qJ cs q Y id h k1 k2 l m z A Z nv D G K O V X nm s x IV.nilslice) \/qK cs q Y id h k1 k2 l m z A Z nv D G K O V X nm s x IV.nilslice))))) (∃(H:List (Int×Int))(L:Y12),(Gi s l H)/\(Mz L)/\(Gh H L)/\aI (!holds b4 b1 a6 c9 H L) (Q kP (RuX.g x)) ((qJ cs q Y id h k1 k2 l m z A Z nv D G K O V X nm s x IV.nilslice) \/qK cs q Y id h k1 k2 l m z A Z nv D G K O V X nm s x IV.nilslice))))) (Q (.bool true) (RuX.g x)))/\∀(x:RuX)(b:FF),HP h (RuX.g x)/\On s m l cs (RuX.j x)->aI (decide (((RuX.j x):Int)< (cs.length:Int))) (aC (decide (0<=((RuX.j x):Int)) &&decide (((RuX.j x):Int)< (cs.length:Int))) (aG .i64 (kO cs) (((RuX.j x):Int).toNat*4) fun b5=>aG .i64 (kO cs) (((RuX.j x):Int).toNat*4+1) fun b2=>aG .i64 (kO cs) (((RuX.j x):Int).toNat*4+(1:Nat)+1) fun a7=>aG .i64 (kO cs) (((RuX.j x):Int).toNat*4+1+1+1) fun d1=>aI (b5==6) (aC (decide (0<=wW (b2-1)) &&decide (wW (b2-1)< ((eF s):Int))) (aG .i64 (tX s) ((wW (b2-1)).toNat*1) fun g2=>aC (b6S s a7) (aG .i64 (tX s) (b7C a7) fun g3=>aI (g2==g3) (Q kP (RuX.g x)) ((qJ cs q Y id h k1 k2 l m z A Z nv D G K O V X nm s x (IV.vslice (some (RuX.iq x)) (eF s) (eF s) 1 (uU s m))) \/qK cs q Y id h k1 k2 l m z A Z nv D G K O V X nm s x (IV.vslice (some (RuX.iq x)) (eF s) (eF s) 1 (uU s m)))))) (aI (b5==5) (aC (b6S s a7) (aG .i64 (tX s) (b7C a7) fun d2=>aI (decide (d2<0)) (Q kP (RuX.g x)) (aJ (RuX.g x) id fun h6=>aZ 1 h6 1 fun(m4:Y10)(j9 f4:Nat)(i7:Y14)=>aI (decide (d2>=(f4:Int))) (Q kP (RuX.g x)) (∃(H:List (Int×Int))(L:Y12),(Gi s l H)/\(b7F s m L)/\(Gh H L)/\aI (!holds b5 b2 a7 d1 H L) (Q kP (RuX.g x)) ((qJ cs q Y id h k1 k2 l m z A Z nv D G K O V X nm s x (IV.vslice (some (RuX.iq x)) (eF s) (eF s) 1 (uU s m))) \/qK cs q Y id h k1 k2 l m z A Z nv D G K O V X nm s x (IV.vslice (some (RuX.iq x)) (eF s) (eF s) 1 (uU s m))))))) (∃(H:List (Int×Int))(L:Y12),(Gi s l H)/\(b7F s m L)/\(Gh H L)/\aI (!holds b5 b2 a7 d1 H L) (Q kP (RuX.g x)) ((qJ cs q Y id h k1 k2 l m z A Z nv D G K O V X nm s x (IV.vslice (some (RuX.iq x)) (eF s) (eF s) 1 (uU s m))) \/qK cs q Y id h k1 k2 l m z A Z nv D G K O V X nm s x (IV.vslice (some (RuX.iq x)) (eF s) (eF s) 1 (uU s m))))))) (Q (.bool true) (RuX.g x)))/\∀(x:RuX)(b:FF),HP h (RuX.g x)->((b6P cs q Y id h k1 k2 l m z A Z nv D G K O V X nm s x (IV.vslice (some (RuX.iq x)) (eF s) (eF s) 1 (uU s m))) \/b6Q cs q Y id h k1 k2 l m z A Z nv D G K O V X nm s x (IV.vslice (some (RuX.iq x)) (eF s) (eF s) 1 (uU s m)))/\(∀(x:RuX)(b:FF),HP h (RuX.g x)/\Ste.ms s=[]/\On s m l cs (RuX.j x)->aI (decide (((RuX.j x):Int)< (cs.length:Int))) (aC (decide (0<=((RuX.j x):Int)) &&decide (((RuX.j x):Int)< (cs.length:Int))) (aG .i64 (kO cs) (((RuX.j x):Int).toNat*4) fun b6=>aG .i64 (kO cs) (((RuX.j x):Int).toNat*4+1) fun b3=>aG .i64 (kO cs) (((RuX.j x):Int).toNat*4+1+1) fun a8=>aG .i64 (kO cs) (((RuX.j x):Int).toNat*4+1+1+1) fun d3=>aI (b6==6) (aC (decide (0<=wW (b3-1)) &&decide (wW (b3-1)< ((eF s):Int))) (aG .i64 (tX s) ((wW (b3-1)).toNat*1) fun g4=>aC (b6T s a8) (aG .i64 (tX s) (b7D a8) fun g5=>aI (g4==g5) (Q kP (RuX.g x)) ((qJ cs q Y id h k1 k2 l m z A Z nv D G K O V X nm s x IV.nilslice) \/qK cs q Y id h k1 k2 l m z A Z nv D G K O V X nm s x IV.nilslice)))) (aI (b6==5) (aC (b6T s a8) (aG .i64 (tX s) (b7D a8) fun d4=>aI (decide (d4<0)) (Q kP (RuX.g x)) (aJ (RuX.g x) id fun h7=>aZ 1 h7 1 fun(m5:Y10)(l0 f5:Nat)(i8:Y14)=>aI (decide (d4>=(f5:Int))) (Q kP (RuX.g x)) (∃(H:List (Int×Int))(L:Y12),(Gi s l H)/\(Mz L)/\(Gh H L)/\aI (!holds b6 b3 a8 d3 H L) (Q kP (RuX.g x)) ((qJ cs q Y id h k1 k2 l m z A Z nv D G K O V X nm s x IV.nilslice) \/qK cs q Y id h k1 k2 l m z A Z nv D G K O V X nm s x IV.nilslice))))) (∃(H:List (Int×Int))(L:Y12),(Gi s l H)/\(Mz L)/\(Gh H L)/\aI (!holds b6 b3 a8 d3 H L) (Q kP (RuX.g x)) ((qJ cs q Y id h k1 k2 l m z A Z nv D G K O V X nm s x IV.nilslice) \/qK cs q Y id h k1 k2 l m z A Z nv D G K O V X nm s x IV.nilslice))))) (Q (.bool true) (RuX.g x)))/\∀(x:RuX)(b:FF),HP h (RuX.g x)/\On s m l cs (RuX.j x)->aI (decide (((RuX.j x):Int)< (cs.length:Int))) (aC (decide (0<=((RuX.j x):Int)) &&decide (((RuX.j x):Int)< (cs.length:Int))) (aG .i64 (kO cs) (((RuX.j x):Int).toNat*4) fun a5=>aG .i64 (kO cs) (((RuX.j x):Int).toNat*4+1) fun a4=>aG .i64 (kO cs) (((RuX.j x):Int).toNat*4+1+1) fun a2=>aG .i64 (kO cs) (((RuX.j x):Int).toNat*4+1+1+1) fun b7=>aI (a5==6) (aC (decide (0<=wW (a4-1)) &&decide (wW (a4-1)< ((eF s):Int))) (aG .i64 (tX s) ((wW (a4-1)).toNat*1) fun c2=>aC (b6U s a2) (aG .i64 (tX s) (b7E a2) fun c3=>aI (c2==c3) (Q kP (RuX.g x)) ((qJ cs q Y id h k1 k2 l m z A Z nv D G K O V X nm s x (IV.vslice (some (RuX.iq x)) (eF s) (eF s) 1 (uU s m))) \/qK cs q Y id h k1 k2 l m z A Z nv D G K O V X nm s x (IV.vslice (some (RuX.iq x)) (eF s) (eF s) 1 (uU s m)))))) (aI (a5==5) (aC (b6U s a2) (aG .i64 (tX s) (b7E a2) fun b9=>aI (decide (b9<0)) (Q kP (RuX.g x)) (aJ (RuX.g x) id fun d5=>aZ 1 d5 1 fun(i0:Y10)(h9 c1:Nat)(h8:Y14)=>aI (decide (b9>=(c1:Int))) (Q kP (RuX.g x)) (∃(H:List (Int×Int))(L:Y12),(Gi s l H)/\(b7F s m L)/\(Gh H L)/\aI (!holds a5 a4 a2 b7 H L) (Q kP (RuX.g x)) ((qJ cs q Y id h k1 k2 l m z A Z nv D G K O V X nm s x (IV.vslice (some (RuX.iq x)) (eF s) (eF s) 1 (uU s m))) \/qK cs q Y id h k1 k2 l m z A Z nv D G K O V X nm s x (IV.vslice (some (RuX.iq x)) (eF s) (eF s) 1 (uU s m))))))) (∃(H:List (Int×Int))(L:Y12),(Gi s l H)/\(b7F s m L)/\(Gh H L)/\aI (!holds a5 a4 a2 b7 H L) (Q kP (RuX.g x)) ((qJ cs q Y id h k1 k2 l m z A Z nv D G K O V X nm s x (IV.vslice (some (RuX.iq x)) (eF s) (eF s) 1 (uU s m))) \/qK cs q Y id h k1 k2 l m z A Z nv D G K O V X nm s x (IV.vslice (some (RuX.iq x)) (eF s) (eF s) 1 (uU s m))))))) (Q (IV.bool true) (RuX.g x))))))):=by kernel_rfl
theorem e3I: ∀xs h Q,c8R xs h Q->aL env 97 xs h Q:=by
 intro xs h Q hk;unfold c8R at hk;split at hk
 ·rename_i id a b y i1 e1 n1 c1 i2 e2 n2 c2 nm v1 o1 m1 w1 i3 e3 n3 d1 v2 o2 m2 w2 i4 e4 n4 d2 i5 e5 n5 d3 nv ni;obtain⟨s,k1,k2,cs,rl,p,l,is,⟨rfl,rfl,rfl,rfl,rfl,rfl,rfl,rfl,rfl⟩,⟨rfl,rfl,rfl,rfl,rfl,rfl,rfl,rfl,rfl,rfl,rfl,rfl⟩,⟨hr,hc,hw,iL,iR,a9,Z,a7⟩,hk⟩:=hk;refine aN (c5B) (e4K id s e1 e2 nm v1 o1 m1 w1 k1 v2 o2 m2 w2 k2 cs nv ni rl p l is h Q) ?_;delta b6M Zb Zc Zd Ze b6N b6O b6P qJ b6Q qK fC fN mS H6 eF fO fP Gh D1 fQ D2 D3 Gi qL Gj D4 kT uT uU Gk kP Gl tX b7F Tx Gm V6 oS kO Mz b6R b6S b6T b6U b6V Zf Zg b6W b6X b6Y b6Z b7A b7B b7C b7D b7E tI wW iI;have tn: ∀x:Nat,(x:Int).toNat=x:=AK
  have b3:=hc;have a4:=a0H hr;unfold kOk at a4;simp only [AD,decide_eq_true_eq,BQ]at a4;obtain⟨⟨c7,d7,d5,d6,kL,kR,d4⟩,kc⟩:=a4;have a2:=a0I hr;have b0:=Z.2.2.2.1;have a8:=Z.2.2.2.2;have fin: ∀g,HP h g->Q (.bool false) g:=fun g m=>hk false g (fun e=>by cases e) m
  have ck: ∀g,HP h g->CkH rl p l id is g:=fun g m=>b3.mono m
  have O: ∀x:Nat,x<=1000000->IntKind.i64.wrap ((x:Int)+1)=((x+1:Nat):Int):=fun x hx=>by rw [AF _ JF];rfl
  have b1: ∀i:Int,(!(decide (0<=i) &&decide (i< (l.length:Int))))=false->iV l i:=fun i hi=>by
   simp only [BO,AD,decide_eq_true_eq]at hi;exact hi
  have L: ∀(w:Y12)(j:Nat)(r:j<w.length),(w.map (IV.int .i64))[j]?=some (.int .i64 (w.getD j 0)):=fun w j r=>by
   rw [BL,AA r,bH r];rfl
  have c8:l≠[]:=fun e=>by have:=hw.ln.1;rw [e]at this;exact absurd this JG
  have b2:l≠[]/\(∀x∈l,lV x)/\l.length<=1000000/\∀x∈l,x.ks.length<=1000000:=⟨c8,fun x hx=>(hw.ok x hx).1,hw.ln.2,fun x hx=>by have:=(hw.ok x hx).2;omega⟩
  have c9:=Rt l (vZ []);simp only [tn,AO,AX];refine⟨(⟨nm,.mk v1 o1 m1 w1 k1,.mk v2 o2 m2 w2 k2,nv,ni,cs⟩:Ru),rfl,hr,aB (fun _=>fin h HP.refl) (fun cv=>aB (fun _=>fin h HP.refl) (fun ci=>?_))⟩;rw [bne_eq_false_iff_eq]at cv ci;have a1:0<s.vs.length:=by have:(1:Int)<=nv:=c7;omega
  refine⟨⟨.inl ⟨⟨h,0,0,0⟩,JJ,JJ,JJ,JJ,JJ,JJ,JJ,JJ,JJ,JJ,⟨HP.refl,rfl⟩,trivial⟩,?_,?_⟩,?_⟩
  ·rintro⟨g,j,z,G⟩ _ ⟨m,r⟩;dsimp only at m r⊢;subst r;have K:=ck g m;refine gO (fun c=>?_) (fun c=>absurd c JF);refine aW ⟨JF,JF⟩ (dN (L _ 0 a1) ⟨rl,p,l,is,K,aB (fun _=>fin g m) (fun c1=>?_)⟩);have iv:=b1 _ c1;have a5:=iv.1;have a6:=iv.2;have a0:(s.vs.getD 0 0).toNat< (rG l (vZ [])).length:=JF;refine aD K.g0 (bM rfl (aW ⟨a5,a6⟩ (ldR a0 rfl (.inr ⟨⟨g.push (.tip 2),1,g.next,0⟩,JJ,JJ,JJ,?_,JJ,JJ,JJ,JJ,JJ,JJ,⟨m.push2,⟨aT,m.1,AV _⟩,a1,fun q hq=>?_⟩,JK⟩))))
   ·dsimp only;rw [Ke a1 a0];rfl
   ·obtain rfl:q=0:=by dsimp only at hq;omega
    exact iv
  ·rintro⟨g,j,z,G⟩ _ ⟨m,⟨tp,ge,lt⟩,hv⟩;dsimp only at m tp ge lt hv⊢;have K:=ck g m;refine gO (fun c=>?_) (fun c=>?_)
   ·have r:j<s.vs.length:=JF;refine aW ⟨JF,JF⟩ (dN (L _ j r) ⟨rl,p,l,is,K,aB (fun _=>fin g m) (fun c1=>?_)⟩);have iv:=b1 _ c1;have a5:=iv.1;have a6:=iv.2;have a0:(s.vs.getD j 0).toNat< (rG l (vZ [])).length:=JF;refine aD K.g0 (bM rfl (aW ⟨a5,a6⟩ (ldR a0 rfl (aS tp (aA (by simp only [AD,bL,AS,true_and];omega) (.inr ⟨⟨g.set z (.tip (j*2+2)),j+1,z,0⟩,JJ,JJ,JJ,?_,JJ,JJ,by rw [O _ JF],JJ,JJ,JJ,⟨m.set ge,⟨by dsimp only;rw [aK,show(j+1)*2=j*2+2 by omega],ge,lt⟩,r,fun q hq=>?_⟩,JK⟩))))))
    ·dsimp only;rw [Ke r a0,show(j+1)*2=j*2+2 by omega]
    ·rcases BB q j with d|d
     ·exact hv.2 q d
     ·obtain rfl:q=j:=by dsimp only at hq;omega
      exact iv
   ·obtain rfl:j=s.vs.length:=by have:=hv.1;omega
    exact⟨⟨g,0,z,0⟩,JJ,JJ,JJ,by dsimp only;rw [DH],JJ,JJ,JJ,⟨m,⟨tp,ge,lt⟩,hv⟩,trivial⟩
  rintro⟨g,j,z,G⟩ _ ⟨m,Y,hv⟩;dsimp only at m Y hv⊢;have K:=ck g m;refine aD K.g0 (bM rfl ⟨l,k1,s.vs,s.ms,⟨rfl,rfl⟩,⟨rfl,rfl⟩,⟨rfl,rfl⟩,⟨rfl,rfl⟩,⟨b2,⟨a2.1,by have:(T.mk v1 o1 m1 w1 k1).num<=10:=kL;omega⟩,⟨Z.2.1,b0⟩,Z.2.2.1,a8⟩,aD K.g0 (bM rfl (aB (fun _=>fin g m) (fun q1=>aB (fun _=>fin g m) (fun q2=>⟨?_,?_⟩))))⟩)
  ·rw [bne_eq_false_iff_eq]at q1 q2;refine aD K.g0 (bM rfl ⟨l,k2,s.vs,s.ms,⟨rfl,rfl⟩,⟨rfl,rfl⟩,⟨rfl,rfl⟩,⟨rfl,rfl⟩,⟨b2,⟨a2.2,by have:(T.mk v2 o2 m2 w2 k2).num<=10:=kR;omega⟩,⟨Z.2.1,b0⟩,Z.2.2.1,a8⟩,aD K.g0 (bM rfl (aB (fun _=>fin g m) (fun q3=>aB (fun _=>fin g m) (fun q4=>?_))))⟩);rw [bne_eq_false_iff_eq]at q3 q4;exact⟨⟨g,j,z,G⟩,JJ,JJ,JJ,JJ,JJ,JJ,JJ,⟨m,Y,hv,⟨Int.ofNat.inj q1,q2⟩,⟨Int.ofNat.inj q3,q4⟩⟩,trivial⟩
  rintro⟨g,j,z,G⟩ _ ⟨m,Y,hv,a3⟩;dsimp only at m Y hv a3⊢;refine⟨⟨.inl ⟨⟨g,0,z,0⟩,JJ,JJ,JJ,JJ,JJ,JJ,JJ,JJ,JJ,JJ,JJ,⟨m,rfl⟩,trivial⟩,?_,?_⟩,?_⟩
  ·rintro⟨g,j,z,G⟩ _ ⟨m,r⟩;dsimp only at m r⊢;subst r;have K:=ck g m;refine gO (fun c=>?_) (fun c=> .inl ⟨⟨g,0,z,0⟩,JJ,JJ,JJ,JJ,JJ,JJ,JJ,JJ,⟨m,CS JF⟩,trivial⟩);have D:0<s.ms.length:=JF;refine aW ⟨JF,JF⟩ (dN (L _ 0 D) ?_);refine gO (fun c0=>aD K.g0 (bM rfl (gO (fun c1=>aD K.g0 (bM rfl (aW ⟨c0,c1⟩ (dN (L p (s.ms.getD 0 0).toNat JF) (.inr ⟨⟨g.push (.tip 1),1,z,g.next⟩,JJ,JJ,JJ,JJ,by dsimp only;rw [pM D (by unfold lnE;rw [if_pos ⟨c0,c1⟩])];rfl,JJ,JJ,JJ,JJ,JJ,JJ,⟨m.push2,⟨aT,m.1,AV _⟩,D⟩,JK⟩))))) (fun c1=> .inr ⟨⟨g.push (.tip 1),1,z,g.next⟩,JJ,JJ,JJ,JJ,by dsimp only;rw [pM D (by unfold lnE;rw [if_neg JF])];rfl,JJ,JJ,JJ,JJ,JJ,JJ,⟨m.push2,⟨aT,m.1,AV _⟩,D⟩,JK⟩)))) (fun c0=> .inr ⟨⟨g.push (.tip 1),1,z,g.next⟩,JJ,JJ,JJ,JJ,by dsimp only;rw [pM D (by unfold lnE;rw [if_neg JF])];rfl,JJ,JJ,JJ,JJ,JJ,JJ,⟨m.push2,⟨aT,m.1,AV _⟩,D⟩,JK⟩)
  ·rintro⟨g,j,z,G⟩ _ ⟨m,⟨tp,ge,lt⟩,b4⟩;dsimp only at m tp ge lt b4⊢;have K:=ck g m;refine gO (fun c=>?_) (fun c=>?_)
   ·have r:j<s.ms.length:=JF;refine aW ⟨JF,JF⟩ (dN (L _ j r) ?_);refine gO (fun c0=>aD K.g0 (bM rfl (gO (fun c1=>aD K.g0 (bM rfl (aW ⟨c0,c1⟩ (dN (L p (s.ms.getD j 0).toNat JF) (aS tp (aA (by simp only [AD,bL,AS,true_and];omega) (.inr ⟨⟨g.set G (.tip (j+1)),j+1,z,G⟩,JJ,JJ,JJ,JJ,by dsimp only;rw [pM r (by unfold lnE;rw [if_pos ⟨c0,c1⟩])],JJ,JJ,by rw [O _ JF],JJ,JJ,JJ,⟨m.set ge,⟨aK,ge,lt⟩,r⟩,JK⟩))))))) (fun c1=>aS tp (aA (by simp only [AD,bL,AS,true_and];omega) (.inr ⟨⟨g.set G (.tip (j+1)),j+1,z,G⟩,JJ,JJ,JJ,JJ,by dsimp only;rw [pM r (by unfold lnE;rw [if_neg JF])],JJ,JJ,by rw [O _ JF],JJ,JJ,JJ,⟨m.set ge,⟨aK,ge,lt⟩,r⟩,JK⟩)))))) (fun c0=>aS tp (aA (by simp only [AD,bL,AS,true_and];omega) (.inr ⟨⟨g.set G (.tip (j+1)),j+1,z,G⟩,JJ,JJ,JJ,JJ,by dsimp only;rw [pM r (by unfold lnE;rw [if_neg JF])],JJ,JJ,by rw [O _ JF],JJ,JJ,JJ,⟨m.set ge,⟨aK,ge,lt⟩,r⟩,JK⟩)))
   ·obtain rfl:j=s.ms.length:=JF;exact .inr ⟨⟨g,0,z,G⟩,JJ,JJ,JJ,JJ,by dsimp only;rw [DH],JJ,JJ,JJ,m,trivial⟩
  refine(fun hB=>⟨fun x b hx=>⟨.inl ⟨⟨x.g,0,x.io,x.iq⟩,JJ,JJ,JJ,JJ,JJ,JJ,JJ,JJ,JJ,JJ,JJ,⟨hx.1,hx.2,BE _,fun q c hq=>absurd hq (CF _)⟩,trivial⟩,hB⟩,fun x b hx=>⟨.inr ⟨⟨x.g,0,x.io,x.iq⟩,JJ,JJ,JJ,JJ,JJ,JJ,JJ,JJ,JJ,JJ,JJ,⟨hx,BE _,fun q c hq=>absurd hq (CF _)⟩,trivial⟩,hB⟩⟩) ⟨?_,?_⟩
  ·rintro⟨g,j,z,G⟩ _ ⟨m,hm,A⟩;dsimp only at m hm A⊢;have K:=ck g m;have R: ¬j<cs.length->On s p l cs cs.length:=fun q=>by
    have e:j=cs.length:=by have:=A.1;omega
    rw [e]at A;exact A
   refine gO (fun c=>?_) (fun c=>hk true g (fun _=>Kh hw hr iL iR a9 hv a3 (R JF)) m);have r:j<cs.length:=JF;obtain⟨b5,b6,b7,b9,kn,c3,c4,k6,k5⟩:=kc _ (AH r);have d0:(cs.flatMap vS)[j*4]?=some (.int .i64 cs[j].k):=qO r (j:=0) JG;have d1:(cs.flatMap vS)[j*4+1]?=some (.int .i64 cs[j].a):=qO r (j:=1) JG;have d2:(cs.flatMap vS)[j*4+1+1]?=some (.int .i64 cs[j].b):=qO r (j:=2) JG;have d3:(cs.flatMap vS)[j*4+1+1+1]?=some (.int .i64 cs[j].n):=qO r (j:=3) JG;have nx:Hi s p l cs[j]->On s p l cs (j+1):=fun hg=>⟨r,fun q c hq V=>by
    rcases BB q j with d|d
    ·exact A.2 q c d V
    ·obtain rfl:q=j:=JF;rw [AA r,AB]at V;rw [<-V];exact hg⟩
   unfold Hi at nx;have wa:IntKind.i64.wrap (cs[j].a-1)=cs[j].a-1:=AF _ JF;have wb:IntKind.i64.wrap (cs[j].b-1)=cs[j].b-1:=AF _ JF;refine aW ⟨JF,JF⟩ (dN d0 (dN d1 (dN d2 (dN d3 ?_))));rw [wa,wb];have m0:s.ms.length=0:=by rw [hm];rfl
   refine aB (fun X=>?_) (fun X=>aB (fun c5=>?_) (fun c5=>?_))
   ·rw [beq_iff_eq]at X;have:=k6 X;omega
   ·rw [beq_iff_eq]at c5;have:=k5 c5;omega
   ·rw [beq_eq_false_iff_ne]at X;refine⟨E8 l s.vs,[],⟨(uI _ _).symm,rfl⟩,⟨rfl,rfl⟩,⟨by rw [uI];omega,JG,fun x hx=>by cases hx⟩,aB (fun _=>fin g m) (fun ch=> .inl ⟨⟨g,j+1,z,G⟩,JJ,JJ,JJ,JJ,JJ,JJ,JJ,by rw [O _ JF],JJ,JJ,JJ,⟨m,hm,nx ?_⟩,JK⟩)⟩;rw [if_neg X,hm];rw [BO]at ch;exact ch
  ·rintro⟨g,j,z,G⟩ _ ⟨m,A⟩;dsimp only at m A⊢;have K:=ck g m;have R: ¬j<cs.length->On s p l cs cs.length:=fun q=>by
    have e:j=cs.length:=by have:=A.1;omega
    rw [e]at A;exact A
   refine gO (fun c=>?_) (fun c=>hk true g (fun _=>Kh hw hr iL iR a9 hv a3 (R JF)) m);have r:j<cs.length:=JF;obtain⟨b5,b6,b7,b9,kn,c3,c4,k6,k5⟩:=kc _ (AH r);have d0:(cs.flatMap vS)[j*4]?=some (.int .i64 cs[j].k):=qO r (j:=0) JG;have d1:(cs.flatMap vS)[j*4+1]?=some (.int .i64 cs[j].a):=qO r (j:=1) JG;have d2:(cs.flatMap vS)[j*4+1+1]?=some (.int .i64 cs[j].b):=qO r (j:=2) JG;have d3:(cs.flatMap vS)[j*4+1+1+1]?=some (.int .i64 cs[j].n):=qO r (j:=3) JG;have nx:Hi s p l cs[j]->On s p l cs (j+1):=fun hg=>⟨r,fun q c hq V=>by
    rcases BB q j with d|d
    ·exact A.2 q c d V
    ·obtain rfl:q=j:=JF;rw [AA r,AB]at V;rw [<-V];exact hg⟩
   unfold Hi at nx;have wa:IntKind.i64.wrap (cs[j].a-1)=cs[j].a-1:=AF _ JF;have wb:IntKind.i64.wrap (cs[j].b-1)=cs[j].b-1:=AF _ JF;refine aW ⟨JF,JF⟩ (dN d0 (dN d1 (dN d2 (dN d3 ?_))));rw [wa,wb];refine aB (fun X=>?_) (fun X=>aB (fun c5=>?_) (fun c5=>?_))
   ·rw [beq_iff_eq]at X;have q6:=k6 X;refine aW ⟨JF,JF⟩ (dN (L _ (cs[j].a-1).toNat JF) (aW ⟨JF,JF⟩ (dN (L _ (cs[j].b-1).toNat JF) (aB (fun _=>fin g m) (fun ne=> .inr ⟨⟨g,j+1,z,G⟩,JJ,JJ,JJ,JJ,JJ,JJ,JJ,by rw [O _ JF],JJ,JJ,JJ,⟨m,nx (by rw [if_pos X];exact beq_eq_false_iff_ne.1 ne)⟩,JK⟩)))))
   ·rw [beq_iff_eq]at c5;rw [beq_eq_false_iff_ne]at X;have q5:=k5 c5;exact aW ⟨JF,JF⟩ (dN (L _ (cs[j].b-1).toNat JF) (gO (fun _=>fin g m) (fun _=>aD K.g0 (bM rfl (gO (fun _=>fin g m) (fun _=>⟨E8 l s.vs,G8 p s.ms,⟨(uI _ _).symm,rfl⟩,⟨(I8 _ _).symm,rfl⟩,⟨by rw [uI];omega,by rw [I8];omega,Vn a7.2⟩,aB (fun _=>fin g m) (fun ch=> .inr ⟨⟨g,j+1,z,G⟩,JJ,JJ,JJ,JJ,JJ,JJ,JJ,by rw [O _ JF],JJ,JJ,JJ,⟨m,nx (by rw [if_neg X];rw [BO]at ch;exact ch)⟩,JK⟩)⟩))))))
   ·rw [beq_eq_false_iff_ne]at X;exact⟨E8 l s.vs,G8 p s.ms,⟨(uI _ _).symm,rfl⟩,⟨(I8 _ _).symm,rfl⟩,⟨by rw [uI];omega,by rw [I8];omega,Vn a7.2⟩,aB (fun _=>fin g m) (fun ch=> .inr ⟨⟨g,j+1,z,G⟩,JJ,JJ,JJ,JJ,JJ,JJ,JJ,by rw [O _ JF],JJ,JJ,JJ,⟨m,nx (by rw [if_neg X];rw [BO]at ch;exact ch)⟩,JK⟩)⟩
 ·exact hk.elim
def c7D:=aV 97 c8R c7A
theorem c5E:aO env c7D:=aF e3I (c5B)
def d6N(rl:List Ru)(g:Y12)(l:Y15)(h:Heap):Inv':=eA (Nat×Heap×Y12) (fun x=>[(1,.v (.vslice none 0 0 3 [])),(3,.v (.vslice none 0 (l).length 3 ((l).flatMap cN))),(9,.v (.ptr (h.next+1) 0)),(20,.v (.int .i64 (l.length:Int))),(21,.v (.int .i64 (x.1:Int)))]) (fun _=>[]) (fun x=>x.2.1)
 (fun x=>HP h x.2.1/\h.next+1<x.2.1.next/\x.2.1.get (h.next+1)= .cells [.vslice none 0 rl.length 14 (rl.flatMap bS),.vslice none 0 (g).length 1 ((g).map (IV.int .i64)),.vslice none 0 (l).length 3 ((l).flatMap cN),.hslice h.next 0 l.length 1,.nilslice]/\x.2.1.get h.next= .cells (x.2.2.map (IV.int .i64))/\x.2.2.length=l.length/\x.1<=l.length/\x.2.2.take x.1=(aE l).take x.1) (fun x=>l.length-x.1)
def c8P(xs:Y14)(h:Heap)(K:KT):Prop:=match xs with
 | [.vslice none 0 n1 14 c1,.vslice none 0 0 3 [],.vslice none 0 n2 1 c2,.vslice none 0 n3 3 c3]=> ∃(rl:List Ru)(g:Y12)(l:Y15),(n1=rl.length/\c1=rl.flatMap bS/\n2=g.length/\c2=g.map (IV.int .i64)/\n3=l.length/\c3=l.flatMap cN)/\((∀n∈l,lV n/\n.ks.length<=40)/\1<=l.length/\l.length<=1000)/\∀(id j:Nat)(h2:Heap),CkH rl g l id j h2->HP h h2->K (.ptr id 0) h2
 |_=>False
def a2R:=IV.int .i64
def c3R(rl:List Ru)(g:Y12)(l:Y15)(h:Heap):=[IV.vslice none 0 rl.length 14 (List.flatMap bS rl),IV.vslice none 0 g.length 1 (List.map a2R g),IV.vslice none 0 l.length 3 (List.flatMap cN l),IV.hslice (h.next) 0 l.length 1,IV.nilslice]
def b5R(l:Y15):=TV.v (.vslice none 0 l.length 3 (List.flatMap cN l))
def b5S:=TV.v (.vslice none 0 0 3 [])
def Gd(h:Heap):=h.next+1
def b5T(l:Y15):=TV.v (.int .i64 (l.length:Int))
def b5U(h:Heap):=TV.v (.ptr (Gd h) 0)
theorem e4I(rl:List Ru)(m:Y12)(l:Y15)(h:Heap)(Q:KT):dF (aR c7D) env 52 cS (oE 4 (d6N rl m l h)) bK [.vslice none 0 rl.length 14 (rl.flatMap bS),.vslice none 0 0 3 [],.vslice none 0 (m).length 1 ((m).map (IV.int .i64)),.vslice none 0 (l).length 3 ((l).flatMap cN)] h Q=(
 aC (decide (0<=(l.length:Int)) && (decide ((l.length:Int)<=(l.length:Int)) && (decide ((l.length:Int)<=9223372036854775807) &&decide ((8:Int)*(l.length:Int)<=140737488355328)))) ((∃(x:Nat×Heap×Y12),some b5S=some b5S/\some (b5R l)=some (b5R l)/\some (b5U h)=some (b5U h)/\some (b5T l)=some (b5T l)/\tI 0=tI (x.1:Int)/\Heap.push (h.push (IObj.cells (dY ((l.length:Int).toNat) [iI 0]))) (IObj.cells [IV.vslice none 0 rl.length 14 (List.flatMap bS rl),IV.vslice none 0 m.length 1 (List.map a2R m),IV.vslice none 0 l.length 3 (List.flatMap cN l),IV.hslice (h.next) 0 ((l.length:Int).toNat) 1,IV.nilslice])=x.2.1/\(HP h x.2.1/\Heap.next h+1<x.2.1.next/\Heap.get x.2.1 (Gd h)=IObj.cells (c3R rl m l h)/\Heap.get x.2.1 (h.next)=IObj.cells (List.map a2R x.2.2)/\x.2.2.length=l.length/\x.1<=l.length/\List.take x.1 x.2.2=List.take x.1 (aE l))/\True)/\∀(x:Nat×Heap×Y12)(b:FF),HP h x.2.1/\Heap.next h+(1:Nat)<x.2.1.next/\Heap.get x.2.1 (Gd h)=IObj.cells (c3R rl m l h)/\Heap.get x.2.1 (h.next)=IObj.cells (List.map a2R x.2.2)/\x.2.2.length=l.length/\x.1<=List.length l/\List.take x.1 x.2.2=List.take x.1 (aE l)->aI (decide ((x.1:Int)< (l.length:Int))) (aJ x.2.1 (Gd h) fun r0=>vD 1 r0 3 False fun(r q y:Nat)=> ∃(g:Y15),(l.length=g.length/\List.flatMap cN l=List.flatMap cN g)/\((∀(x:Nd),x∈g->List.length (Nd.ks x)<=1000000/\True)/\g.length<=1000000/\0<=(x.1:Int)/\(x.1:Int)< (g.length:Int))/\aC (decide (0<=((x.1):Int)) &&decide ((x.1:Int)< (y:Int))) (aJ x.2.1 r fun r4=>aC (Nat.ble (q+(x.1:Int).toNat*1+1) r4.length) (∃(j:Nat×Heap×Y12),some b5S=some b5S/\some (b5R l)=some (b5R l)/\some (b5U h)=some (b5U h)/\some (b5T l)=some (b5T l)/\tI (wW ((x.1:Int)+1))=tI (j.1:Int)/\Heap.set x.2.1 r (IObj.cells (List.take (q+((x.1):Int).toNat*1) r4++ [iI (List.getD (aE g) ((x.1:Int).toNat) 0)]++List.drop (q+(x.1:Int).toNat*1+1) r4))=j.2.1/\(HP h j.2.1/\Heap.next h+1< (j.2.1).next/\Heap.get j.2.1 (Gd h)=IObj.cells (c3R rl m l h)/\Heap.get j.2.1 (h.next)=IObj.cells (List.map a2R j.2.2)/\j.2.2.length=l.length/\j.1<=l.length/\List.take (j.1) j.2.2=List.take j.1 (aE l))/\l.length-j.1<l.length-x.1))) (∃(g:Y15)(C:List (Int×Iv)),(l.length=g.length/\List.flatMap cN l=List.flatMap cN g/\(0:Nat)=C.length/\[]=List.flatMap Hj C)/\LOk g/\(∀(n:Nd),n∈g->inR (Nd.im n))/\((∀(p:Int×Iv),p∈C->jK p.2)/\C.length<=1099511627776)/\aJ x.2.1 (Gd h) fun r5=>aC (Nat.ble 5 r5.length) (Q (.ptr (Gd h) 0) ((x.2.1).set (Gd h) (IObj.cells (List.take 4 r5++ [IV.vslice none 0 g.length 2 (List.flatMap cR (rG g (vZ C)))]++List.drop 5 r5))))))):=by kernel_rfl
theorem e3G: ∀xs h Q,c8P xs h Q->aL env 52 xs h Q:=by
 intro xs h Q y;unfold c8P at y;split at y
 ·rename_i n1 c1 n2 c2 n3 c3;obtain⟨rl,j,l,⟨rfl,rfl,rfl,rfl,rfl,rfl⟩,Y,y⟩:=y;refine aN (c5E) (e4I rl j l h Q) ?_;delta c3R b5R b5S Gd b5T b5U a2R tI wW iI;have tn: ∀x:Nat,(x:Int).toNat=x:=AK
  obtain⟨r,a0,a1⟩:=Y;have a2:=aY l;have X:=Rt l (vZ []);have R: ∀x:Nat,x<=1000000->IntKind.i64.wrap ((x:Int)+1)=((x+1:Nat):Int):=fun x V=>by rw [AF _ JF];rfl
  simp only [tn,AO,AX];refine aA (by simp only [AD,decide_eq_true_eq];omega) ⟨⟨(0,(h.push (.cells (dY l.length [.int .i64 0]))).push (.cells [.vslice none 0 rl.length 14 (rl.flatMap bS),.vslice none 0 j.length 1 (j.map (IV.int .i64)),.vslice none 0 l.length 3 (l.flatMap cN),.hslice h.next 0 l.length 1,.nilslice]),List.replicate l.length 0),JJ,JJ,JJ,JJ,JJ,JJ,⟨HP.push.push2,AV _,aT,(aQ (AV _)).trans (aT.trans (by rw [mW])),JH,BE _,rfl⟩,trivial⟩,?_⟩;rintro⟨i,g,k⟩ _ ⟨D,m,G,K,A,Z,q⟩;dsimp only at D m G K A Z q⊢;refine gO (fun c=>?_) (fun c=>?_)
  ·have z:i<k.length:=JF;refine aD G (P6 rfl ⟨l,⟨rfl,rfl⟩,⟨fun x V=>⟨by have:=(r x V).2;omega,True.intro⟩,JF,JF,JF⟩,aW ⟨JF,JF⟩ (aD K (aA (by rw [AS,BG];omega) ?_))⟩);simp only [AX];rw [Go.M14.Ko z];refine⟨(i+1,g.set h.next (.cells ((k.set i ((aE l).getD i 0)).map (IV.int .i64))),k.set i ((aE l).getD i 0)),JJ,JJ,JJ,JJ,by rw [R _ JF],JJ,⟨D.set (AG _),m,(aH JF).trans G,aK,by dsimp only;rw [BX];exact A,JK,?_⟩,JK⟩;dsimp only;rw [AZ (by rw [BX];exact z),AZ (show i< (aE l).length by omega),HA (AG _),q,FE,bH (show i< (aE l).length by omega)]
  have L:k=aE l:=by
   rw [AM JF,AM JF]at q;exact q
  refine⟨l,[],⟨rfl,rfl,rfl,rfl⟩,⟨JF,fun n O=>(r n O).2⟩,fun n O=>(r n O).1.2.1,⟨fun p D=>(by cases D),JG⟩,aD G (aA rfl (y (h.next+1) h.next _ ⟨?_,?_,JF,?_⟩ (D.set JF)))⟩
  ·rw [aK];rfl
  ·rw [aH JF,K,L]
  ·exact⟨m,Nat.lt_of_succ_lt m⟩
 ·exact y.elim
def c7C:=aV 52 c8P c7D
theorem c5D:aO env c7C:=aF e3G (c5E)
def c8S(xs:Y14)(h:Heap)(K:KT):Prop:=match xs with
 | [.ptr id 0,.agg [.int .i64 a,.int .i64 b,.int .i64 y,.vslice i1 e1 n1 1 c1,.vslice i2 e2 n2 1 c2]]=> ∃(s:Ste)(rl:List Ru)(g:Y12)(l:Y15)(j:Nat),(i1=none/\i2=none/\a=s.l/\b=s.r/\y=s.y/\n1=s.vs.length/\c1=s.vs.map (IV.int .i64)/\n2=s.ms.length/\c2=s.ms.map (IV.int .i64))/\(CkH rl g l id j h/\WS l/\s.ok/\(∀r∈rl,r∈cC)/\rl.length<=1000/\(g.length<=1000/\∀x∈g,inR x))/\∀(b:Bool)(h2:Heap),(b=true->SOk l s)->HP h h2->K (.bool b) h2
 |_=>False
theorem e4L(id:Nat)(s:Ste)(e1 e2:Nat)(rl:List Ru)(j:Y12)(l:Y15)(p:Nat)(h:Heap)(Q:KT):dF (aR c7C) env 53 cS bK bK [.ptr id 0,.agg [.int .i64 s.l,.int .i64 s.r,.int .i64 s.y,.vslice none e1 s.vs.length 1 (s.vs.map (IV.int .i64)),.vslice none e2 s.ms.length 1 (s.ms.map (IV.int .i64))]] h Q=(
  ∃(rl:List Ru)(j:Y12)(l:Y15)(p:Nat),
 CkH rl j l id p h/\
 aI (!(decide (0<=Ste.l s) &&decide (Ste.l s< (l.length:Int)))) (Q (.bool false) h)
 (∃(rl:List Ru)(j:Y12)(l:Y15)(p:Nat),
 CkH rl j l id p h/\
 aI (!(decide (0<=Ste.r s) &&decide (Ste.r s< (l.length:Int)))) (Q (.bool false) h)
 (aJ h id fun r0=>
 vD 1 r0 3 False fun(i1 o2 l3:Nat)=>
 aC (decide (0<=Ste.l s) &&decide (Ste.l s< (l3:Int)))
 (aJ h i1 fun r4=>
 aG .i64 r4 (o2+(Ste.l s).toNat*1) fun n5=>
 aI (n5==0) (Q (.bool false) h)
 (aJ h id fun r6=>
 vD 1 r6 3 False fun(i7 o8 l9:Nat)=>
 aC (decide (0<=Ste.l s) &&decide (Ste.l s< (l9:Int)))
 (aJ h i7 fun Ng=>
 aG .i64 Ng (o8+(Ste.l s).toNat*1) fun a3=>
 aJ h id fun G9=>
 vD 1 G9 3 False fun(L b5 X:Nat)=>
 aC (decide (0<=Ste.r s) &&decide (Ste.r s< (X:Int)))
 (aJ h L fun Rs=>
 aG .i64 Rs (b5+(Ste.r s).toNat*1) fun a4=>
 aI (a3 !=a4) (Q (.bool false) h)
 (aI (Ste.y s==0)
 (aI ((↑((Ste.vs s).length):Int)==0)
 (aI ((↑((Ste.ms s).length):Int)==0)
 (∃(g:Ste)(rl:List Ru)(j:Y12)(l:Y15)(p:Nat),
 ((none:Y10)=none/\
 (none:Y10)=none/\
 Ste.l s=Ste.l g/\
 Ste.r s=Ste.r g/\
 Ste.y s=Ste.y g/\
 List.length (Ste.vs s)=(Ste.vs g).length/\
 List.map (IV.int .i64) (Ste.vs s)=List.map (IV.int .i64) (Ste.vs g)/\
 List.length (Ste.ms s)=(Ste.ms g).length/\List.map (IV.int .i64) (Ste.ms s)=List.map (IV.int .i64) (Ste.ms g))/\
 (CkH rl j l id p h/\WS l/\iV l (Ste.l g)/\iV l (Ste.r g))/\∀(b:Bool)(h2:Heap),HP h h2->Q (.bool b) h2)
 (Q (.bool false) h))
 (Q (.bool false) h))
 (aI (Ste.y s==(-1:Int))
 (aI ((↑((Ste.vs s).length):Int)==0)
 (aI ((↑((Ste.ms s).length):Int)==0)
 (∃(g:Ste)(rl:List Ru)(j:Y12)(l:Y15)(p:Nat),
 ((none:Y10)=none/\
 (none:Y10)=none/\
 Ste.l s=Ste.l g/\
 Ste.r s=Ste.r g/\
 Ste.y s=Ste.y g/\
 List.length (Ste.vs s)=(Ste.vs g).length/\
 List.map (IV.int .i64) (Ste.vs s)=List.map (IV.int .i64) (Ste.vs g)/\
 List.length (Ste.ms s)=(Ste.ms g).length/\List.map (IV.int .i64) (Ste.ms s)=List.map (IV.int .i64) (Ste.ms g))/\
 (CkH rl j l id p h/\WS l/\iV l (Ste.l g)/\iV l (Ste.r g))/\
 ∀(b:Bool)(h2:Heap),(b=true->W2 l ((Ste.l g).toNat) ((Ste.r g).toNat))->HP h h2->Q (.bool b) h2)
 (Q (.bool false) h))
 (Q (.bool false) h))
 (aI (decide (Ste.y s>=1))
 (aJ h id fun Gq=>
 aZ 14 Gq 0 fun(c1:Y10)(b9 Y:Nat)(b7:Y14)=>
 aI (decide (Ste.y s<=(Y:Int)))
 (aJ h id fun r23=>
 aZ 14 r23 0 fun(c2:Y10)(c0 Z:Nat)(m:Y14)=>
 aC (decide (0<=IntKind.wrap .i64 (Ste.y s-1)) &&decide (IntKind.wrap .i64 (Ste.y s-1)< (Z:Int)))
 (W7 m ((IntKind.wrap .i64 (Ste.y s-1)).toNat*14) fun(b6:Y11)=>
 aG .i64 m ((IntKind.wrap .i64 (Ste.y s-1)).toNat*14+1) fun a5=>
 aG .i64 m ((IntKind.wrap .i64 (Ste.y s-1)).toNat*14+1+1) fun a6=>
 aG .i64 m ((IntKind.wrap .i64 (Ste.y s-1)).toNat*14+1+1+1) fun a7=>
 aG .i64 m ((IntKind.wrap .i64 (Ste.y s-1)).toNat*14+1+1+1+1)
 fun a8=>
 aZ 5 m ((IntKind.wrap .i64 (Ste.y s-1)).toNat*14+1+1+1+1+1)
 fun(O:Y10)(D a0:Nat)(q:Y14)=>
 aG .i64 m
 ((IntKind.wrap .i64 (Ste.y s-1)).toNat*14+1+1+1+1+1+1)
 fun a9=>
 aG .i64 m
 ((IntKind.wrap .i64 (Ste.y s-1)).toNat*14+1+1+1+1+1+1+
 (1:Nat))
 fun b0=>
 aG .i64 m
 ((IntKind.wrap .i64 (Ste.y s-1)).toNat*14+1+1+1+1+1+1+
 (1:Nat)+
 (1:Nat))
 fun b1=>
 aG .i64 m
 ((IntKind.wrap .i64 (Ste.y s-1)).toNat*14+1+1+1+1+1+
 (1:Nat)+
 (1:Nat)+
 (1:Nat)+
 (1:Nat))
 fun b2=>
 aZ 5 m
 ((IntKind.wrap .i64 (Ste.y s-1)).toNat*14+1+1+1+1+1+
 (1:Nat)+
 (1:Nat)+
 (1:Nat)+
 (1:Nat)+
 (1:Nat))
 fun(R:Y10)(G a1:Nat)(z:Y14)=>
 aZ 4 m
 ((IntKind.wrap .i64 (Ste.y s-1)).toNat*14+1+1+1+1+1+
 (1:Nat)+
 (1:Nat)+
 (1:Nat)+
 (1:Nat)+
 (1:Nat)+
 (1:Nat))
 fun(V:Y10)(K a2:Nat)(A:Y14)=>
 aG .i64 m
 ((IntKind.wrap .i64 (Ste.y s-1)).toNat*14+1+1+1+1+1+
 (1:Nat)+
 (1:Nat)+
 (1:Nat)+
 (1:Nat)+
 (1:Nat)+
 (1:Nat)+
 (1:Nat))
 fun b3=>
 aG .i64 m
 ((IntKind.wrap .i64 (Ste.y s-1)).toNat*14+1+1+1+1+1+
 (1:Nat)+
 (1:Nat)+
 (1:Nat)+
 (1:Nat)+
 (1:Nat)+
 (1:Nat)+
 (1:Nat)+
 (1:Nat))
 fun b4=>
 ∃(g:Ste)(k1 k2:List T)(cs:List Cn)(rl:List Ru)(j:Y12)(l:Y15)(p:Nat),
 ((none:Y10)=none/\
 (none:Y10)=none/\
 Ste.l s=Ste.l g/\
 Ste.r s=Ste.r g/\
 Ste.y s=Ste.y g/\
 List.length (Ste.vs s)=(Ste.vs g).length/\
 List.map (IV.int .i64) (Ste.vs s)=List.map (IV.int .i64) (Ste.vs g)/\
 List.length (Ste.ms s)=(Ste.ms g).length/\
 List.map (IV.int .i64) (Ste.ms s)=List.map (IV.int .i64) (Ste.ms g))/\
 (O=none/\
 D=0/\
 R=none/\
 G=0/\
 V=none/\
 K=0/\
 a0=k1.length/\
 q=cQ k1/\
 a1=k2.length/\z=cQ k2/\a2=cs.length/\A=List.flatMap vS cs)/\
 (List.Mem (Ru.mk b6 (T.mk a5 a6 a7 a8 k1) (T.mk a9 b0 b1 b2 k2) b3 b4 cs) cC/\
 CkH rl j l id p h/\
 WS l/\
 iV l (Ste.l g)/\
 iV l (Ste.r g)/\
 List.getD (aE l) ((Ste.l g).toNat) 0=
 List.getD (aE l) ((Ste.r g).toNat) 0/\
 Ste.ok g/\j.length<=1000/\∀(x:Int),x∈j->inR x)/\
 ∀(b:Bool)(h2:Heap),
 (b=true->W2 l ((Ste.l g).toNat) ((Ste.r g).toNat))->HP h h2->Q (.bool b) h2))
 (Q (.bool false) h))
 (Q (.bool false) h))))))))))):=by kernel_rfl
theorem e3J: ∀xs h Q,c8S xs h Q->aL env 53 xs h Q:=by
 intro xs h Q q;unfold c8S at q;split at q
 ·rename_i id a b y i1 e1 n1 c1 i2 e2 n2 c2;obtain⟨s,rl,m,l,K,⟨rfl,rfl,rfl,rfl,rfl,rfl,rfl,rfl,rfl⟩,⟨hc,hw,a4,a3,a9,a0⟩,q⟩:=q;refine aN (c5D) (e4L id s e1 e2 rl m l K h Q) ?_;have tn: ∀x:Nat,(x:Int).toNat=x:=AK
  have p:=hc;obtain⟨L,c1,a8,a7⟩:=hc;have b0:=aY l;have fin:Q (.bool false) h:=q false h (fun e=>by cases e) HP.refl;have Y: ∀i:Int,(!(decide (0<=i) &&decide (i< (l.length:Int))))=false->iV l i:=fun i hi=>by
   simp only [BO,AD,decide_eq_true_eq]at hi;exact hi
  have G: ∀(w:Y12)(j:Nat)(O:j<w.length),(w.map (IV.int .i64))[j]?=some (.int .i64 (w.getD j 0)):=fun w j O=>by
   rw [BL,AA O,bH O];rfl
  simp only [AO,AX];refine⟨rl,m,l,K,p,aB (fun _=>fin) (fun a1=>⟨rl,m,l,K,p,aB (fun _=>fin) (fun a2=>?_)⟩)⟩;have A:=Y _ a1;have D:=Y _ a2;have V:=A.1;have X:=A.2;have a5:=D.1;have a6:=D.2;have hL:s.l.toNat< (aE l).length:=JF;have hR:s.r.toNat< (aE l).length:=JF;refine aD L (P6 rfl (aW ⟨V,X⟩ (aD c1 (dN (by rw [AX];exact G _ _ hL) (aB (fun _=>fin) (fun z1=>?_))))));refine aD L (P6 rfl (aW ⟨V,X⟩ (aD c1 (dN (by rw [AX];exact G _ _ hL) ?_))));refine aD L (P6 rfl (aW ⟨a5,a6⟩ (aD c1 (dN (by rw [AX];exact G _ _ hR) (aB (fun _=>fin) (fun z2=>?_))))));rw [bne_eq_false_iff_eq]at z2;refine aB (fun y0=>aB (fun _=>aB (fun _=>⟨s,rl,m,l,K,⟨True.intro,True.intro,rfl,rfl,rfl,rfl,rfl,rfl,rfl⟩,⟨p,hw,A,D⟩,fun b h2 R=>q b h2 (fun _=>⟨A,D,fun y=>absurd (beq_iff_eq.1 y0) y⟩) R⟩) (fun _=>fin)) (fun _=>fin)) (fun y0=>aB (fun y1=>aB (fun _=>aB (fun _=>⟨s,rl,m,l,K,⟨True.intro,True.intro,rfl,rfl,rfl,rfl,rfl,rfl,rfl⟩,⟨p,hw,A,D⟩,fun b h2 Z R=>q b h2 (fun e=>⟨A,D,fun _=>Z e⟩) R⟩) (fun _=>fin)) (fun _=>fin)) (fun y1=>gO (fun y2=>aD L (bM rfl (gO (fun y3=>aD L (bM rfl ?_)) (fun _=>fin)))) (fun _=>fin)));have wy:IntKind.i64.wrap (s.y-1)=s.y-1:=AF _ JF;rw [wy];have ht:(s.y-1).toNat<rl.length:=JF;refine aW ⟨JF,JF⟩ ?_;have z:=a3 _ (AH ht);have g: ∀j,j<14->(rl.flatMap bS)[(s.y-1).toNat*14+j]?=(bS rl[(s.y-1).toNat])[j]?:=fun j O=>Cs ht O
  generalize rl[(s.y-1).toNat]=r at z g;obtain⟨nm,⟨v1,o1,m1,w1,k1⟩,⟨v2,o2,m2,w2,k2⟩,nv,ni,cs⟩:=r;refine a0M (g 0 JG) (dN (g 1 JG) (dN (g 2 JG) (dN (g 3 JG) (dN (g 4 JG) (a8F (g 5 JG) (dN (g 6 JG) (dN (g 7 JG) (dN (g 8 JG) (dN (g 9 JG) (a8F (g 10 JG) (a8F (g 11 JG) (dN (g 12 JG) (dN (g 13 JG) ?_)))))))))))));exact⟨s,k1,k2,cs,rl,m,l,K,⟨True.intro,True.intro,rfl,rfl,rfl,rfl,rfl,rfl,rfl⟩,⟨rfl,rfl,rfl,rfl,rfl,rfl,rfl,rfl,rfl,rfl,rfl,rfl⟩,⟨z,p,hw,A,D,z2,a4,a0⟩,fun b h2 Z R=>q b h2 (fun e=>⟨A,D,fun _=>Z e⟩) R⟩
 ·exact q.elim
def c7E:=aV 53 c8S c7C
theorem c5F:aO env c7E:=aF e3J (c5D)
structure ChX where
 g:Heap
 id:Nat
 is:Nat
 i:Nat
def chA(rl:List Ru)(j:Y12)(l:Y15)(ss:List Ste)(a b:Int):Inv':=eA ChX (fun x=>[(7,.l 7 0),(9,.v (.ptr x.id 0)),(23,.v (.hslice x.is 0 l.length 1)),(24,.v (.int .i64 (l.length:Int))),(25,.v (.int .i64 (x.i:Int)))]) (fun _=>[(7,[.vslice none 0 (l).length 3 ((l).flatMap cN),.vslice none 0 ss.length 5 (ss.flatMap iT),.int .i64 a,.int .i64 b])]) (fun x=>x.g)
 (fun x=>CkH rl j l x.id x.is x.g/\x.i<=l.length/\∀q,q<x.i->(aE l).getD q 0≠0) (fun x=>l.length-x.i)
def chB(rl:List Ru)(j:Y12)(l:Y15)(ss:List Ste)(a b:Int):Inv':=eA ChX (fun x=>[(7,.l 7 0),(9,.v (.ptr x.id 0)),(33,.v (.vslice none 0 ss.length 5 (ss.flatMap iT))),(34,.v (.int .i64 (ss.length:Int))),(35,.v (.int .i64 (x.i:Int)))]) (fun _=>[(7,[.vslice none 0 (l).length 3 ((l).flatMap cN),.vslice none 0 ss.length 5 (ss.flatMap iT),.int .i64 a,.int .i64 b])]) (fun x=>x.g)
 (fun x=>CkH rl j l x.id x.is x.g/\x.i<=ss.length/\∀(q:Nat)(s:Ste),q<x.i->ss[q]?=some s->SOk l s) (fun x=>ss.length-x.i)
def c8L(xs:Y14)(h:Heap)(K:KT):Prop:=match xs with
 | [.vslice none 0 n1 14 c1,.vslice none 0 0 3 [],.vslice none 0 n2 1 c2,.agg [.vslice none 0 n3 3 c3,.vslice none 0 n4 5 c4,.int .i64 a,.int .i64 b]]=> ∃(rl:List Ru)(g:Y12)(l:Y15)(ss:List Ste),(n1=rl.length/\c1=rl.flatMap bS/\n2=g.length/\c2=g.map (IV.int .i64)/\n3=l.length/\c3=l.flatMap cN/\n4=ss.length/\c4=ss.flatMap iT)/\(((∀n∈l,lV n/\n.ks.length<=40)/\1<=l.length/\l.length<=1000)/\(∀r∈rl,r∈cC)/\rl.length<=1000/\(g.length<=1000/\∀x∈g,inR x)/\(∀s∈ss,s.ok)/\ss.length<=1000)/\∀r:Bool,(r=true->WS l/\iV l a/\iV l b/\W2 l a.toNat b.toNat)->K (.bool r) h
 |_=>False
def X3(l:Y15)(ss:List Ste)(a b:Int):=[IV.vslice none 0 l.length 3 (List.flatMap cN l),IV.vslice none 0 ss.length 5 (List.flatMap iT ss),iI a,iI b]
def b4V(ss:List Ste):=TV.v (.vslice none 0 ss.length 5 (List.flatMap iT ss))
def Ga:=TV.l 7 0
def b4W(ss:List Ste):=TV.v (.int .i64 (ss.length:Int))
def c3H(l:Y15):=TV.v (.int .i64 (l.length:Int))
def a2N:=IV.int .i64
def c3I(g:ChX):=TV.v (.int .i64 ((ChX.i g):Int))
def d3X(rl:List Ru)(m:Y12)(l:Y15)(ss:List Ste)(j:ChX):=(CkH rl m l (ChX.id j) (ChX.is j) (ChX.g j)/\ChX.i j<=ss.length/\∀(q:Nat)(s:Ste),q<ChX.i j->ss[q]?=some s->SOk l s)
theorem e4E(rl:List Ru)(j:Y12)(l:Y15)(ss:List Ste)(a b:Int)(h:Heap)(Q:KT):dF (aR c7E) env 27 cS (vC 4 (chA rl j l ss a b) (oE 10 (chB rl j l ss a b))) bK [.vslice none 0 rl.length 14 (rl.flatMap bS),.vslice none 0 0 3 [],.vslice none 0 (j).length 1 ((j).map (IV.int .i64)),.agg [.vslice none 0 (l).length 3 ((l).flatMap cN),.vslice none 0 ss.length 5 (ss.flatMap iT),.int .i64 a,.int .i64 b]] h Q=(
 aC (aP [IV.vslice none 0 rl.length 14 (List.flatMap bS rl),IV.vslice none 0 0 3 [],IV.vslice none 0 j.length 1 (List.map a2N j),IV.agg (X3 l ss a b)]) (∃(K:List Ru)(z:Y12)(G:Y15),(rl.length=K.length/\List.flatMap bS rl=List.flatMap bS K/\j.length=z.length/\List.map a2N j=List.map a2N z/\l.length=G.length/\List.flatMap cN l=List.flatMap cN G)/\((∀(n:Nd),n∈G->lV n/\List.length (Nd.ks n)<=(40:Nat))/\1<=G.length/\G.length<=1000)/\∀(id Y:Nat)(h2:Heap),CkH K z G id Y h2->HP (Heap.mk PT.nil 0) h2->aJ h2 id fun r0=>vD 1 r0 3 False fun(i1 o2 l3:Nat)=>(∃(x:ChX),some Ga=some Ga/\some (TV.v (.ptr id 0))=some (TV.v (.ptr (ChX.id x) 0))/\some (TV.v (.hslice i1 o2 l3 1))=some (TV.v (.hslice (ChX.is x) 0 l.length 1))/\tI (l3:Int)=some (c3H l)/\tI 0=tI ((ChX.i x):Int)/\some (X3 l ss a b)=some (X3 l ss a b)/\h2=ChX.g x/\(CkH rl j l (ChX.id x) (ChX.is x) (ChX.g x)/\ChX.i x<=l.length/\∀(q:Nat),q<ChX.i x->List.getD (aE l) q 0≠0)/\True)/\∀(x:ChX)(a1:FF),(CkH rl j l (ChX.id x) (ChX.is x) (ChX.g x)/\ChX.i x<=l.length/\∀(q:Nat),q<ChX.i x->List.getD (aE l) q 0≠0)->aI (decide (((ChX.i x):Int)< (l.length:Int))) (aC (decide (0<=((ChX.i x):Int)) &&decide (((ChX.i x):Int)< ((l.length):Int))) (aJ (ChX.g x) (ChX.is x) fun r4=>aG .i64 r4 ((0:Nat)+((ChX.i x):Int).toNat*1) fun n5=>aI (n5==0) (Q (.bool false) h) (∃(m:ChX),some Ga=some Ga/\some (TV.v (.ptr (ChX.id x) 0))=some (TV.v (.ptr (ChX.id m) 0))/\some (TV.v (.hslice (ChX.is x) 0 l.length 1))=some (TV.v (.hslice (ChX.is m) 0 l.length 1))/\some (c3H l)=some (c3H l)/\tI (wW (((ChX.i x):Int)+1))=some (c3I m)/\some (X3 l ss a b)=some (X3 l ss a b)/\ChX.g x=ChX.g m/\(CkH rl j l (ChX.id m) (ChX.is m) (ChX.g m)/\ChX.i m<=l.length/\∀(q:Nat),q<ChX.i m->List.getD (aE l) q 0≠0)/\l.length-ChX.i m<l.length-ChX.i x))) ((∃(m:ChX),some Ga=some Ga/\some (TV.v (.ptr (ChX.id x) 0))=some (TV.v (.ptr (ChX.id m) 0))/\some (b4V ss)=some (b4V ss)/\some (b4W ss)=some (b4W ss)/\tI 0=some (c3I m)/\some (X3 l ss a b)=some (X3 l ss a b)/\ChX.g x=ChX.g m/\(d3X rl j l ss m)/\True)/\∀(x:ChX)(a2:FF),(CkH rl j l (ChX.id x) (ChX.is x) (ChX.g x)/\ChX.i x<=ss.length/\∀(q:Nat)(s:Ste),q<ChX.i x->ss[q]?=some s->SOk l s)->aI (decide (((ChX.i x):Int)< (ss.length:Int))) (aC (decide (0<=((ChX.i x):Int)) &&decide (((ChX.i x):Int)< (ss.length:Int))) (aG .i64 (List.flatMap iT ss) (((ChX.i x):Int).toNat*5) fun n6=>aG .i64 (List.flatMap iT ss) (((ChX.i x):Int).toNat*5+1) fun(n7:Int)=>aG .i64 (List.flatMap iT ss) (((ChX.i x):Int).toNat*5+1+1) fun n8=>aZ 1 (List.flatMap iT ss) (((ChX.i x):Int).toNat*5+1+1+1) fun(i9:Y10)(a3 Z:Nat)(R:Y14)=>aZ 1 (List.flatMap iT ss) (((ChX.i x):Int).toNat*5+1+1+1+1) fun(X:Y10)(a4 a0:Nat)(V:Y14)=> ∃(s:Ste)(L:List Ru)(A:Y12)(p:Y15)(Y:Nat),(i9=none/\X=none/\n6=Ste.l s/\n7=Ste.r s/\n8=Ste.y s/\Z=(Ste.vs s).length/\R=List.map a2N (Ste.vs s)/\a0=(Ste.ms s).length/\V=List.map a2N (Ste.ms s))/\(CkH L A p (ChX.id x) Y (ChX.g x)/\WS p/\Ste.ok s/\(∀(r:Ru),r∈L->List.Mem r cC)/\L.length<=(1000:Nat)/\A.length<=1000/\∀(x:Int),x∈A->inR x)/\∀(O:Bool)(h2:Heap),(O=true->SOk p s)->HP (ChX.g x) h2->aI (!O) (Q (.bool false) h) (∃(m:ChX),some Ga=some Ga/\some (TV.v (.ptr (ChX.id x) 0))=some (TV.v (.ptr (ChX.id m) 0))/\some (b4V ss)=some (b4V ss)/\some (b4W ss)=some (b4W ss)/\tI (wW (((ChX.i x):Int)+1))=some (c3I m)/\some (X3 l ss a b)=some (X3 l ss a b)/\h2=ChX.g m/\(d3X rl j l ss m)/\ss.length-ChX.i m<ss.length-ChX.i x))) (∃(p:Y15)(D:List Ste)(E:Nat->Nat->Prop),(l.length=p.length/\List.flatMap cN l=List.flatMap cN p/\ss.length=D.length/\List.flatMap iT ss=List.flatMap iT D)/\((1<=p.length/\List.length p<=100000)/\D.length<=100000/\∀(n:Nd),n∈p->List.length (Nd.ks n)<=1000)/\(Equivalence E/\CE E p D)/\∀(r:Bool),(r=true->iV p a/\iV p b/\E a.toNat b.toNat)->Q (.bool r) h)))):=by kernel_rfl
theorem e3C: ∀xs h Q,c8L xs h Q->aL env 27 xs h Q:=by
 intro xs h Q D;unfold c8L at D;split at D
 ·rename_i n1 c1 n2 c2 n3 c3 n4 c4 a b;obtain⟨rl,A,l,ss,⟨rfl,rfl,rfl,rfl,rfl,rfl,rfl,rfl⟩,⟨hn,a5,a6,a3,a8,a7⟩,D⟩:=D;refine aN (c5F) (e4E rl A l ss a b h Q) ?_;delta X3 b4V Ga b4W c3H a2N c3I d3X tI wW iI;have tn: ∀x:Nat,(x:Int).toNat=x:=AK
  obtain⟨L,G,a2⟩:=hn;have a7:=aY l;have fin:Q (.bool false) h:=D false (fun e=>by cases e);have Y: ∀x:Nat,x<=1000000->IntKind.i64.wrap ((x:Int)+1)=((x+1:Nat):Int):=fun x hx=>by rw [AF _ JF];rfl
  have a9: ∀(w:Y12)(j:Nat)(hj:j<w.length),(w.map (IV.int .i64))[j]?=some (.int .i64 (w.getD j 0)):=fun w j hj=>by
   rw [BL,AA hj,bH hj];rfl
  simp only [tn,AO,AX];refine aA (by simp only [aP,bG,bR,pS,mU,bC,AL]) ⟨rl,A,l,⟨rfl,rfl,rfl,rfl,rfl,rfl⟩,⟨L,G,a2⟩,fun id V h2 p hp=>?_⟩;have a1:=p;obtain⟨c0,c1,b1,b0⟩:=p;refine aD c0 (P6 rfl ⟨⟨⟨h2,id,V,0⟩,JJ,JJ,JJ,JJ,JJ,JJ,JJ,⟨a1,BE _,fun q m=>absurd m (CF _)⟩,trivial⟩,?_⟩);rintro⟨g,id,V,i⟩ _ ⟨p,hi,K⟩;dsimp only at p hi K⊢;refine gO (fun c=>?_) (fun c=>?_)
  ·have y:i< (aE l).length:=JF;refine aW ⟨JF,JF⟩ (aD p.g1 (dN (a9 _ i y) (aB (fun _=>fin) (fun z=>⟨⟨g,id,V,i+1⟩,JJ,JJ,JJ,JJ,by rw [Y _ JF],JJ,JJ,⟨p,JK,fun q m=>?_⟩,JK⟩))));rcases BB q i with d|d
   ·exact K q d
   ·obtain rfl:q=i:=by dsimp only at m;omega
    exact beq_eq_false_iff_ne.1 z
  have hw:WS l:=⟨L,fun q m=>K q JF,G,JF⟩;refine⟨⟨⟨g,id,V,0⟩,JJ,JJ,JJ,JJ,JJ,JJ,JJ,⟨p,BE _,fun q s m=>absurd m (CF _)⟩,trivial⟩,?_⟩;rintro⟨g,id,V,i⟩ _ ⟨p,hi,R⟩;dsimp only at p hi R⊢;refine gO (fun c=>?_) (fun c=>?_)
  ·have y:i<ss.length:=JF;refine aW ⟨JF,JF⟩ (c4W y rfl ⟨ss[i],rl,A,l,V,⟨rfl,rfl,rfl,rfl,rfl,rfl,rfl,rfl,rfl⟩,⟨p,hw,a8 _ (AH y),a5,a6,a3⟩,fun b3 h3 a0 a4=>aB (fun _=>fin) (fun z=>⟨⟨h3,id,V,i+1⟩,JJ,JJ,JJ,JJ,by rw [Y _ JF],JJ,JJ,⟨p.mono a4,JK,fun q s m O=>?_⟩,JK⟩)⟩);rcases BB q i with d|d
   ·exact R q s d O
   ·obtain rfl:q=i:=by dsimp only at m;omega
    rw [AA y,AB]at O;rw [<-O];exact a0 (by rw [BO]at z;exact z)
  have X: ∀s∈ss,SOk l s:=fun s O=>by
   obtain⟨q,m,rfl⟩:=CT.1 O;exact R q _ JF (AA m)
  refine⟨l,ss,W2 l,⟨rfl,rfl,rfl,rfl⟩,⟨⟨G,JF⟩,JF,fun n hn=>by have:=(L n hn).2;omega⟩,⟨W2.eqv l,fun s O iL iR=>⟨(X s O).2.2,fun y0 o1 o2 o3 hE Z=>?_⟩⟩,fun r hr=>D r (fun e=>⟨hw,hr e⟩)⟩;have b2:=iL.1;have b4:=iL.2;have b5:=iR.1;have b6:=iR.2;have lL:s.l.toNat<l.length:=JF;have lR:s.r.toNat<l.length:=JF;rw [bH lL,bH lR]at o1 o2 o3 hE Z;exact a5M hw.wf lL lR ⟨o1,o2,o3⟩ (fun q m=>hE q m (Z q m).1 (Z q m).2)
 ·exact D.elim
def d5T:=aV 27 c8L c7E
theorem d6Q:aO env d5T:=aF e3C (c5F)
def c8Q(xs:Y14)(h:Heap)(K:KT):Prop:=match xs with
 | [.vslice none 0 n1 14 c1,.vslice none 0 0 3 [],.vslice none 0 n2 1 c2,.agg [.vslice none 0 n3 3 c3,.vslice none 0 n4 5 c4,.int .i64 a,.int .i64 b]]=> ∃(rl:List Ru)(g:Y12)(l:Y15)(ss:List Ste),(n1=rl.length/\c1=rl.flatMap bS/\n2=g.length/\c2=g.map (IV.int .i64)/\n3=l.length/\c3=l.flatMap cN/\n4=ss.length/\c4=ss.flatMap iT)/\(((∀n∈l,lV n/\n.ks.length<=40)/\1<=l.length/\l.length<=1000)/\(∀r∈rl,r∈cC)/\rl.length<=1000/\(g.length<=1000/\∀x∈g,inR x)/\(∀s∈ss,s.ok)/\ss.length<=1000)/\∀r:Bool,(r=true->WS l/\iV l a/\iV l b/\W2 l a.toNat b.toNat)->K (.bool r) h
 |_=>False
theorem e4J(rl:List Ru)(j:Y12)(l:Y15)(ss:List Ste)(a b:Int)(h:Heap)(Q:KT):dF (aR d5T) env 9 cS bK bK [.vslice none 0 rl.length 14 (rl.flatMap bS),.vslice none 0 0 3 [],.vslice none 0 (j).length 1 ((j).map (IV.int .i64)),.agg [.vslice none 0 (l).length 3 ((l).flatMap cN),.vslice none 0 ss.length 5 (ss.flatMap iT),.int .i64 a,.int .i64 b]] h Q=(
 aC (aP [IV.vslice none 0 rl.length 14 (List.flatMap bS rl),IV.vslice none 0 0 3 [],IV.vslice none 0 j.length 1 (List.map (IV.int .i64) j),IV.agg [.vslice none 0 l.length 3 (List.flatMap cN l),IV.vslice none 0 ss.length 5 (List.flatMap iT ss),iI a,iI b]]) (∃(p:List Ru)(g:Y12)(m:Y15)(q:List Ste),(rl.length=p.length/\List.flatMap bS rl=List.flatMap bS p/\j.length=g.length/\List.map (IV.int .i64) j=List.map (IV.int .i64) g/\l.length=m.length/\List.flatMap cN l=List.flatMap cN m/\ss.length=q.length/\List.flatMap iT ss=List.flatMap iT q)/\(((∀(n:Nd),n∈m->lV n/\List.length (Nd.ks n)<=40)/\1<=m.length/\m.length<=1000)/\(∀(r:Ru),r∈p->List.Mem r cC)/\p.length<=1000/\(g.length<=1000/\∀(x:Int),x∈g->inR x)/\(∀(s:Ste),s∈q->Ste.ok s)/\q.length<=1000)/\∀(r:Bool),(r=true->WS m/\iV m a/\iV m b/\W2 m a.toNat b.toNat)->Q (.bool r) h)):=by kernel_rfl
theorem e3H: ∀xs h Q,c8Q xs h Q->aL env 9 xs h Q:=by
 intro xs h Q j;unfold c8Q at j;split at j
 ·rename_i G c1 K c2 L A O D a b;obtain⟨rl,g,l,ss,⟨rfl,rfl,rfl,rfl,rfl,rfl,rfl,rfl⟩,⟨z,p,q,m,y,r⟩,j⟩:=j;refine aN (d6Q) (e4J rl g l ss a b h Q) ?_;delta iI;exact aA (by simp only [aP,bG,bR,pS,mU,bC,AL]) ⟨rl,g,l,ss,⟨rfl,rfl,rfl,rfl,rfl,rfl,rfl,rfl⟩,⟨z,p,q,m,y,r⟩,j⟩
 ·exact j.elim
def c8X(xs:Y14)(h:Heap)(K:KT):Prop:=match xs with
 | [.int .u8 c]=>K (.bool (isD c)) h
 |_=>False
theorem e4P(c:Int)(h:Heap)(Q:KT):dF (aR noC) env 125 cS bK bK [.int .u8 c] h Q=(
 aI (c==40) (Q (.bool true) h) (aI (c==41) (Q (.bool true) h) (aI (c==59) (Q (.bool true) h) (aI (c==58) (Q (.bool true) h) (Q (.bool (c==44)) h))))):=by kernel_rfl
theorem e3O: ∀xs h Q,c8X xs h Q->aL env 125 xs h Q:=by
 intro xs h Q g;unfold c8X at g;split at g
 ·rename_i c;refine aN (gX env) (e4P c h Q) ?_;unfold isD at g;refine aB (fun c1=>?_) (fun c1=>aB (fun c2=>?_) (fun c2=>aB (fun j=>?_) (fun j=>aB (fun l=>?_) (fun l=>?_))))
  all_goals (simp only [*,CX,DZ,DO]at g;exact g)
 ·exact g.elim
def c7J:=aV 125 c8X noC
theorem c5K:aO env c7J:=aF e3O (gX env)
def tkA(s:Y11):Inv':=eA TkX (fun x=>[(0,.v (.str s)),(4,.v x.v),(5,.v (.int .i64 (x.i:Int)))]) (fun _=>[]) (fun x=>x.g) (fun x=>dL x.o x.v x.g/\tY s x.o x.i) (fun x=>2*(s.length-x.i))
def tkB(s:Y11):Inv':=eA TkX (fun x=>[(0,.v (.str s)),(4,.v x.v),(5,.v (.int .i64 (x.i:Int)))]) (fun _=>[]) (fun x=>x.g) (fun x=>dL x.o x.v x.g/\Zh s x.o x.i x.b) (fun x=>2*(s.length-x.i)+bN x.b)
def tkC(s:Y11):Inv':=eA TkX (fun x=>[(0,.v (.str s)),(4,.v x.v),(5,.v (.int .i64 (x.i:Int))),(7,.v (.int .i64 (x.k:Int)))]) (fun _=>[]) (fun x=>x.g) (fun x=>dL x.o x.v x.g/\Nb s x.o x.i x.k x.b) (fun x=>2*(s.length-x.k)+bN x.b)
def tkD(s:Y11):Inv':=eA TkX (fun x=>[(0,.v (.str s)),(4,.v x.v),(5,.v (.int .i64 (x.i:Int))),(6,.v (.int .u8 (bA s x.i))),(17,.v (.bool (Nc (bA s x.i))))]) (fun _=>[]) (fun x=>x.g) (fun x=>dL x.o x.v x.g/\tY s x.o x.i/\x.i<s.length) (fun x=>2*(s.length-x.i))
def tkE(s:Y11):Inv':=eA TkX (fun x=>[(0,.v (.str s)),(4,.v x.v),(5,.v (.int .i64 (x.i:Int))),(6,.v (.int .u8 (bA s x.i))),(34,.v (.bool (A1 s x.i)))]) (fun _=>[]) (fun x=>x.g) (fun x=>dL x.o x.v x.g/\tY s x.o x.i/\x.i<s.length/\Nc (bA s x.i)=false) (fun x=>2*(s.length-x.i))
def tkG(s:Y11):Inv':=eA TkX (fun x=>[(0,.v (.str s)),(4,.v x.v),(5,.v (.int .i64 (x.i:Int)))]) (fun _=>[]) (fun x=>x.g) (fun x=>dL x.o x.v x.g/\Zh s x.o x.i x.b/\cCm s x.i=true) (fun x=>2*(s.length-x.i)+bN x.b)
def tkH(s:Y11):Inv':=eA TkX (fun x=>[(0,.v (.str s)),(4,.v x.v),(5,.v (.int .i64 (x.i:Int))),(7,.v (.int .i64 (x.k:Int)))]) (fun _=>[]) (fun x=>x.g) (fun x=>dL x.o x.v x.g/\Nb s x.o x.i x.k x.b/\Dd s x.k=true) (fun x=>2*(s.length-x.k)+bN x.b)
def tkP(s:Y11):Inv':=eA TkX (fun x=>[(0,.v (.str s)),(4,.v x.v),(5,.v (.int .i64 (x.i:Int))),(78,.v (.bool true))]) (fun _=>[]) (fun x=>x.g) (fun x=>dL x.o x.v x.g/\Nb s x.o x.i x.i false) (fun x=>2*(s.length-x.i))
def tkQ(s:Y11):Inv':=eA (List qM) (fun x=>[(4,.v (.vslice (some 0) (x.length*2) x.length 2 (x.flatMap vA)))]) (fun _=>[]) (fun x=>(Heap.mk PT.nil 0).push (.tip (x.length*2))) (fun x=>lJ s (s.length+1) 0=(x,-1)) (fun _=>0)
def c9G(xs:Y14)(h:Heap)(K:KT):Prop:=match xs with
 | [.str s]=>(s.length<=100000/\(lJ s (s.length+1) 0).1≠[]/\(lJ s (s.length+1) 0).2= -1)/\K (.tuple [.vslice none 0 (lJ s (s.length+1) 0).1.length 2 ((lJ s (s.length+1) 0).1.flatMap vA),.int .i64 (lJ s (s.length+1) 0).2]) h
 |_=>False
def a2U(s:Y11)(g:TkX):=[IV.str (List.take (((TkX.k g):Int).toNat- ((TkX.i g):Int).toNat) (List.drop (((TkX.i g):Int).toNat) s)),iI ((TkX.i g):Int)]
def a2V(s:Y11)(g:TkX):=decide (0<=((TkX.i g):Int)) && (decide (((TkX.i g):Int)<=((TkX.k g):Int)) &&decide (((TkX.k g):Int)<=(s.length:Int)))
def gG(s:Y11):=TV.v (.str s)
abbrev a2W(s:Y11)(j:TkX):=dL (TkX.o j) (TkX.v j) (TkX.g j)/\tY s (TkX.o j) (TkX.i j)
def Tv(g:TkX):=TV.v (.int .i64 ((TkX.k g):Int))
def Tw(g:TkX):=TV.v (.int .i64 ((TkX.i g):Int))
def a2X(g:TkX):=TV.v (.int .i64 ((TkX.i g):Int))
def a2Y(g:TkX):=TV.v (.int .i64 ((TkX.i g):Int))
def c3X(g:TkX):=TV.v (.int .i64 ((TkX.i g):Int))
def b6F(g:TkX):=((TkX.i g):Int)+1
def b6G(g:TkX):=((TkX.k g):Int).toNat
def b6D(s:Y11)(x l:TkX):Prop:= ∃(j:TkX),some (gG s)=some (gG s)/\some (TV.v (TkX.v l))=some (TV.v (TkX.v j))/\some (a2Y l)=some (a2X j)/\TkX.g l=TkX.g j/\(dL (TkX.o j) (TkX.v j) (TkX.g j)/\tY s (TkX.o j) (TkX.i j))/\(2:Nat)*(s.length-TkX.i j)<2*(s.length-TkX.i x)
def Mx(M:Nat)(l:Int)(s:Y11)(x:TkX)(m:Bool):Prop:= ∃(j:TkX),some (gG s)=some (gG s)/\some (TV.v (TkX.v x))=some (TV.v (TkX.v j))/\tI ((TkX.i x):Int)=some (a2X j)/\some (TV.v (.int .u8 l))=some (TV.v (.int .u8 (bA s (TkX.i j))))/\some (TV.v (.bool (m)))=some (TV.v (.bool (Nc (bA s (TkX.i j)))))/\TkX.g x=TkX.g j/\
 (dL (TkX.o j) (TkX.v j) (TkX.g j)/\tY s (TkX.o j) (TkX.i j)/\TkX.i j<s.length)/\(2:Nat)*(s.length-TkX.i j)<=M
def Yz(M:Nat)(s:Y11)(l:TkX)(m:Bool):Prop:= ∃(j:TkX),some (gG s)=some (gG s)/\some (TV.v (TkX.v l))=some (TV.v (TkX.v j))/\tI ((TkX.i l):Int)=some (a2X j)/\some (TV.v (.int .u8 (bA s (TkX.i l))))=some (TV.v (.int .u8 (bA s (TkX.i j))))/\some (TV.v (.bool (m)))=some (TV.v (.bool (A1 s (TkX.i j))))/\TkX.g
 l=TkX.g j/\(dL (TkX.o j) (TkX.v j) (TkX.g j)/\tY s (TkX.o j) (TkX.i j)/\TkX.i j<s.length/\Nc (bA s (TkX.i j))=false)/\(2:Nat)*(s.length-TkX.i j)<=M
def b6E(M:Nat)(s:Y11)(l:TkX)(m:Bool):Prop:= ∃(j:TkX),some (gG s)=some (gG s)/\some (TV.v (TkX.v l))=some (TV.v (TkX.v j))/\some (c3X l)=some (a2X j)/\some (TV.v (.bool (m)))=some (TV.v (.bool true))/\TkX.g l=TkX.g j/\(dL (TkX.o j) (TkX.v j) (TkX.g j)/\Nb s (TkX.o j) (TkX.i j) (TkX.i j) false)/\(2
 :Nat)*(s.length-TkX.i j)<=M
def Za(M:Nat)(s:Y11)(l:TkX):Prop:= ∃(j:TkX),some (gG s)=some (gG s)/\some (TV.v (TkX.v l))=some (TV.v (TkX.v j))/\tI ((TkX.i l):Int)=some (a2X j)/\some (Tv l)=tI ((TkX.k j):Int)/\TkX.g l=TkX.g j/\(dL (TkX.o j) (TkX.v j) (TkX.g j)/\Nb s (TkX.o j) (TkX.i j) (TkX.k j) (TkX.b j)/\Dd
 s (TkX.k j)=true)/\(2:Nat)*(s.length-TkX.k j)+bN (TkX.b j)<=M
theorem e4V(s:Y11)(h:Heap)(Q:KT):dF (aR c7J) env 82 cS (vC 4 (tkA s) (vC 1000010 (tkB s) (oE 1000017 (tkC s)))) (vC 1000008 (tkD s) (vC 1000010 (tkE s) (vC 1000011 (tkG s) (vC 1000018 (tkH s) (vC 1000016 (tkP s) (oE 21 (tkQ s))))))) [.str s] h Q=(
 ((∃(x:TkX),some (gG s)=some (gG s)/\some (TV.v IV.nilslice)=some (TV.v (TkX.v x))/\tI 0=tI ((TkX.i x):Int)/\Heap.mk PT.nil 0=TkX.g x/\(dL (TkX.o x) (TkX.v x) (TkX.g x)/\tY s (TkX.o x) (TkX.i x))/\True)/\∀(x:TkX)(b:FF),dL (TkX.o x) (TkX.v x) (TkX.g x)/\tY s (TkX.o x) (TkX.i x)->aI (decide (((TkX.i x):Int)< (s.length:Int))) (nC s (((TkX.i x):Int).toNat) fun r=> ∃(M:Nat),aI (r==32) (Mx M r s x true) (aI (r==9) (Mx M r s x true) (aI (r==10) (Mx M r s x true) (Mx M r s x (r==13))))/\∀(q:TkX)(b:FF),dL (TkX.o q) (TkX.v q) (TkX.g q)/\tY s (TkX.o q) (TkX.i q)/\TkX.i q<s.length->(2:Nat)*(s.length-TkX.i q)<=M->aI (Nc (bA s (TkX.i q))) (∃(p:TkX),some (gG s)=some (gG s)/\some (TV.v (TkX.v q))=some (TV.v (TkX.v p))/\tI (wW (((TkX.i q):Int)+1))=some (c3X p)/\TkX.g q=TkX.g p/\(dL (TkX.o p) (TkX.v p) (TkX.g p)/\tY s (TkX.o p) (TkX.i p))/\(2:Nat)*(s.length-TkX.i p)<2*(s.length-TkX.i x)) (∃(M:Nat),aI (bA s (TkX.i q)==47) (aI (decide (wW (((TkX.i q):Int)+1)< (s.length:Int))) (aC (decide (0<=wW (((TkX.i q):Int)+1))) (nC s ((wW (((TkX.i q):Int)+1)).toNat) fun c1=>Yz M s q (c1==47))) (Yz M s q false)) (Yz M s q false)/\∀(p:TkX)(b:FF),dL (TkX.o p) (TkX.v p) (TkX.g p)/\tY s (TkX.o p) (TkX.i p)/\TkX.i p<s.length/\Nc (bA s (TkX.i p))=false->(2:Nat)*(s.length-TkX.i p)<=M->aI (A1 s (TkX.i p)) (∃(M:Nat),(∃(x:TkX),some (gG s)=some (gG s)/\some (TV.v (TkX.v p))=some (TV.v (TkX.v x))/\some (c3X p)=tI ((TkX.i x):Int)/\TkX.g p=TkX.g x/\(dL (TkX.o x) (TkX.v x) (TkX.g x)/\Zh s (TkX.o x) (TkX.i x) (TkX.b x))/\(2:Nat)*(s.length-TkX.i x)+bN (TkX.b x)<=M)/\∀(m:TkX)(b:FF),dL (TkX.o m) (TkX.v m) (TkX.g m)/\Zh s (TkX.o m) (TkX.i m) (TkX.b m)->(2:Nat)*(s.length-TkX.i m)+bN (TkX.b m)<=M-> ∃(M:Nat),aI (decide (((TkX.i m):Int)< (s.length:Int))) (nC s (((TkX.i m):Int).toNat) fun c2=>aI (c2 !=10) (∃(x:TkX),some (gG s)=some (gG s)/\some (TV.v (TkX.v m))=some (TV.v (TkX.v x))/\some (a2Y m)=tI ((TkX.i x):Int)/\TkX.g m=TkX.g x/\(dL (TkX.o x) (TkX.v x) (TkX.g x)/\Zh s (TkX.o x) (TkX.i x) (TkX.b x)/\cCm s (TkX.i x)=true)/\(2:Nat)*(s.length-TkX.i x)+bN (TkX.b x)<=M) (b6D s x m)) (b6D s x m)/\∀(x:TkX)(b:FF),dL (TkX.o x) (TkX.v x) (TkX.g x)/\Zh s (TkX.o x) (TkX.i x) (TkX.b x)/\cCm s (TkX.i x)=true->(2:Nat)*(s.length-TkX.i x)+bN (TkX.b x)<=M-> ∃(j:TkX),some (gG s)=some (gG s)/\some (TV.v (TkX.v x))=some (TV.v (TkX.v j))/\tI (wW (((TkX.i x):Int)+1))=tI ((TkX.i j):Int)/\TkX.g x=TkX.g j/\(dL (TkX.o j) (TkX.v j) (TkX.g j)/\Zh s (TkX.o j) (TkX.i j) (TkX.b j))/\(2:Nat)*(s.length-TkX.i j)+bN (TkX.b j)<2*(s.length-TkX.i m)+bN (TkX.b m)) (aI (isD (bA s (TkX.i p))) (aC (decide (0<=((TkX.i p):Int)) && (decide (((TkX.i p):Int)<=wW (b6F p)) &&decide (wW (b6F p)<=(s.length:Int)))) (gH (TkX.g p) 2 24 (TkX.v p) 1 [IV.str (List.take ((wW (b6F p)).toNat- ((TkX.i p):Int).toNat) (List.drop (((TkX.i p):Int).toNat) s)),iI ((TkX.i p):Int)] fun(i3 e4 l5:Nat)(c6:Y14)(g7:Heap)=> ∃(m:TkX),some (gG s)=some (gG s)/\some (TV.v (.vslice (some i3) e4 l5 2 c6))=some (TV.v (TkX.v m))/\tI (wW (b6F p))=some (a2Y m)/\g7=TkX.g m/\(dL (TkX.o m) (TkX.v m) (TkX.g m)/\tY s (TkX.o m) (TkX.i m))/\(2:Nat)*(s.length-TkX.i m)<2*(s.length-TkX.i x))) (∃(M:Nat),aI (decide (bA s (TkX.i p)>32)) (b6E M s p (decide (bA s (TkX.i p)<127))) (b6E M s p false)/\∀(m:TkX)(b:FF),dL (TkX.o m) (TkX.v m) (TkX.g m)/\Nb s (TkX.o m) (TkX.i m) (TkX.i m) false->(2:Nat)*(s.length-TkX.i m)<=M-> ∃(M:Nat),(∃(x:TkX),some (gG s)=some (gG s)/\some (TV.v (TkX.v m))=some (TV.v (TkX.v x))/\some (a2Y m)=tI ((TkX.i x):Int)/\some (a2Y m)=tI ((TkX.k x):Int)/\TkX.g m=TkX.g x/\(dL (TkX.o x) (TkX.v x) (TkX.g x)/\Nb s (TkX.o x) (TkX.i x) (TkX.k x) (TkX.b x))/\(2:Nat)*(s.length-TkX.k x)+bN (TkX.b x)<=M)/\∀(j:TkX)(b:FF),dL (TkX.o j) (TkX.v j) (TkX.g j)/\Nb s (TkX.o j) (TkX.i j) (TkX.k j) (TkX.b j)->(2:Nat)*(s.length-TkX.k j)+bN (TkX.b j)<=M-> ∃(M:Nat),aI (decide (((TkX.k j):Int)< (s.length:Int))) (nC s (b6G j) fun c8=>aI (decide (c8>32)) (nC s (b6G j) fun c9=>aI (decide (c9<127)) (nC s (b6G j) fun y=>aI (!isD y) (nC s (b6G j) fun z=>aI (z !=47) (Za M s j) (aI (decide (wW (((TkX.k j):Int)+1)>=(s.length:Int))) (Za M s j) (aC (decide (0<=wW (((TkX.k j):Int)+1))) (nC s ((wW (((TkX.k j):Int)+1)).toNat) fun A=>aI (A !=47) (Za M s j) (aC (a2V s j) (gH (TkX.g j) 2 24 (TkX.v j) 1 (a2U s j) fun(a5 R b0:Nat)(D:Y14)(a0:Heap)=> ∃(l:TkX),some (gG s)=some (gG s)/\some (TV.v (.vslice (some a5) R b0 2 D))=some (TV.v (TkX.v l))/\some (Tv j)=some (Tw l)/\a0=TkX.g l/\(a2W s l)/\(2:Nat)*(s.length-TkX.i l)<2*(s.length-TkX.i x))))))) (aC (a2V s j) (gH (TkX.g j) 2 24 (TkX.v j) 1 (a2U s j) fun(a6 V b1:Nat)(G:Y14)(a1:Heap)=> ∃(l:TkX),some (gG s)=some (gG s)/\some (TV.v (.vslice (some a6) V b1 2 G))=some (TV.v (TkX.v l))/\some (Tv j)=some (Tw l)/\a1=TkX.g l/\(a2W s l)/\(2:Nat)*(s.length-TkX.i l)<2*(s.length-TkX.i x)))) (aC (a2V s j) (gH (TkX.g j) 2 24 (TkX.v j) 1 (a2U s j) fun(a7 X b2:Nat)(K:Y14)(a2:Heap)=> ∃(l:TkX),some (gG s)=some (gG s)/\some (TV.v (.vslice (some a7) X b2 2 K))=some (TV.v (TkX.v l))/\some (Tv j)=some (Tw l)/\a2=TkX.g l/\(a2W s l)/\(2:Nat)*(s.length-TkX.i l)<2*(s.length-TkX.i x)))) (aC (a2V s j) (gH (TkX.g j) 2 24 (TkX.v j) 1 (a2U s j) fun(a8 Y b3:Nat)(L:Y14)(a3:Heap)=> ∃(l:TkX),some (gG s)=some (gG s)/\some (TV.v (.vslice (some a8) Y b3 2 L))=some (TV.v (TkX.v l))/\some (Tv j)=some (Tw l)/\a3=TkX.g l/\(a2W s l)/\(2:Nat)*(s.length-TkX.i l)<2*(s.length-TkX.i x)))) (aC (a2V s j) (gH (TkX.g j) 2 24 (TkX.v j) 1 (a2U s j) fun(a9 Z b4:Nat)(O:Y14)(a4:Heap)=> ∃(l:TkX),some (gG s)=some (gG s)/\some (TV.v (.vslice (some a9) Z b4 2 O))=some (TV.v (TkX.v l))/\some (Tv j)=some (Tw l)/\a4=TkX.g l/\(a2W s l)/\(2:Nat)*(s.length-TkX.i l)<2*(s.length-TkX.i x)))/\∀(x:TkX)(b:FF),dL (TkX.o x) (TkX.v x) (TkX.g x)/\Nb s (TkX.o x) (TkX.i x) (TkX.k x) (TkX.b x)/\Dd s (TkX.k x)=true->(2:Nat)*(s.length-TkX.k x)+bN (TkX.b x)<=M-> ∃(l:TkX),some (gG s)=some (gG s)/\some (TV.v (TkX.v x))=some (TV.v (TkX.v l))/\tI ((TkX.i x):Int)=some (Tw l)/\tI (wW (((TkX.k x):Int)+1))=tI ((TkX.k l):Int)/\TkX.g x=TkX.g l/\(dL (TkX.o l) (TkX.v l) (TkX.g l)/\Nb s (TkX.o l) (TkX.i l) (TkX.k l) (TkX.b l))/\(2:Nat)*(s.length-TkX.k l)+bN (TkX.b l)< (2:Nat)*(s.length-TkX.k j)+bN (TkX.b j))))) (∃(q:List qM),some (TV.v (TkX.v x))=some (TV.v (.vslice (some (0:Nat)) (q.length*2) q.length 2 (List.flatMap vA q)))/\TkX.g x=Heap.mk (PT.node PT.nil (some (IObj.tip (q.length*(2:Nat)))) PT.nil) 1/\lJ s (s.length+1) 0=(q,(-1:Int))/\True))/\∀(x:List qM)(b:FF),lJ s (s.length+1) 0=(x,(-1:Int))->aC (aP [IV.vslice none 0 x.length 2 (List.flatMap vA x),iI (-1:Int)]) (Q (.tuple [.vslice none 0 x.length 2 (List.flatMap vA x),iI (-1)]) h)):=by kernel_rfl
theorem e3U: ∀xs h Q,c9G xs h Q->aL env 82 xs h Q:=by
 intro xs h Q hk;unfold c9G at hk;split at hk
 ·rename_i s;refine aN (c5K) (e4V s h Q) ?_;delta b6D Mx Yz b6E Za a2U a2V gG a2W Tv Tw a2X a2Y c3X b6F b6G tI wW iI;have tn: ∀x:Nat,(x:Int).toNat=x:=AK
  obtain⟨⟨a9,a3,a2⟩,hk⟩:=hk;have O: ∀x:Nat,x<=100000->IntKind.i64.wrap ((x:Int)+1)=((x+1:Nat):Int):=fun x hx=>by rw [AF _ JF];rfl
  refine⟨⟨⟨⟨[],0,0,false,.nilslice,Heap.mk PT.nil 0⟩,JJ,JJ,JJ,JJ,⟨Or.inl ⟨rfl,rfl,rfl⟩,tY.init⟩,trivial⟩,?_⟩,fun x _ e=>aA (by simp only [aP,bG,a1E,AL]) (by rw [e]at hk;exact hk)⟩;rintro⟨o,i,k,b,v,g⟩ _ ⟨j,m⟩;dsimp only at j m⊢;refine gO (fun c=>?_) (fun c=>?_)
  rotate_left
  ·have e:=m.done JF;rcases j with⟨rfl,_,_⟩| ⟨_,rfl,rfl⟩
   ·rw [e]at a3;exact absurd rfl a3
   ·exact⟨o,JJ,JJ,e,trivial⟩
  have hi:i<s.length:=JF;refine Df hi ⟨2*(s.length-i),?_,?_⟩
  ·refine aB (fun c1=>⟨⟨o,i,k,b,v,g⟩,JJ,JJ,JJ,JJ,by unfold Nc;simp only [c1,CX],JJ,⟨j,m,hi⟩,AG _⟩) (fun c1=>aB (fun c2=>⟨⟨o,i,k,b,v,g⟩,JJ,JJ,JJ,JJ,by unfold Nc;simp only [c2,CX,DO],JJ,⟨j,m,hi⟩,AG _⟩) (fun c2=>aB (fun c3=>⟨⟨o,i,k,b,v,g⟩,JJ,JJ,JJ,JJ,by unfold Nc;simp only [c3,CX,DO],JJ,⟨j,m,hi⟩,AG _⟩) (fun c3=>⟨⟨o,i,k,b,v,g⟩,JJ,JJ,JJ,JJ,by unfold Nc;simp only [c1,c2,c3,DZ],JJ,⟨j,m,hi⟩,AG _⟩)))
  clear j m c;rintro⟨o,V,k,b,v,g⟩ _ ⟨j,m,K⟩ a5;dsimp only at j m K a5⊢;rw [O V JF];refine aB (fun y=>⟨⟨o,V+1,k,b,v,g⟩,JJ,JJ,JJ,JJ,⟨j,m.blank K y⟩,JK⟩) (fun y=>⟨2*(s.length-V),?_,?_⟩)
  ·refine aB (fun c1=>gO (fun c2=>aA (by simp;omega) (Df JF ⟨⟨o,V,k,b,v,g⟩,JJ,JJ,JJ,JJ,by have:V+1<s.length:=JF;unfold A1;simp only [c1,decide_eq_true this,BC],JJ,⟨j,m,K,y⟩,AG _⟩)) (fun c2=>⟨⟨o,V,k,b,v,g⟩,JJ,JJ,JJ,JJ,by have: ¬V+1<s.length:=JF;unfold A1;simp only [decide_eq_false this,DB,BM],JJ,⟨j,m,K,y⟩,AG _⟩)) (fun c1=>⟨⟨o,V,k,b,v,g⟩,JJ,JJ,JJ,JJ,by unfold A1;simp only [c1,BM],JJ,⟨j,m,K,y⟩,AG _⟩)
  clear j m y;rintro⟨o,Y,k,b,v,g⟩ _ ⟨j,m,L,y⟩ a6;dsimp only at j m L y a6⊢;refine aB (fun hc=>?_) (fun hc=>?_)
  ·refine⟨2*(s.length-Y),⟨⟨o,Y,k,false,v,g⟩,JJ,JJ,JJ,JJ,⟨j,m.com L y hc⟩,AG _⟩,?_⟩;clear j m y hc;rintro⟨o,R,k,b3,v,g⟩ _ ⟨j,hC⟩ a0;dsimp only at j hC a0⊢;have h3:=hC.1;refine⟨2*(s.length-R)+bN b3,?_,?_⟩
   ·refine gO (fun c=>Df JF (aB (fun d=>⟨⟨o,R,k,b3,v,g⟩,JJ,JJ,JJ,JJ,⟨j,hC,(by have:R<s.length:=JF;unfold cCm;simp [this,d])⟩,AG _⟩) (fun d=>?_))) (fun c=>?_)
    ·have hf:=hC.fin (by unfold cCm;rw [d,DB]);have h1:bN b3=1:=by rw [hf.2];rfl
     exact⟨⟨o,R,k,b3,v,g⟩,JJ,JJ,JJ,JJ,⟨j,hf.1⟩,JK⟩
    ·have hf:=hC.fin (by have: ¬R<s.length:=JF;unfold cCm;rw [decide_eq_false this,BM]);have h1:bN b3=1:=by rw [hf.2];rfl
     exact⟨⟨o,R,k,b3,v,g⟩,JJ,JJ,JJ,JJ,⟨j,hf.1⟩,JK⟩
   ·clear j hC;rintro⟨o,l,k,D,v,g⟩ _ ⟨j,hC,G⟩ a1;dsimp only at j hC G a1⊢;have hs:=hC.step G;have a8:=hs.1;exact⟨⟨o,l+1,k,true,v,g⟩,JJ,JJ,by rw [O _ JF],JJ,⟨j,hs⟩,by show 2*(s.length- (l+1))+1<_;omega⟩
  rw [O Y JF];simp only [tn,EU];have a4:=m.2.1;refine aB (fun hd=>aA (by simp;omega) (j.app JF (fun e n c p h2=>⟨⟨_,Y+1,k,b,_,p⟩,JJ,JJ,JJ,JJ,⟨h2,m.del L y hc hd⟩,JK⟩))) (fun hd=>⟨2*(s.length-Y),?_,?_⟩)
  ·have hw:bA s Y>32/\bA s Y<127:=Classical.byContradiction (fun c=>m.bad L y hc hd c a2);rw [decide_eq_true hw.2];exact gO (fun _=>⟨⟨o,Y,k,b,v,g⟩,JJ,JJ,JJ,JJ,JJ,⟨j,m.word L y hc hd hw.1 hw.2⟩,AG _⟩) (fun c=>absurd hw.1 c)
  clear j m y hc hd a4;rintro⟨o,R,k,b,v,g⟩ _ ⟨j,q⟩ a0;dsimp only at j q a0⊢;refine⟨2*(s.length-R),⟨⟨o,R,R,false,v,g⟩,JJ,JJ,JJ,JJ,JJ,⟨j,q⟩,AG _⟩,?_⟩;clear j q;rintro⟨o,l,k4,D,v,g⟩ _ ⟨j,q⟩ a1;dsimp only at j q a1⊢;have b0:=q.1;have b1:=q.2.1;have b2:=q.2.2.1;have b6:=q.2.2.2.1;refine⟨2*(s.length-k4)+bN D,?_,?_⟩
  ·rcases BB k4 s.length with r|r
   ·rw [O k4 JF];have ex: ∀{X:Nat->Nat->Nat->Y14->Heap->Prop},Dd s k4=false->(∀e n c p,dL (o++ [((s.drop l).take (k4-l),l)]) (.vslice (some 0) e n 2 c) p->tY s (o++ [((s.drop l).take (k4-l),l)]) k4/\2*(s.length-k4)<2*(s.length-i)->X 0 e n c p)->aC (decide ((0:Int)<=(l:Int)) && (decide ((l:Int)<=(k4:Int)) &&decide ((k4:Int)<=(s.length:Int)))) (gH g 2 24 v 1 [.str ((s.drop l).take (k4-l)),.int .i64 (l:Int)] X):=fun{X} he hx=>by
     have hf:=q.fin he;have h1:bN D=1:=by rw [hf.2];rfl
     exact aA (by simp;omega) (j.app JF (fun e n c p h2=>hx e n c p h2 ⟨hf.1,JF⟩))
    refine gO (fun d1=>Df r ?_) (fun d1=>absurd d1 JF);refine aB (fun d2=>Df r ?_) (fun d2=>?_)
    rotate_left
    ·exact(ex (by unfold Dd;simp only [d2,BC,AL,BM,DB,DS,DK,DO,CX,EA]) (fun e n c p h2 A=>⟨⟨_,k4,k4,D,_,p⟩,JJ,JJ,JJ,JJ,⟨h2,A.1⟩,A.2⟩))
    generalize hz:decide (bA s k4<127)=z;refine aB (fun Z=>?_) (fun Z=>?_)<;>have Z:=hz.trans Z
    rotate_left
    ·exact(ex (by unfold Dd;simp only [Z,BC,AL,BM,DB,DS,DK,DO,CX,EA]) (fun e n c p h2 A=>⟨⟨_,k4,k4,D,_,p⟩,JJ,JJ,JJ,JJ,⟨h2,A.1⟩,A.2⟩))
    refine Df r ?_;refine aB (fun d4=>Df r ?_) (fun d4=>?_)
    rotate_left
    ·exact(ex (by unfold Dd;simp only [d4,BC,AL,BM,DB,DS,DK,DO,CX,EA]) (fun e n c p h2 A=>⟨⟨_,k4,k4,D,_,p⟩,JJ,JJ,JJ,JJ,⟨h2,A.1⟩,A.2⟩))
    refine aB (fun d5=>?_) (fun d5=>?_)
    ·exact⟨⟨o,l,k4,D,v,g⟩,JJ,JJ,JJ,JJ,JJ,⟨j,q,(by unfold Dd;simp only [decide_eq_true r,d2,Z,d4,d5,BC,AL,BM,DB,DS,DK,DO,CX,EA])⟩,AG _⟩
    refine gO (fun d6=>?_) (fun d6=>?_)
    ·exact⟨⟨o,l,k4,D,v,g⟩,JJ,JJ,JJ,JJ,JJ,⟨j,q,(by have:s.length<=k4+1:=JF;unfold Dd;simp only [decide_eq_true r,d2,Z,d4,ge_iff_le,decide_eq_true this,BC,AL,BM,DB,DS,DK,DO,CX,EA])⟩,AG _⟩
    refine aA (by simp;omega) (Df JF ?_);refine aB (fun d7=>?_) (fun d7=>?_)
    ·exact⟨⟨o,l,k4,D,v,g⟩,JJ,JJ,JJ,JJ,JJ,⟨j,q,(by unfold Dd;simp only [decide_eq_true r,d2,Z,d4,d7,BC,AL,BM,DB,DS,DK,DO,CX,EA])⟩,AG _⟩
    ·exact(ex (by have: ¬s.length<=k4+1:=JF;unfold Dd;simp only [d5,d7,ge_iff_le,decide_eq_false this,BC,AL,BM,DB,DS,DK,DO,CX,EA]) (fun e n c p h2 A=>⟨⟨_,k4,k4,D,_,p⟩,JJ,JJ,JJ,JJ,⟨h2,A.1⟩,A.2⟩))
   ·have ex: ∀{X:Nat->Nat->Nat->Y14->Heap->Prop},Dd s k4=false->(∀e n c p,dL (o++ [((s.drop l).take (k4-l),l)]) (.vslice (some 0) e n 2 c) p->tY s (o++ [((s.drop l).take (k4-l),l)]) k4/\2*(s.length-k4)<2*(s.length-i)->X 0 e n c p)->aC (decide ((0:Int)<=(l:Int)) && (decide ((l:Int)<=(k4:Int)) &&decide ((k4:Int)<=(s.length:Int)))) (gH g 2 24 v 1 [.str ((s.drop l).take (k4-l)),.int .i64 (l:Int)] X):=fun{X} he hx=>by
     have hf:=q.fin he;have h1:bN D=1:=by rw [hf.2];rfl
     exact aA (by simp;omega) (j.app JF (fun e n c p h2=>hx e n c p h2 ⟨hf.1,JF⟩))
    exact gO (fun c=>absurd c JF) (fun c=>(ex (by have: ¬k4<s.length:=JF;unfold Dd;simp only [decide_eq_false this,BC,AL,BM,DB,DS,DK,DO,CX,EA]) (fun e n c p h2 A=>⟨⟨_,k4,k4,D,_,p⟩,JJ,JJ,JJ,JJ,⟨h2,A.1⟩,A.2⟩)))
  clear j q;rintro⟨o,i5,k5,b5,v,g⟩ _ ⟨j,q,G⟩ a7;dsimp only at j q G a7⊢;have hs:=q.step G;have a8:=hs.2.2.1;exact⟨⟨o,i5,k5+1,true,v,g⟩,JJ,JJ,JJ,by rw [O _ JF],JJ,⟨j,hs⟩,by show 2*(s.length- (k5+1))+1<_;omega⟩
 ·exact hk.elim
def c7P:=aV 82 c9G c7J
theorem c5Q:aO env c7P:=aF e3U (c5K)
def a7A(xs:Y14)(h:Heap)(K:KT):Prop:=match xs with
 | []=>K (.str kTx) h
 |_=>False
theorem d7J: ∀xs h Q,a7A xs h Q->aL env 25 xs h Q:=by
 intro xs h Q g;unfold a7A at g;split at g
 ·exact⟨20,.str kTx,h,by kernel_rfl,g⟩
 ·exact g.elim
def a4I:=aV 25 a7A c7P
theorem a9D:aO env a4I:=aF d7J (c5Q)
def c8V(xs:Y14)(h:Heap)(K:KT):Prop:=match xs with
 | [.str s]=>K (.bool (decide (s.length=1) &&isD (bA s 0))) h
 |_=>False
theorem e4N(s:Y11)(h:Heap)(Q:KT):dF (aR a4I) env 87 cS bK bK [.str s] h Q=(
 aI ((s.length:Int)==1) (nC s 0 fun g=>Q (.bool (isD g)) h) (Q (.bool false) h)):=by kernel_rfl
theorem e3M: ∀xs h Q,c8V xs h Q->aL env 87 xs h Q:=by
 intro xs h Q g;unfold c8V at g;split at g
 ·rename_i s;refine aN (a9D) (e4N s h Q) ?_;refine aB (fun c=>?_) (fun c=>?_)
  ·have h1:s.length=1:=by
    have:=beq_iff_eq.1 c;omega
   rw [decide_eq_true h1,BC]at g;exact Df (i:=0) JF g
  ·have h1: ¬s.length=1:=fun e=>by
    rw [e]at c
    cases c
   rw [decide_eq_false h1,BM]at g;exact g
 ·exact g.elim
def c7H:=aV 87 c8V a4I
theorem c5I:aO env c7H:=aF e3M (a9D)
def Qe(xs:Y14)(h:Heap)(K:KT):Prop:=match xs with
 | [.ptr id 0,.int .i64 y,.int .i64 a]=>False
 |_=>False
theorem d2K(id:Nat)(y a:Int)(h:Heap)(Q:KT):dF (aR c7H) env 84 cS bK bK [.ptr id 0,.int .i64 y,.int .i64 a] h Q=(
 aJ h id fun r0=>aG .i64 r0 3 fun g=>aI (g==0) (aJ h id fun r2=>aC (Nat.ble 5 r2.length) (Q (.tuple []) (h.set id (IObj.cells (List.take 3 r2++ [iI y,iI a]++List.drop 5 r2))))) (Q (.tuple []) h)):=by kernel_rfl
theorem d0V: ∀xs h Q,Qe xs h Q->aL env 84 xs h Q:=by
 intro xs h Q g;unfold Qe at g;split at g
 ·rename_i id y a;refine aN (c5I) (d2K id y a h Q) ?_;delta iI;exact g.elim
 ·exact g.elim
def Oc:=aV 84 Qe c7H
theorem Wi:aO env Oc:=aF d0V (c5I)
def a7I(xs:Y14)(h:Heap)(K:KT):Prop:=match xs with
 | [.ptr id 0]=> ∃(tk:List qM)(i:Nat)(e:Int)(j iv:Y11)(g:Bool),h.get id= .cells (PO tk i e j iv g)/\(i<tk.length/\tk.length<=1000000)/\K (.int .i64 ((dI tk i).2:Int)) h
 |_=>False
theorem d9J(id:Nat)(h:Heap)(Q:KT):dF (aR Oc) env 85 cS bK bK [.ptr id 0] h Q=(
 aJ h id fun r0=>aG .i64 r0 1 fun r=>aJ h id fun r2=>aZ 2 r2 0 fun(D:Y10)(z q:Nat)(y:Y14)=>aI (decide (r< (q:Int))) (aJ h id fun r7=>aZ 2 r7 0 fun(G:Y10)(A l:Nat)(j:Y14)=>aJ h id fun G9=>aG .i64 G9 1 fun g=>aC (decide (0<=g) &&decide (g< (l:Int))) (aG .i64 j (g.toNat*2+1) fun m=>Q (.int .i64 m) h)) (aJ h id fun r15=>aG .i64 r15 2 fun p=>Q (.int .i64 p) h)):=by kernel_rfl
theorem d7R: ∀xs h Q,a7I xs h Q->aL env 85 xs h Q:=by
 intro xs h Q g;unfold a7I at g;split at g
 ·rename_i id;obtain⟨tk,i,e,r,iv,q,l,⟨m,p⟩,g⟩:=g;refine aN (Wi) (d9J id h Q) ?_;exact aD l (bB rfl (aD l (bM rfl (gO (fun c=>aD l (bM rfl (aD l (bB rfl (aW JF (dN (by rw [AK];exact b1Q (j:=1) m JG) g)))))) (fun c=>absurd c JF)))))
 ·exact g.elim
def a4Q:=aV 85 a7I Oc
theorem a9K:aO env a4Q:=aF d7R (Wi)
def c8Z(xs:Y14)(h:Heap)(K:KT):Prop:=match xs with
 | [.ptr id 0,.str s]=> ∃(tk:List qM)(i:Nat)(e:Int)(j iv:Y11)(g:Bool),h.get id= .cells (PO tk i e j iv g)/\(i<tk.length/\tk.length<=1000000)/\K (.bool ((dI tk i).1==s)) h
 |_=>False
theorem e4R(id:Nat)(s:Y11)(h:Heap)(Q:KT):dF (aR a4Q) env 83 cS bK bK [.ptr id 0,.str s] h Q=(
 aJ h id fun r0=>aG .i64 r0 3 fun y=>aI (y==0) (aJ h id fun r2=>aG .i64 r2 1 fun z=>aJ h id fun r4=>aZ 2 r4 0 fun(G:Y10)(D r:Nat)(A:Y14)=>aI (decide (z< (r:Int))) (aJ h id fun r9=>aZ 2 r9 0 fun(q:Y10)(p l:Nat)(j:Y14)=>aJ h id fun Gp=>aG .i64 Gp 1 fun g=>aC (decide (0<=g) &&decide (g< (l:Int))) (W7 j (g.toNat*2+0) fun(m:Y11)=>Q (.bool (m==s)) h)) (Q (.bool false) h)) (Q (.bool false) h)):=by kernel_rfl
theorem e3Q: ∀xs h Q,c8Z xs h Q->aL env 83 xs h Q:=by
 intro xs h Q g;unfold c8Z at g;split at g
 ·rename_i id s;obtain⟨tk,i,e,r,iv,q,l,⟨m,p⟩,g⟩:=g;refine aN (a9K) (e4R id s h Q) ?_;exact aD l (bB rfl (aB (fun _=>aD l (bB rfl (aD l (bM rfl (gO (fun c=>aD l (bM rfl (aD l (bB rfl (aW JF (a0M (by rw [AK];exact b1Q (j:=0) m JG) g)))))) (fun c=>absurd c JF)))))) (fun c=>by cases c)))
 ·exact g.elim
def c7L:=aV 83 c8Z a4Q
theorem c5M:aO env c7L:=aF e3Q (a9K)
def Qf(xs:Y14)(h:Heap)(K:KT):Prop:=match xs with
 | [.ptr id 0]=> ∃(tk:List qM)(i:Nat)(e:Int)(j iv:Y11)(g:Bool),h.get id= .cells (PO tk i e j iv g)/\(i<tk.length/\tk.length<=1000000)/\K (.str (dI tk i).1) (h.set id (.cells (PO tk (i+1) e j iv g)))
 |_=>False
def d4T(id:Nat)(h:Heap):=(∃(tk:List qM)(i:Nat)(e:Int)(j iv:Y11)(g:Bool),h.get id=IObj.cells [IV.vslice none 0 tk.length 2 (List.flatMap vA tk),iI (i:Int),iI e,iI 0,iI 0,IV.str j,IV.str iv,IV.bool g]/\(i<tk.length/\tk.length<=1000000)/\False)
def c3Y(g:Int)(J0:Y14):=IObj.cells (List.take 1 J0++ [iI (wW (g+1))]++List.drop 2 J0)
theorem d2L(id:Nat)(h:Heap)(Q:KT):dF (aR c7L) env 86 cS bK bK [.ptr id 0] h Q=(
 aJ h id fun r0=>aG .i64 r0 3 fun z=>aI (z !=0) (d4T id h) (aJ h id fun r2=>aG .i64 r2 1 fun A=>aJ h id fun r4=>aZ 2 r4 0 fun(K:Y10)(G y:Nat)(D:Y14)=>aI (decide (A>=(y:Int))) (d4T id h) (aJ h id fun r9=>aG .i64 r9 1 fun g=>aJ h id fun J0=>aC (Nat.ble 2 J0.length) (aJ (h.set id (c3Y g J0)) id fun G9=>aZ 2 G9 0 fun(r:Y10)(q m:Nat)(l:Y14)=>aJ (h.set id (c3Y g J0)) id fun zL=>aG .i64 zL 1 fun j=>aC (decide (0<=wW (j-1)) &&decide (wW (j-1)< (m:Int))) (W7 l ((wW (j-1)).toNat*2+0) fun(p:Y11)=>Q (.str p) (h.set id (c3Y g J0))))))):=by kernel_rfl
theorem d0W: ∀xs h Q,Qf xs h Q->aL env 86 xs h Q:=by
 intro xs h Q g;unfold Qf at g;split at g
 ·rename_i id;obtain⟨tk,i,e,z,iv,y,l,⟨q,r⟩,g⟩:=g;refine aN (c5M) (d2L id h Q) ?_;delta d4T c3Y wW iI;have p:IntKind.i64.wrap ((i:Int)+1)=((i+1:Nat):Int):=by rw [AF _ JF];rfl
  have m:IntKind.i64.wrap (((i+1:Nat):Int)-1)=(i:Int):=by rw [AF _ JF];omega
  refine aD l (bB rfl (aB (fun c=>by cases c) (fun _=>aD l (bB rfl (aD l (bM rfl (gO (fun c=>absurd c JF) (fun c=>aD l (bB rfl (aD l (aA rfl ?_)))))))))));rw [p];refine aD aK (bM rfl (aD aK (bB rfl ?_)));rw [m];exact aW JF (a0M (by rw [AK];exact b1Q (j:=0) q JG) g)
 ·exact g.elim
def Od:=aV 86 Qf c7L
theorem Wj:aO env Od:=aF d0W (c5M)
def a7H(xs:Y14)(h:Heap)(K:KT):Prop:=match xs with
 | [.ptr id 0,.str s]=> ∃(tk:List qM)(i:Nat)(e:Int)(j iv:Y11)(g:Bool),h.get id= .cells (PO tk i e j iv g)/\(i<tk.length/\(dI tk i).1=s/\tk.length<=1000000)/\K (.tuple []) (h.set id (.cells (PO tk (i+1) e j iv g)))
 |_=>False
theorem d9I(id:Nat)(s:Y11)(h:Heap)(Q:KT):dF (aR Od) env 88 cS bK bK [.ptr id 0,.str s] h Q=(
 ∃(tk:List qM)(i:Nat)(e:Int)(j iv:Y11)(g:Bool),h.get id=IObj.cells [IV.vslice none 0 tk.length 2 (List.flatMap vA tk),iI (i:Int),iI e,iI 0,iI 0,IV.str j,IV.str iv,IV.bool g]/\(i<tk.length/\tk.length<=1000000)/\aI (!Prod.fst (dI tk i)==s) (∃(tk:List qM)(i:Nat)(e:Int)(j iv:Y11)(g:Bool),h.get id=IObj.cells [IV.vslice none 0 tk.length 2 (List.flatMap vA tk),iI (i:Int),iI e,iI 0,iI 0,IV.str j,IV.str iv,IV.bool g]/\(i<tk.length/\tk.length<=1000000)/\False) (aJ h id fun r0=>aG .i64 r0 1 fun l=>aJ h id fun r2=>aC (Nat.ble 2 r2.length) (Q (.tuple []) (h.set id (IObj.cells (List.take 1 r2++ [iI (wW (l+1))]++List.drop 2 r2)))))):=by kernel_rfl
theorem d7Q: ∀xs h Q,a7H xs h Q->aL env 88 xs h Q:=by
 intro xs h Q g;unfold a7H at g;split at g
 ·rename_i id s;obtain⟨tk,i,e,y,iv,r,j,⟨m,q,p⟩,g⟩:=g;refine aN (Wj) (d9I id s h Q) ?_;delta wW iI;have l:IntKind.i64.wrap ((i:Int)+1)=((i+1:Nat):Int):=by rw [AF _ JF];rfl
  refine⟨tk,i,e,y,iv,r,j,⟨m,p⟩,aB (fun c=>?_) (fun c=>aD j (bB rfl (aD j (aA rfl ?_))))⟩
  ·rw [q]at c;simp at c
  rw [l];exact g
 ·exact g.elim
def c4P:=aV 88 a7H Od
theorem c9W:aO env c4P:=aF d7Q (Wj)
def Qj(xs:Y14)(h:Heap)(K:KT):Prop:=match xs with
 | [x,y]=>Ek [x,y] h K
 |_=>False
theorem d1A: ∀xs h Q,Qj xs h Q->aL env 15 xs h Q:=by
 intro xs h Q g;unfold Qj at g;split at g
 ·exact b1B _ _ _ g
 ·exact g.elim
def a4U:=aV 15 Qj noC
theorem c0C:aO env a4U:=aF d1A (gX env)
def Ei(xs:Y14)(h:Heap)(K:KT):Prop:=match xs with
 | [x,y]=>I7 [x,y] h K
 |_=>False
theorem c0Z: ∀xs h Q,Ei xs h Q->aL env 20 xs h Q:=by
 intro xs h Q g;unfold Ei at g;split at g
 ·exact Xj _ _ _ g
 ·exact g.elim
def Ue:=aV 20 Ei a4U
theorem a9I:aO env Ue:=aF c0Z (c0C)
def a7E(xs:Y14)(h:Heap)(K:KT):Prop:=match xs with
 | [x,y,z]=>a7F [x,y,z] h K
 |_=>False
theorem d7N: ∀xs h Q,a7E xs h Q->aL env 21 xs h Q:=by
 intro xs h Q g;unfold a7E at g;split at g
 ·exact d7O _ _ _ g
 ·exact g.elim
def a4N:=aV 21 a7E Ue
theorem a9H:aO env a4N:=aF d7N (a9I)
def a6R(xs:Y14)(h:Heap)(K:KT):Prop:=match xs with
 | [.ptr id 0,.int .i64 m]=> ∃n:Int,h.get id= .cells [.int .i64 n]/\(aU n/\1<=m/\m<=2000)/\∀k n2:Int,0<=k/\k<m/\aU n2->K (.int .i64 k) (h.set id (.cells [.int .i64 n2]))
 |_=>False
theorem d8S(id:Nat)(m:Int)(h:Heap)(Q:KT):dF (aR a4N) env 22 cS bK bK [.ptr id 0,.int .i64 m] h Q=(
 aJ h id fun r0=>aG .i64 r0 0 fun g=>(0<m/\m<4611686018427387904)/\aJ h id fun r2=>aG .i64 r2 0 fun j=>aC (!m==0) (aJ h id fun r4=>aC (Nat.ble 1 r4.length) (Q (.int .i64 (g%m)) (h.set id (IObj.cells (iI (wW (Int.tdiv (wW (j-g%m)) m))::List.drop 1 r4)))))):=by kernel_rfl
theorem d7A: ∀xs h Q,a6R xs h Q->aL env 22 xs h Q:=by
 intro xs h Q g;unfold a6R at g;split at g
 ·rename_i id m;obtain⟨n,j,l,g⟩:=g;refine aN (a9H) (d8S id m h Q) ?_;delta wW iI;obtain⟨p,h1,h2⟩:=l;exact aD j (bB rfl ⟨⟨JF,JF⟩,aD j (bB rfl (aA (by simp only [CC,beq_eq_false_iff_ne];omega) (aD j (aA rfl (g _ _ ⟨EW _ JF,EH _ JF,tK _⟩)))))⟩)
 ·exact g.elim
def a3Z:=aV 22 a6R a4N
theorem a8U:aO env a3Z:=aF d7A (a9H)
def laI(l:Y15)(s:Int):Inv':=eA Nat (fun x=>[(0,.v (.vslice none 0 (l).length 3 ((l).flatMap cN))),(1,.v (.int .i64 s)),(5,.v (.int .i64 ((x:Int)-1)))]) (fun _=>[]) (fun _=>Heap.empty) (fun x=>x<=l.length) (fun x=>x)
def a7D(xs:Y14)(h:Heap)(K:KT):Prop:=match xs with
 | [.vslice none e1 n1 3 c1,.int .i64 s]=> ∃l:Y15,(n1=l.length/\c1=l.flatMap cN)/\l.length<=1000/\∀r:Int,aU r->K (.int .i64 r) h
 |_=>False
def Tj(l:Y15)(x:Nat):=decide (0<=(x:Int)-1) &&decide ((x:Int)-1< (l.length:Int))
def Fz(l:Y15):=List.flatMap cN l
def b4M(l:Y15):=TV.v (.vslice none 0 l.length 3 (Fz l))
def Tk(x:Nat):=iI ((x:Int)-1)
def b4N(x:Nat):=((x:Int)-1).toNat*3+0
def b4O(s:Int):=TV.v (.int .i64 s)
def d3W(x:Nat):=((x:Int)-1).toNat*3+1
def Bz(l:Y15)(s:Int)(x:Nat):Prop:= ∃(g:Nat),some (b4M l)=some (b4M l)/\some (b4O s)=some (b4O s)/\tI (wW ((x:Int)-1-1))=tI ((g:Int)-1)/\Heap.mk PT.nil 0=Heap.mk PT.nil 0/\Nat.le g l.length/\g<x
theorem d9F(l:Y15)(s:Int)(g:Nat)(h:Heap)(Q:KT):dF (aR a3Z) env 23 cS (oE 3 (laI l s)) bK [.vslice none g (l).length 3 ((l).flatMap cN),.int .i64 s] h Q=(
 aC (aP [IV.vslice none 0 l.length 3 (Fz l),iI s]) ((∃(x:Nat),some (b4M l)=some (b4M l)/\some (b4O s)=some (b4O s)/\tI (wW ((l.length:Int)-1))=some (TV.v (Tk x))/\Heap.mk PT.nil 0=Heap.mk PT.nil 0/\Nat.le x l.length/\True)/\∀(x:Nat)(b:FF),x<=l.length->aI (decide ((x:Int)-1>=0)) (aC (Tj l x) (aG .i64 (Fz l) (b4N x) fun j=>aI (decide (j>=1)) (aC (Tj l x) (aG .i64 (Fz l) (b4N x) fun m=>aI (decide (m<=24)) (aI (true==(s==1)) (Q (Tk x) h) (Bz l s x)) (aC (Tj l x) (aG .i64 (Fz l) (b4N x) fun p=>aI (p==25) (aC (Tj l x) (aG .i64 (Fz l) (d3W x) fun(q:Int)=>aI ((q !=0)==(s==1)) (Q (Tk x) h) (Bz l s x))) (aI (false==(s==1)) (Q (Tk x) h) (Bz l s x)))))) (aC (Tj l x) (aG .i64 (Fz l) (b4N x) fun r=>aI (r==25) (aC (Tj l x) (aG .i64 (Fz l) (d3W x) fun y=>aI ((y !=0)==(s==1)) (Q (Tk x) h) (Bz l s x))) (aI (false==(s==1)) (Q (Tk x) h) (Bz l s x)))))) (Q (.int .i64 0) h))):=by kernel_rfl
theorem d7M: ∀xs h Q,a7D xs h Q->aL env 23 xs h Q:=by
 intro xs h Q g;unfold a7D at g;split at g
 ·rename_i p G c1 s;obtain⟨l,⟨rfl,rfl⟩,D,g⟩:=g;refine aN (a8U) (d9F l s p h Q) ?_;delta Bz Tj b4M Tk b4N b4O Fz d3W tI wW iI;have r: ∀x:Nat,(x:Int).toNat=x:=AK
  refine aA (by simp only [aP,bG,bR,AL]) ⟨⟨l.length,JJ,JJ,by rw [AF _ JF],JJ,AG _,JJ⟩,?_⟩;intro x _ A;refine gO (fun c=>?_) (fun c=>g 0 JG);obtain⟨j,q⟩: ∃j:Nat,(x:Int)-1=(j:Int):=⟨x-1,JF⟩
  have m:j<l.length:=JF;have e0:(l.flatMap cN)[((x:Int)-1).toNat*3+0]?=some (.int .i64 l[j].op):=by rw [q,r,uZ m JG];rfl
  have p:(l.flatMap cN)[((x:Int)-1).toNat*3+1]?=some (.int .i64 l[j].im):=by rw [q,r,uZ m JG];rfl
  have y:=g ((x:Int)-1) (by unfold aU;omega);have z:IntKind.i64.wrap ((x:Int)-1-1)=((x-1:Nat):Int)-1:=by rw [AF _ JF];omega
  repeat' (first|exact y|exact⟨x-1,JJ,JJ,by rw [z],JJ,CW (Nat.sub_le _ _) A,JF⟩|refine aA (by simp;omega) ?_|refine bB e0 ?_|refine bB p ?_|refine aB (fun _=>?_) (fun _=>?_))
 ·exact g.elim
def a4L:=aV 23 a7D a3Z
theorem a9G:aO env a4L:=aF d7M (a8U)
def rsN(s:Y12):Inv':=eA (Y15) (fun _=>[(1,.v (.vslice none 0 s.length 1 (s.map (IV.int .i64)))),(8,.l 8 0),(9,.l 9 0)]) (fun x=>[(8,[.nilslice,.nilslice,.nilslice,.int .i64 0,.int .i64 0,.int .i64 0,.int .i64 0]),(9,[.vslice none 0 (x).length 3 ((x).flatMap cN),.nilslice,.nilslice,.int .i64 0,.int .i64 2,.int .i64 0,.int .i64 0])]) (fun _=>Heap.empty) (fun x=>RsN x) (fun _=>0)
def rsA(s:Y12):Inv':=eA RsX (fun x=>[(1,.v (.vslice none 0 s.length 1 (s.map (IV.int .i64)))),(8,.l 8 0),(9,.l 9 0),(10,.v (.int .i64 (x.x.length:Int))),(11,.v (.int .i64 (x.i:Int)))]) (fun x=>[(8,[.nilslice,.nilslice,.nilslice,.int .i64 0,.int .i64 0,.int .i64 0,.int .i64 0]),(9,[.vslice none 0 (x.x).length 3 ((x.x).flatMap cN),x.v,.nilslice,.int .i64 0,.int .i64 2,.int .i64 0,.int .i64 0])]) (fun x=>x.g) (fun x=>RsI x.x x.i x.ss x.v x.t x.g) (fun x=>16-x.i)
def rsB(s:Y12):Inv':=eA RsX (fun x=>[(1,.v (.vslice none 0 s.length 1 (s.map (IV.int .i64)))),(8,.l 8 0),(9,.l 9 0),(10,.v (.int .i64 (x.x.length:Int))),(11,.v (.int .i64 (x.i:Int))),(12,.v (.ptr x.id 0)),(13,.l 13 0),(14,.v (.int .i64 (x.k:Int)))]) (fun x=>[(8,[.nilslice,.nilslice,.nilslice,.int .i64 0,.int .i64 0,.int .i64 0,.int .i64 0]),(9,[.vslice none 0 (x.x).length 3 ((x.x).flatMap cN),x.v,.nilslice,.int .i64 0,.int .i64 2,.int .i64 0,.int .i64 0]),(13,[.int .i64 x.a,.int .i64 x.b,.int .i64 x.y,x.w,.nilslice])]) (fun x=>x.g) (fun x=>RsJ x s) (fun x=>100*(16-x.i)+x.k)
def rsD(s:Y12):Inv':=eA RsX (fun x=>[(1,.v (.vslice none 0 s.length 1 (s.map (IV.int .i64)))),(8,.l 8 0),(9,.l 9 0),(10,.v (.int .i64 (x.x.length:Int))),(11,.v (.int .i64 (x.i:Int))),(12,.v (.ptr x.id 0)),(13,.l 13 0)]) (fun x=>[(8,[.nilslice,.nilslice,.nilslice,.int .i64 0,.int .i64 0,.int .i64 0,.int .i64 0]),(9,[.vslice none 0 (x.x).length 3 ((x.x).flatMap cN),x.v,.nilslice,.int .i64 0,.int .i64 2,.int .i64 0,.int .i64 0]),(13,[.int .i64 x.a,.int .i64 x.b,.int .i64 x.y,.nilslice,.nilslice])]) (fun x=>x.g) (fun x=>RsJ x s/\RsZ x) (fun x=>16-x.i)
def rsC:Inv':= .or (eA (Y15×Heap) (fun _=>[(8,.l 8 0),(9,.l 9 0)]) (fun x=>[(8,[.nilslice,.nilslice,.nilslice,.int .i64 0,.int .i64 0,.int .i64 0,.int .i64 0]),(9,[.vslice none 0 (x.1).length 3 ((x.1).flatMap cN),.nilslice,.nilslice,.int .i64 0,.int .i64 2,.int .i64 0,.int .i64 0])]) (fun x=>x.2) (fun x=>RsN x.1) (fun _=>0)) (eA RsX (fun _=>[(8,.l 8 0),(9,.l 9 0)]) (fun x=>[(8,[.nilslice,.nilslice,.nilslice,.int .i64 0,.int .i64 0,.int .i64 0,.int .i64 0]),(9,[.vslice none 0 (x.x).length 3 ((x.x).flatMap cN),.vslice (some x.t) (5*x.ss.length) x.ss.length 5 (x.ss.flatMap iT),.nilslice,.int .i64 0,.int .i64 2,.int .i64 0,.int .i64 0])]) (fun x=>x.g) (fun x=>RsO x.x x.ss) (fun _=>0))
def a7P(xs:Y14)(h:Heap)(K:KT):Prop:=match xs with
 | [.vslice none e1 n1 1 c1,.vslice none e2 n2 1 c2,.int .i64 how,.int .i64 at_]=> ∃l s:Y12,(n1=l.length/\c1=l.map (IV.int .i64)/\n2=s.length/\c2=s.map (IV.int .i64))/\((∀x∈l,aU x)/\l.length<=9223372036854775807/\(∀x∈s,aU x)/\s.length<=9223372036854775807/\aU how/\aU at_)/\∀(x:Y15)(ss:List Ste)(v w:Int),RsO x ss->K (.agg [.vslice none 0 (x).length 3 ((x).flatMap cN),.vslice none 0 ss.length 5 (ss.flatMap iT),.vslice none 0 0 3 [],.int .i64 v,.int .i64 w,.int .i64 0,.int .i64 0]) h
 |_=>False
def Ge:=[IV.nilslice,IV.nilslice,IV.nilslice,iI 0,iI 0,iI 0,iI 0]
def z6m:=IV.int .i64
def Tu(s:Y12):=TV.v (.vslice none 0 s.length 1 (List.map z6m s))
def z6c(g:RsX):=[IV.vslice none 0 ((RsX.x g).length) 3 (List.flatMap cN (RsX.x g)),RsX.v g,IV.nilslice,iI 0,iI 2,iI 0,iI 0]
def Gf:=TV.l 8 0
def Gg:=TV.l 9 0
def z6f(g:RsX):=[iI (RsX.a g),iI (RsX.b g),iI (RsX.y g),IV.nilslice,IV.nilslice]
def z6g:=TV.l 13 0
def z6h(g:Int):=IObj.cells [iI g]
def z6i(g:RsX):=TV.v (.int .i64 (↑((RsX.x g).length):Int))
def z6j(g:Int):=IObj.cells [iI g]
def z6k(g:RsX):=TV.v (.int .i64 ((RsX.i g):Int))
def z6l(g:RsX):=(RsX.x g).length
def z6n(g:Int):=IObj.cells [iI g]
def z6o(n:Int):=[iI n]
def z6p(g:RsX):=TV.v (.ptr (RsX.id g) 0)
def z6q(g:Int):=IObj.cells [iI g]
def d4L(s:Y12)(x:Y15):Prop:= ∃(g:Y15),some (Tu s)=some (Tu s)/\some Gf=some Gf/\some Gg=some Gg/\some Ge=some Ge/\some [IV.vslice none 0 x.length 3 (List.flatMap cN x),IV.nilslice,IV.nilslice,iI 0,iI 2,iI 0,iI 0]=some [IV.vslice none 0 g.length 3 (List.flatMap cN g),IV.nilslice,IV.nilslice,
 iI 0,iI 2,iI 0,iI 0]/\Heap.mk PT.nil 0=Heap.mk PT.nil 0/\RsN g/\True
def d4M(x:RsX):Prop:= ∃(j:Y15×Heap),some Gf=some Gf/\some Gg=some Gg/\some Ge=some Ge/\some [IV.vslice none 0 ((RsX.x x).length) 3 (List.flatMap cN (RsX.x x)),RsX.v x,IV.nilslice,iI 0,iI 2,iI 0,iI 0]=some [IV.vslice none 0 j.1.length 3 (List.flatMap cN j.1),IV.nilslice,IV.nilslice,
 iI 0,iI 2,iI 0,iI 0]/\RsX.g x=j.2/\RsN j.1/\True
def d4N(x:RsX):Prop:= ∃(j:RsX),some Gf=some Gf/\some Gg=some Gg/\some Ge=some Ge/\some [IV.vslice none 0 ((RsX.x x).length) 3 (List.flatMap cN (RsX.x x)),RsX.v x,IV.nilslice,iI 0,iI 2,iI 0,iI 0]=some [IV.vslice none 0 ((RsX.x j).length) 3 (List.flatMap cN (RsX.x j)),IV.vslice (some
 (RsX.t j)) ((5:Nat)*(RsX.ss j).length) ((RsX.ss j).length) 5 (List.flatMap iT (RsX.ss j)),IV.nilslice,iI 0,iI 2,iI 0,iI 0]/\RsX.g x=RsX.g j/\RsO (RsX.x j) (RsX.ss j)/\True
theorem d9Q(l s:Y12)(K V:Int)(e1 e2:Nat)(h:Heap)(Q:KT):dF (aR a4L) env 6 cS (vC 7 (rsA s) (oE 1000014 (rsB s))) (vC 5 (rsN s) (vC 1000013 (rsD s) (oE 18 rsC))) [.vslice none e1 (l).length 1 ((l).map (IV.int .i64)),.vslice none e2 (s).length 1 ((s).map (IV.int .i64)),.int .i64 K,.int .i64 V] h Q=(
 aC (aP [IV.vslice none 0 l.length 1 (List.map z6m l),IV.vslice none 0 s.length 1 (List.map z6m s),iI K,iI V]) (∃(O:Y12),(l.length=O.length/\List.map z6m l=List.map z6m O)/\((∀(x:Int),x∈O->aU x)/\O.length<=9223372036854775807)/\∀(x:Y15),NW 14 x->(((0:Int)<3/\(3:Int)<4611686018427387904)/\aI (K% (3:Int)==1) (∃(l:Y15),(x.length=l.length/\List.flatMap cN x=List.flatMap cN l)/\((∀(x:Nd),x∈l->aU (Nd.op x)/\aU (Nd.im x)/\List.length (Nd.ks x)<=20/\∀(q:Int),q∈Nd.ks x->aU q)/\1<=l.length/\l.length<=500)/\(aU (wW (Int.tdiv K 3))/\aU V)/\∀(x:Y15),PGk x->(1:Nat)<=x.length->d4L s x) (d4L s x))/\∀(x:Y15)(b:FF),RsN x->((∃(j:RsX),some (Tu s)=some (Tu s)/\some Gf=some Gf/\some Gg=some Gg/\tI (x.length:Int)=some (z6i j)/\tI 0=some (z6k j)/\some Ge=some Ge/\some [IV.vslice none 0 x.length 3 (List.flatMap cN x),IV.nilslice,IV.nilslice,iI 0,iI 2,iI 0,iI 0]=some (z6c j)/\Heap.mk PT.nil 0=RsX.g j/\RsI (RsX.x j) (RsX.i j) (RsX.ss j) (RsX.v j) (RsX.t j) (RsX.g j)/\True)/\∀(x:RsX)(b:FF),RsI (RsX.x x) (RsX.i x) (RsX.ss x) (RsX.v x) (RsX.t x) (RsX.g x)->aI (decide (((RsX.i x):Int)< (s.length:Int))) (aI (decide (((RsX.i x):Int)<16)) (aC (decide (0<=((RsX.i x):Int)) &&decide (((RsX.i x):Int)< (s.length:Int))) (aG .i64 (List.map z6m s) (((RsX.i x):Int).toNat*1) fun X=> ∃(n:Int),((RsX.g x).push (z6j X)).get ((RsX.g x).next)=IObj.cells (z6o n)/\(aU n/\(1:Int)<=5/\(5:Int)<=2000)/\∀(k G:Int),0<=k/\k<5/\aU G->aC (decide (0<=k) &&decide (k<5)) (aG .i64 [iI 0,iI 1,iI (-1),iI 2,iI 1] (k.toNat*1) fun n1=> ∃(n:Int),(((RsX.g x).push (z6j X)).set ((RsX.g x).next) (z6h G)).get ((RsX.g x).next)=IObj.cells (z6o n)/\(aU n/\1<=wW ((↑((RsX.x x).length):Int)+(1:Int))/\wW ((↑((RsX.x x).length):Int)+1)<=2000)/\∀(k z:Int),0<=k/\k<wW ((↑((RsX.x x).length):Int)+1)/\aU z-> ∃(n:Int),((((RsX.g x).push (z6j X)).set ((RsX.g x).next) (z6h G)).set ((RsX.g x).next) (z6n z)).get ((RsX.g x).next)=IObj.cells (z6o n)/\(aU n/\1<=wW ((↑((RsX.x x).length):Int)+1)/\wW ((↑((RsX.x x).length):Int)+1)<=2000)/\∀(L D:Int),0<=L/\L<wW ((↑((RsX.x x).length):Int)+1)/\aU D-> ∃(M:Nat),aI (k==(↑((RsX.x x).length):Int)) (∃(n:Int),(((((RsX.g x).push (z6j X)).set ((RsX.g x).next) (z6h G)).set ((RsX.g x).next) (z6n z)).set ((RsX.g x).next) (z6q D)).get ((RsX.g x).next)=IObj.cells (z6o n)/\(aU n/\(1:Int)<=2/\(2:Int)<=2000)/\∀(k R:Int),0<=k/\k<2/\aU R-> ∃(j:RsX),some (Tu s)=some (Tu s)/\some Gf=some Gf/\some Gg=some Gg/\tI (↑((RsX.x x).length):Int)=some (z6i j)/\tI ((RsX.i x):Int)=some (z6k j)/\some (TV.v (.ptr ((RsX.g x).next) 0))=some (z6p j)/\some z6g=some z6g/\some Ge=some Ge/\some [IV.vslice none 0 ((RsX.x x).length) 3 (List.flatMap cN (RsX.x x)),RsX.v x,IV.nilslice,iI 0,iI 2,iI 0,iI 0]=some (z6c j)/\some [iI (wW ((-1:Int)+wW (k*(↑((RsX.x x).length):Int)))),iI L,iI n1,IV.nilslice,IV.nilslice]=some (z6f j)/\Heap.set (((((RsX.g x).push (z6j X)).set ((RsX.g x).next) (z6h G)).set ((RsX.g x).next) (z6n z)).set ((RsX.g x).next) (z6q D)) ((RsX.g x).next) (IObj.cells [iI R])=RsX.g j/\(RsJ j s/\RsZ j)/\(16:Nat)-RsX.i j<=M) (∃(j:RsX),some (Tu s)=some (Tu s)/\some Gf=some Gf/\some Gg=some Gg/\tI (↑((RsX.x x).length):Int)=some (z6i j)/\tI ((RsX.i x):Int)=some (z6k j)/\some (TV.v (.ptr ((RsX.g x).next) 0))=some (z6p j)/\some z6g=some z6g/\some Ge=some Ge/\some [IV.vslice none 0 ((RsX.x x).length) 3 (List.flatMap cN (RsX.x x)),RsX.v x,IV.nilslice,iI 0,iI 2,iI 0,iI 0]=some (z6c j)/\some [iI k,iI L,iI n1,IV.nilslice,IV.nilslice]=some (z6f j)/\Heap.set ((((RsX.g x).push (z6j X)).set ((RsX.g x).next) (z6h G)).set ((RsX.g x).next) (z6n z)) ((RsX.g x).next) (z6q D)=RsX.g j/\(RsJ j s/\RsZ j)/\(16:Nat)-RsX.i j<=M)/\∀(j:RsX)(b:FF),RsJ j s/\RsZ j->(16:Nat)-RsX.i j<=M-> ∃(n:Int),(RsX.g j).get (RsX.id j)=IObj.cells (z6o n)/\(aU n/\(1:Int)<=3/\(3:Int)<=2000)/\∀(k G:Int),0<=k/\k<3/\aU G-> ∃(M:Nat),(∃(x:RsX),some (Tu s)=some (Tu s)/\some Gf=some Gf/\some Gg=some Gg/\some (z6i j)=tI (↑((RsX.x x).length):Int)/\some (z6k j)=tI ((RsX.i x):Int)/\some (z6p j)=some (TV.v (.ptr (RsX.id x) 0))/\some z6g=some z6g/\tI k=tI ((RsX.k x):Int)/\some Ge=some Ge/\some (z6c j)=some [IV.vslice none 0 ((RsX.x x).length) 3 (List.flatMap cN (RsX.x x)),RsX.v x,IV.nilslice,iI 0,iI 2,iI 0,iI 0]/\some (z6f j)=some [iI (RsX.a x),iI (RsX.b x),iI (RsX.y x),RsX.w x,IV.nilslice]/\Heap.set (RsX.g j) (RsX.id j) (z6h G)=RsX.g x/\RsJ x s/\(100:Nat)*((16:Nat)-RsX.i x)+RsX.k x<=M)/\∀(m:RsX)(b:FF),RsJ m s->(100:Nat)*((16:Nat)-RsX.i m)+RsX.k m<=M->aI (decide (((RsX.k m):Int)>0)) (∃(n:Int),(RsX.g m).get (RsX.id m)=IObj.cells (z6o n)/\(aU n/\1<=wW (((z6l m):Int)+2)/\wW (((z6l m):Int)+2)<=2000)/\∀(k G:Int),(0:Int)<=k/\k<wW (((z6l m):Int)+2)/\aU G->gH ((RsX.g m).set (RsX.id m) (z6h G)) 1 8 m.14 1 [iI (wW (k-1))] fun(i2 e3 l4:Nat)(c5:Y14)(g6:Heap)=> ∃(x:RsX),some (Tu s)=some (Tu s)/\some Gf=some Gf/\some Gg=some Gg/\tI ((z6l m):Int)=tI (↑((RsX.x x).length):Int)/\tI ((RsX.i m):Int)=tI ((RsX.i x):Int)/\some (TV.v (.ptr (RsX.id m) 0))=some (TV.v (.ptr (RsX.id x) 0))/\some z6g=some z6g/\tI (wW (((RsX.k m):Int)-1))=tI ((RsX.k x):Int)/\some Ge=some Ge/\some [IV.vslice none 0 (z6l m) 3 (List.flatMap cN (RsX.x m)),RsX.v m,IV.nilslice,iI 0,iI 2,iI 0,iI 0]=some [IV.vslice none 0 ((RsX.x x).length) 3 (List.flatMap cN (RsX.x x)),RsX.v x,IV.nilslice,iI 0,iI 2,iI 0,iI 0]/\some [iI (RsX.a m),iI (RsX.b m),iI (RsX.y m),IV.vslice (some i2) e3 l4 1 c5,IV.nilslice]=some [iI (RsX.a x),iI (RsX.b x),iI (RsX.y x),RsX.w x,IV.nilslice]/\g6=RsX.g x/\RsJ x s/\(100:Nat)*((16:Nat)-RsX.i x)+RsX.k x<100*((16:Nat)-RsX.i m)+RsX.k m) (gH (RsX.g m) 5 72 m.5 1 [iI (RsX.a m),iI (RsX.b m),iI (RsX.y m),B3 (G5 Proofs.Tryz.prog 22) m.14,IV.vslice none 0 0 1 []] fun(i7 e8 l9:Nat)(Y:Y14)(Z:Heap)=> ∃(p:RsX),some (Tu s)=some (Tu s)/\some Gf=some Gf/\some Gg=some Gg/\tI ((z6l m):Int)=tI (↑((RsX.x p).length):Int)/\tI (wW (((RsX.i m):Int)+1))=tI ((RsX.i p):Int)/\some Ge=some Ge/\some [IV.vslice none 0 (z6l m) 3 (List.flatMap cN (RsX.x m)),IV.vslice (some i7) e8 l9 5 Y,IV.nilslice,iI 0,iI 2,iI 0,iI 0]=some [IV.vslice none 0 ((RsX.x p).length) 3 (List.flatMap cN (RsX.x p)),RsX.v p,IV.nilslice,iI 0,iI 2,iI 0,iI 0]/\Z=RsX.g p/\RsI (RsX.x p) (RsX.i p) (RsX.ss p) (RsX.v p) (RsX.t p) (RsX.g p)/\(16:Nat)-RsX.i p<16-RsX.i x)))) ((d4M x) \/d4N x)) ((d4M x) \/d4N x))/\(∀(x:Y15×Heap)(b:FF),RsN x.1-> ∃(l:Y15),(x.1.length=l.length/\List.flatMap cN x.1=List.flatMap cN l)/\l.length<=(1000:Nat)/\∀(r:Int),aU r-> ∃(l:Y15),(x.1.length=l.length/\List.flatMap cN x.1=List.flatMap cN l)/\l.length<=1000/\∀(A:Int),aU A->aC (aP [IV.agg [.vslice none 0 x.1.length 3 (List.flatMap cN x.1),IV.vslice none 0 0 5 [],IV.vslice none 0 0 3 [],iI r,iI A,iI 0,iI 0]]) (Q (.agg [.vslice none 0 x.1.length 3 (List.flatMap cN x.1),IV.vslice none 0 0 5 [],IV.vslice none 0 0 3 [],iI r,iI A,iI 0,iI 0]) h))/\∀(x:RsX)(b:FF),RsO (RsX.x x) (RsX.ss x)-> ∃(l:Y15),((RsX.x x).length=l.length/\List.flatMap cN (RsX.x x)=List.flatMap cN l)/\l.length<=1000/\∀(r:Int),aU r-> ∃(l:Y15),((RsX.x x).length=l.length/\List.flatMap cN (RsX.x x)=List.flatMap cN l)/\l.length<=1000/\∀(A:Int),aU A->aC (aP [IV.agg [.vslice none 0 ((RsX.x x).length) 3 (List.flatMap cN (RsX.x x)),IV.vslice none 0 ((RsX.ss x).length) 5 (List.flatMap iT (RsX.ss x)),IV.vslice none 0 0 3 [],iI r,iI A,iI 0,iI 0]]) (Q (.agg [.vslice none 0 ((RsX.x x).length) 3 (List.flatMap cN (RsX.x x)),IV.vslice none 0 ((RsX.ss x).length) 5 (List.flatMap iT (RsX.ss x)),IV.vslice none 0 0 3 [],iI r,iI A,iI 0,iI 0]) h))):=by kernel_rfl
theorem d7Z: ∀xs h Q,a7P xs h Q->aL env 6 xs h Q:=by
 intro xs h Q G;unfold a7P at G;split at G
 ·rename_i e1 n1 c1 e2 n2 c2 a4 a0;obtain⟨l,s,⟨rfl,rfl,rfl,rfl⟩,hb,G⟩:=G;refine aN (a9G) (d9Q l s a4 a0 e1 e2 h Q) ?_;delta d4L d4M d4N Ge Tu z6c Gf Gg z6f z6g z6h z6i z6j z6k z6l z6m z6n z6o z6p z6q tI wW iI;have tn: ∀x:Nat,(x:Int).toNat=x:=AK
  obtain⟨hl,a2,R,b7,hh,ha⟩:=hb;refine aA (by simp only [aP,bG,bC,AL]) ⟨l,⟨rfl,rfl⟩,⟨hl,a2⟩,fun x K=>⟨⟨⟨JG,JG⟩,aB (fun _=>⟨x,⟨rfl,rfl⟩,⟨fun n O=>?_,by have:=K.1;omega,by have:=K.1;omega⟩,⟨tK _,ha⟩,fun y X h1=>⟨y,JJ,JJ,JJ,JJ,JJ,JJ,⟨fun n O=>?_,h1,X.2⟩,JJ⟩⟩) (fun _=>⟨x,JJ,JJ,JJ,JJ,JJ,JJ,⟨fun n O=>?_,by have:=K.1;omega,by have:=K.1;omega⟩,JJ⟩)⟩,fun x _ hN=>⟨⟨⟨⟨x,0,0,[],.nilslice,0,_,0,0,0,0,0,[],.nilslice,0⟩,JJ,JJ,JJ,JJ,JJ,JJ,JJ,rfl,⟨⟨hN,fun s h=>(by cases h),BE _⟩,rfl,BE _,⟨.inl ⟨rfl,rfl,rfl⟩⟩⟩,JJ⟩,?_⟩,fun p _ D=>⟨p.1,⟨rfl,rfl⟩,D.ln.2,fun r hr=>⟨p.1,⟨rfl,rfl⟩,D.ln.2,fun r2 a5=>aA (by simp only [aP,bG,bR,AL]) (G p.1 [] r r2 ⟨D,fun s h=>(by cases h),BE _⟩)⟩⟩,fun p _ D=>⟨p.x,⟨rfl,rfl⟩,D.n.ln.2,fun r hr=>⟨p.x,⟨rfl,rfl⟩,D.n.ln.2,fun r2 a5=>aA (by simp only [aP,bG,bR,pS,AL]) (G p.x p.ss r r2 D)⟩⟩⟩⟩⟩
  ·have:=K.2.1 n O;exact⟨this.1.1,this.1.2.1,JF,this.1.2.2⟩
  ·have:=X.1 n O;exact⟨⟨this.1,this.2.1,this.2.2.2⟩,this.2.2.1⟩
  ·have:=K.2.1 n O;exact⟨this.1,JF⟩
  clear hN;intro x _ A;refine gO (fun c1=>gO (fun c2=>?_) (fun _=>?_)) (fun _=>?_)
  rotate_left
  ·rcases A.s.e with⟨_,_,e⟩| ⟨_,e,_⟩
   ·exact .inl ⟨(x.x,x.g),JJ,JJ,JJ,by rw [e],rfl,A.o.n,JJ⟩
   ·exact .inr ⟨x,JJ,JJ,JJ,by rw [e],rfl,A.o,JJ⟩
  ·rcases A.s.e with⟨_,_,e⟩| ⟨_,e,_⟩
   ·exact .inl ⟨(x.x,x.g),JJ,JJ,JJ,by rw [e],rfl,A.o.n,JJ⟩
   ·exact .inr ⟨x,JJ,JJ,JJ,by rw [e],rfl,A.o,JJ⟩
  have hi:x.i<s.length:=JF;have a3:aU s[x.i]:=R _ (AH hi);have c0:=A.o.n.ln;have z:IntKind.i64.wrap ((x.x.length:Int)+1)=((x.x.length+1:Nat):Int):=by rw [AF _ JF];rfl
  refine aA (by simp;omega) (bB (n:=s[x.i]) (by rw [tn,AO,BL,AA hi];rfl) ?_);have b0:Bx x.g (x.g.push (.cells [.int .i64 s[x.i]])) s[x.i]:=Bx.push;refine⟨_,b0.ge,⟨a3,JG,JG⟩,?_⟩;rintro k n2 ⟨k0,k5,Y⟩;have b1:=b0.set (m:=n2);obtain⟨y,ey,X⟩:=e5X k0 k5;refine aA (by simp;omega) (bB ey ⟨_,b1.ge,⟨Y,by rw [z];omega,by rw [z];omega⟩,?_⟩);rintro kL n3 ⟨L0,L1,q3⟩;rw [z]at L1;have b2:=b1.set (m:=n3);refine⟨_,b2.ge,⟨q3,by rw [z];omega,by rw [z];omega⟩,?_⟩;rintro kR n4 ⟨R0,R1,q4⟩;rw [z]at R1;have Z:=b2.set (m:=n4);have iL:aU kL:=by unfold aU;omega
  have iR:aU kR:=by unfold aU;omega
  refine⟨16-x.i,aB (fun _=>⟨n4,Z.ge,⟨q4,JG,JG⟩,fun k2 n5 h5=>⟨⟨x.x,x.i,0,x.ss,x.v,x.t,_,x.g.next,n5,_,kR,y,[],.nilslice,0⟩,JJ,JJ,JJ,JJ,JJ,JJ,JJ,JJ,JJ,rfl,rfl,A.box ⟨JF,hi⟩ (Z.set (m:=n5)) h5.2.2 ⟨tK _,iR,X⟩,AG _⟩⟩) (fun _=>⟨⟨x.x,x.i,0,x.ss,x.v,x.t,_,x.g.next,n4,kL,kR,y,[],.nilslice,0⟩,JJ,JJ,JJ,JJ,JJ,JJ,JJ,JJ,JJ,rfl,rfl,A.box ⟨JF,hi⟩ Z q4 ⟨iL,iR,X⟩,AG _⟩),?_⟩;clear b0 b1 b2 Z;rintro x1 _ ⟨hJ,hZ⟩ b5;refine⟨x1.n,hJ.g.1,⟨hJ.g.2.2,JG,JG⟩,?_⟩;rintro k n2 ⟨k0,k3,Y⟩;refine⟨100*(16-x1.i)+2,⟨_,JJ,JJ,JJ,JJ,JJ,JJ,JJ,by rw [GX k0],JJ,JJ,by rw [hZ.w],rfl,(hJ.ks (k:=k.toNat) hZ JF).next Y,JK⟩,?_⟩;intro q _ j b6;have b9:=j.o.n.ln;have a8:=j.i;have b4:=j.l;have a9:=j.k;refine gO (fun c=>?_) (fun c=>?_)
  ·have V:IntKind.i64.wrap ((q.x.length:Int)+2)=((q.x.length+2:Nat):Int):=by rw [AF _ JF];rfl
   have a7:IntKind.i64.wrap ((q.k:Int)-1)=((q.k-1:Nat):Int):=by rw [AF _ JF];omega
   refine⟨q.n,j.g.1,⟨j.g.2.2,by rw [V];omega,by rw [V];omega⟩,?_⟩;rintro k n2 ⟨k0,k1,Y⟩;have L:=j.next Y;exact L.v.app (xs:=[.int .i64 (IntKind.i64.wrap (k-1))]) JK (fun t' g2 ht hp R=>⟨_,JJ,JJ,JJ,JJ,JJ,JJ,JJ,by rw [a7],JJ,JJ,rfl,rfl,L.app JK (tK _) ht hp R,JK⟩)
  ·have a6:IntKind.i64.wrap ((q.i:Int)+1)=((q.i+1:Nat):Int):=by rw [AF _ JF];rfl
   have a1:G5 Proofs.Tryz.prog 22= .slc 1:=by kernel_rfl
   have hw:B3 (G5 Proofs.Tryz.prog 22) q.w= .vslice none 0 q.vs.length 1 (q.vs.map (IV.int .i64)):=by
    rw [a1];rcases j.v.e with⟨e1,e2,e3⟩| ⟨_,e,_⟩
    ·rw [e3,e1,e2];rfl
    ·rw [e];rfl
   rw [hw];exact j.s.app (xs:=iT ⟨q.a,q.b,q.y,q.vs,[]⟩) JF (fun t' g2 ht hp R=>⟨⟨q.x,q.i+1,0,_,_,t',g2,0,0,0,0,0,[],.nilslice,0⟩,JJ,JJ,JJ,JJ,by rw [a6],JJ,rfl,rfl,j.fin R,JK⟩)
 ·exact G.elim
def c4R:=aV 6 a7P a4L
theorem c9Y:aO env c4R:=aF d7Z (a9G)
end Go.Proofs.YthimicfahhgpcaaGreat
end
end
