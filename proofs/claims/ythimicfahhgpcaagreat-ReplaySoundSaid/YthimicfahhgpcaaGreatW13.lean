/-
  Texts of this proof, one after the other.
  Conditions: none.
-/
import Derived.Test.YthimicfahhgpcaaGreatW12
set_option linter.unusedVariables false
set_option linter.unusedSimpArgs false
set_option maxRecDepth 100000
set_option maxHeartbeats 4000000
noncomputable section
variable{i j k m n b q:Nat}{x y z u w:Int}{h g:Go.Pv.Heap}{d l:List Go.Pv.IV}{A B C:List Go.M15.Nd}{K L:Y12}{p s t:Go.Pv.IV}{F:List Go.M10.E}{D:Go.Pv.Meta}{V W:List Go.Value}{U:Go.TypeId}{o:Bool}{X Y:Go.Value}{r e:Y11}{O:Go.Oper}{N:Y10}{H:Array Go.Value}
section
namespace Go.Proofs.YthimicfahhgpcaaGreat
open Go.Pv Go.M15 Go.M10
theorem P4{k:IntKind}{l:Y12}{i o:Nat}{K:Int->Prop}(h:i<l.length)(j:o=i)(g:K l[i]):aG k (l.map (IV.int k)) o K:=by
 subst j;exact bT h g
theorem Bh: ∀(r p:Y15)(g:Y12),(∀x∈r,x.op≠25/\x.op≠30/\x.op≠31)->fV p g r=gW g r
 | [],p,g,_=>rfl
 |n::r,p,g,h=>by
  have j:=h n AY;have e:cA p g n=Bi g n:=by
   unfold cA Bi bJ
   rw [if_neg j.2.2,if_neg j.2.1,if_neg j.1]
  rw [fV,gW,e];exact Bh r _ _ fun x l=>h x (BK _ l)
theorem a1U(l:Y15)(h: ∀x∈l,x.op≠25/\x.op≠30/\x.op≠31):aE l=bO l:=Bh l [] [] h
def Ek(xs:Y14)(h:Heap)(K:KT):Prop:=match xs with
 | [.int .i64 n,.int .i64 m]=>(0<m/\m<4611686018427387904)/\K (.int .i64 (n%m)) h
 |_=>False
theorem d2P(n m:Int)(h:Heap)(Q:KT):dF (aR noC) env 15 cS bK bK [.int .i64 n,.int .i64 m] h Q=(
 aC (!m==0) (aI (decide (Int.tmod n m<0)) (Q (.int .i64 (wW (Int.tmod n m+m))) h) (Q (.int .i64 (Int.tmod n m)) h))):=by kernel_rfl
theorem b1B: ∀xs h Q,Ek xs h Q->aL env 15 xs h Q:=by
 intro xs h Q g;unfold Ek at g;split at g
 ·rename_i n m;refine aN (gX env) (d2P n m h Q) ?_;delta wW;obtain⟨l,g⟩:=g;have h1:=GR n (JB m);have p:=Go.M13.wN n m l.1;refine aA (by simp;omega) (aB (fun j=>cD g ?_) (fun j=>cD g ?_))
  ·simp only [decide_eq_true_eq]at j;rw [AF _ JF];congr 1;omega
  ·simp only [decide_eq_false_iff_not]at j;congr 1;omega
 ·exact g.elim
def Of:=aV 15 Ek noC
theorem Wl:aO env Of:=aF b1B (gX env)
def Fc(xs:Y14)(h:Heap)(K:KT):Prop:=match xs with
 | [.int .i64 n,.int .i64 raw]=>aU raw/\∀w:Int,aU w->K (.int .i64 w) h
 |_=>False
theorem d3F(n g:Int)(h:Heap)(Q:KT):dF (aR Of) env 26 cS bK bK [.int .i64 n,.int .i64 g] h Q=(
 ((0:Int)<24/\(24:Int)<4611686018427387904)/\aI (decide (n% (24:Int)<10)) (aC (decide (0<=n% (24:Int)) &&decide (n% (24:Int)<10)) (aG .i64 [iI 0,iI 1,iI (-1),iI 2,iI (-9223372036854775808),iI 9223372036854775807,iI 4294967296,iI (-2147483648),iI 63,iI 64] ((n% (24:Int)).toNat*1) fun j=>Q (.int .i64 j) h)) (aI (decide (n% (24:Int)<22)) (((0:Int)<17/\(17:Int)<4611686018427387904)/\Q (.int .i64 (wW (wW (Int.tdiv n 24)% (17:Int)-6))) h) (Q (.int .i64 g) h))):=by kernel_rfl
theorem b1H: ∀xs h Q,Fc xs h Q->aL env 26 xs h Q:=by
 intro xs h Q g;unfold Fc at g;split at g
 ·rename_i n j;refine aN (Wl) (d3F n j h Q) ?_;delta wW iI;obtain⟨q,g⟩:=g;refine And.intro JF (aB (fun l=>?_) (fun l=>aB (fun hd=>And.intro JF (g _ ?_)) (fun hd=>g _ q)))
  ·rw [decide_eq_true_eq]at l;refine aA (by simp;omega) ?_;rw [AO];show aG .i64 (Go.M13.Up.map (IV.int .i64)) _ _;have m:(n%24).toNat<Go.M13.Up.length:=by have:Go.M13.Up.length=10:=rfl;omega
   refine bT m (g _ ?_);have p: ∀x∈Go.M13.Up,aU x:=JG
   exact p _ (AH m)
  ·have:=AF (IntKind.i64.wrap (n.tdiv 24)%17-6) JF;rw [this];unfold aU
   omega
 ·exact g.elim
def a5J:=aV 26 Fc Of
theorem c0G:aO env a5J:=aF b1H (Wl)
def Dw(xs:Y14)(h:Heap)(K:KT):Prop:=match xs with
 | [x]=>Dv [x] h K
 |_=>False
theorem c0O: ∀xs h Q,Dw xs h Q->aL env 46 xs h Q:=by
 intro xs h Q g;unfold Dw at g;split at g
 ·exact b0U _ _ _ g
 ·exact g.elim
def Cg:=aV 46 Dw a5J
theorem Je:aO env Cg:=aF c0O (c0G)
def Qs(xs:Y14)(h:Heap)(K:KT):Prop:=match xs with
 | [.int .i64 op]=>K (.int .i64 (Kp op)) h
 |_=>False
theorem d3A(op:Int)(h:Heap)(Q:KT):dF (aR Cg) env 80 cS bK bK [.int .i64 op] h Q=(
 aI (op==27) (Q (.int .i64 2) h) (aI (op==28) (Q (.int .i64 2) h) (aI (op==29) (Q (.int .i64 2) h) (Q (.int .i64 1) h)))):=by kernel_rfl
theorem d1I: ∀xs h Q,Qs xs h Q->aL env 80 xs h Q:=by
 intro xs h Q g;unfold Qs at g;split at g
 ·rename_i op;refine aN (Je) (d3A op h Q) ?_
  repeat' (first|refine aA ?_ ?_|refine aB (fun _=>?_) (fun _=>?_)|refine And.intro ?_ ?_)
  all_goals first|assumption|omega| (refine cD g ?_;simp only [IV.agg.injEq,IV.tuple.injEq,IV.int.injEq,IV.bool.injEq,BI,true_and,and_true];grind [Kp])
 ·exact g.elim
def Oq:=aV 80 Qs Cg
theorem Wv:aO env Oq:=aF d1I (Je)
def Ej(xs:Y14)(h:Heap)(K:KT):Prop:=match xs with
 | [.int .i64 op,.int .i64 k]=>K (.int .i64 (rY op k)) h
 |_=>False
theorem c2G(op k:Int)(h:Heap)(Q:KT):dF (aR Oq) env 48 cS bK bK [.int .i64 op,.int .i64 k] h Q=(
 aI (k==0) (aI (Kp op==2) (Q (.int .i64 2) h) (aI (op==23) (Q (.int .i64 2) h) (aI (op==24) (Q (.int .i64 2) h) (Q (.int .i64 1) h)))) (Q (.int .i64 1) h)):=by kernel_rfl
theorem c1A: ∀xs h Q,Ej xs h Q->aL env 48 xs h Q:=by
 intro xs h Q g;unfold Ej at g;split at g
 ·rename_i op k;refine aN (Wv) (c2G op k h Q) ?_
  repeat' (first|refine aA ?_ ?_|refine aB (fun _=>?_) (fun _=>?_)|refine And.intro ?_ ?_)
  all_goals first|assumption|omega| (refine cD g ?_;simp only [IV.agg.injEq,IV.tuple.injEq,IV.int.injEq,IV.bool.injEq,BI,true_and,and_true];grind [rY])
 ·exact g.elim
def Cr:=aV 48 Ej Oq
theorem Jm:aO env Cr:=aF c1A (Wv)
def Qd(xs:Y14)(h:Heap)(K:KT):Prop:=match xs with
 | [.ptr id 0]=>RD h id/\∀(n:Int)(h2:Heap),aU n->RD h2 id->HF id h h2->K (.int .i64 n) h2
 |_=>False
theorem d2J(id:Nat)(h:Heap)(Q:KT):dF (aR Cr) env 49 cS bK bK [.ptr id 0] h Q=(
 aJ h id fun r0=>aZ 1 r0 0 fun(G:Y10)(A r:Nat)(z:Y14)=>aI ((r:Int)==0) (Q (.int .i64 0) h) (aJ h id fun r5=>aZ 1 r5 0 fun(K:Y10)(D y:Nat)(q:Y14)=>aC (true&&decide (0< (y:Int))) (aG .i64 q 0 fun p=>aJ h id fun J0=>aZ 1 J0 0 fun(m:Y10)(l g:Nat)(j:Y14)=>aC (true&& (decide (1<=(g:Int)) &&decide ((g:Int)<=(g:Int)))) (aJ h id fun Rs=>aC (Nat.ble 1 Rs.length) (Q (.int .i64 p) (h.set id (IObj.cells (IV.vslice m (l- (g- (g:Int).toNat)*1) ((g:Int).toNat-1) 1 (List.take (((g:Int).toNat-1)*1) (List.drop 1 j))::List.drop 1 Rs)))))))):=by kernel_rfl
theorem d0U: ∀xs h Q,Qd xs h Q->aL env 49 xs h Q:=by
 intro xs h Q g;unfold Qd at g;split at g
 ·rename_i id;refine aN (Jm) (d2J id h Q) ?_;obtain⟨⟨m,r,e,y,l,p,j⟩,g⟩:=g;refine aD j (c9K ?_);refine aB (fun c=>g 0 h (by unfold aU;omega) ⟨m,r,e,y,l,p,j⟩ HF.refl) (fun c=>aD j (c9K ?_));have q:0<l.length:=by
   simp at c;exact Nat.pos_of_ne_zero (by simpa using c)
  refine aA (by simp;omega) (bT (i:=0) q (aD j (c9K (aA (by simp;omega) (aD j (aA JH ?_))))));refine g _ _ (p _ (AH q)) ⟨m,r,e- (l.length- ((l.length:Int)).toNat)*1,y,l.drop 1,fun x z=>p x (IM z),?_⟩ HF.set;refine(aK (h:=h)).trans ?_;simp;exact AM JH
 ·exact g.elim
def a4O:=aV 49 Qd Cr
theorem b9Z:aO env a4O:=aF d0U (Jm)
def Es(xs:Y14)(h:Heap)(K:KT):Prop:=match xs with
 | [.vslice none e1 n1 3 c1]=> ∃l:Y15,(n1=l.length/\c1=l.flatMap cN)/\((∀x∈l,x.ks.length<=1000000/\x.op≠25/\x.op≠30/\x.op≠31)/\l.length<=1000000)/\K (.vslice none 0 (bO l).length 1 ((bO l).map (IV.int .i64))) h
 |_=>False
theorem c1G: ∀xs h Q,Es xs h Q->aL env 55 xs h Q:=by
 intro xs h Q g;unfold Es at g;split at g
 ·rename_i p q c1;obtain⟨l,⟨rfl,rfl⟩,j,g⟩:=g;rw [<-a1U l fun x m=>(j.1 x m).2]at g;exact b1G _ _ _ ⟨l,⟨rfl,rfl⟩,⟨fun x m=>⟨(j.1 x m).1,trivial⟩,j.2⟩,g⟩
 ·exact g.elim
def Cx:=aV 55 Es a4O
theorem Jq:aO env Cx:=aF c1G (b9Z)
def b9U(l:Y15)(s n:Int):Inv':= .or
 (eA Nat (fun x=>[(0,.v (.vslice none 0 (l).length 3 ((l).flatMap cN))),(1,.v (.int .i64 s)),(2,.v (.int .i64 n)),(7,.v (.vslice none 0 (bO l).length 1 ((bO l).map (IV.int .i64)))),(8,.v .nilslice),(9,.v (.int .i64 x))]) (fun _=>[]) (fun _=>Heap.empty) (fun x=>x<=l.length/\s∈ (bO l).drop x) (fun x=>l.length-x))
 (eA (Nat×Y12×Nat×Heap) (fun x=>[(0,.v (.vslice none 0 (l).length 3 ((l).flatMap cN))),(1,.v (.int .i64 s)),(2,.v (.int .i64 n)),(7,.v (.vslice none 0 (bO l).length 1 ((bO l).map (IV.int .i64)))),(8,.v (.vslice (some x.2.2.1) x.2.1.length x.2.1.length 1 (x.2.1.map (IV.int .i64)))),(9,.v (.int .i64 x.1))]) (fun _=>[]) (fun x=>x.2.2.2)
  (fun x=>(x.1<=l.length/\0<x.2.1.length/\x.2.1.length<=x.1)/\(x.2.2.2.get x.2.2.1= .tip x.2.1.length/\x.2.2.1<x.2.2.2.next)/\∀q∈x.2.1,0<=q/\q<l.length/\(bO l).getD q.toNat 0=s) (fun x=>l.length-x.1))
def c8Y(xs:Y14)(h:Heap)(K:KT):Prop:=match xs with
 | [.vslice none e1 n1 3 c1,.int .i64 s,.int .i64 n]=> ∃l:Y15,(n1=l.length/\c1=l.flatMap cN)/\((∀x∈l,x.ks.length<=1000000/\x.op≠25/\x.op≠30/\x.op≠31)/\l.length<=1000000/\s∈bO l)/\∀q:Int,(0<=q/\q<l.length/\(bO l).getD q.toNat 0=s)->K (.int .i64 q) h
 |_=>False
def H2:=IV.int .i64
def C8(l:Y15):=TV.v (.vslice none 0 ((bO l).length) 1 (List.map H2 (bO l)))
def wX(l:Y15):=TV.v (.vslice none 0 l.length 3 (List.flatMap cN l))
def wY(s:Int):=TV.v (.int .i64 s)
def wZ(n:Int):=TV.v (.int .i64 n)
abbrev b5D(l:Y15)(s:Int)(g:Nat):=g<=l.length/\List.Mem s (List.drop g (bO l))
def Gc:=TV.v IV.nilslice
def b5E(g:Nat):=TV.v (.int .i64 (g:Int))
def d4B(g:Y15):=TV.v (.vslice none 0 ((bO g).length) 1 (List.map H2 (bO g)))
def d4C:=PT.node PT.nil (some (IObj.tip 1)) PT.nil
def Ms(l:Y15)(n s:Int)(j:IV)(m:Int)(p:Heap)(r:Nat):Prop:= ∃(g:Nat×Y12×Nat×Heap),some (wX l)=some (wX l)/\some (wY s)=some (wY s)/\some (wZ n)=some (wZ n)/\some (C8 l)=some (C8 l)/\some (TV.v (j))=some (TV.v (.vslice (some g.2.2.1) g.2.1.length g.2.1.length 1 (List.map H2 g.2.1)))/\tI (m)=tI (g.1:Int)
 /\p=g.2.2.2/\((g.1<=l.length/\0<g.2.1.length/\g.2.1.length<=g.1)/\(g.2.2.2.get g.2.2.1=IObj.tip g.2.1.length/\g.2.2.1<g.2.2.2.next)/\∀(q:Int),q∈g.2.1->0<=q/\q< (l.length:Int)/\List.getD (bO l) q.toNat 0=s)/\l.length-g.1<r
theorem e4Q(l:Y15)(s n:Int)(m:Nat)(h:Heap)(Q:KT):dF (aR Cx) env 47 cS (oE 5 (b9U l s n)) bK [.vslice none m (l).length 3 ((l).flatMap cN),.int .i64 s,.int .i64 n] h Q=(
 aC (aP [IV.vslice none 0 l.length 3 (List.flatMap cN l),iI s,iI n]) (∃(j:Y15),(l.length=j.length/\List.flatMap cN l=List.flatMap cN j)/\((∀(x:Nd),x∈j->List.length (Nd.ks x)<=1000000/\Nd.op x≠25/\Nd.op x≠30/\Nd.op x≠31)/\j.length<=1000000)/\((∃(x:Nat),some (wX l)=some (wX l)/\some (wY s)=some (wY s)/\some (wZ n)=some (wZ n)/\some (d4B j)=some (C8 l)/\some Gc=some Gc/\tI 0=tI (x:Int)/\Heap.mk PT.nil 0=Heap.mk PT.nil 0/\(x<=l.length/\List.Mem s (List.drop x (bO l)))/\True) \/ ∃(x:Nat×Y12×Nat×Heap),some (wX l)=some (wX l)/\some (wY s)=some (wY s)/\some (wZ n)=some (wZ n)/\some (d4B j)=some (C8 l)/\some Gc=some (TV.v (.vslice (some x.2.2.1) x.2.1.length x.2.1.length 1 (List.map H2 x.2.1)))/\tI 0=tI (x.1:Int)/\Heap.mk PT.nil 0=x.2.2.2/\((x.1<=l.length/\0<x.2.1.length/\x.2.1.length<=x.1)/\(x.2.2.2.get (x.2.2.1)=IObj.tip x.2.1.length/\x.2.2.1<x.2.2.2.next)/\∀(q:Int),q∈x.2.1->0<=q/\q< (l.length:Int)/\List.getD (bO l) q.toNat 0=s)/\True)/\(∀(x:Nat)(b:FF),x<=l.length/\s∈List.drop x (bO l)->aI (decide ((x:Int)< (l.length:Int))) (aC (decide (0<=(x:Int)) &&decide ((x:Int)< (↑((bO l).length):Int))) (aG .i64 (List.map H2 (bO l)) ((x:Int).toNat*(1:Nat)) fun r=>aI (r==s) ((∃(g:Nat),some (wX l)=some (wX l)/\some (wY s)=some (wY s)/\some (wZ n)=some (wZ n)/\some (C8 l)=some (C8 l)/\some (TV.v (.vslice (some (0:Nat)) 1 1 1 [iI (x:Int)]))=some Gc/\tI (wW ((x:Int)+1))=some (b5E g)/\Heap.mk d4C ((0:Nat)+1)=Heap.mk PT.nil 0/\(b5D l s g)/\l.length-g<l.length-x) \/Ms l n s (IV.vslice (some (0:Nat)) 1 1 1 [iI (x:Int)]) (wW ((x:Int)+1)) (Heap.mk d4C ((0:Nat)+1)) (l.length-x)) ((∃(g:Nat),some (wX l)=some (wX l)/\some (wY s)=some (wY s)/\some (wZ n)=some (wZ n)/\some (C8 l)=some (C8 l)/\some Gc=some Gc/\tI (wW ((x:Int)+1))=some (b5E g)/\Heap.mk PT.nil 0=Heap.mk PT.nil 0/\(b5D l s g)/\l.length-g<l.length-x) \/Ms l n s IV.nilslice (wW ((x:Int)+1)) (Heap.mk PT.nil 0) (l.length-x)))) (((0:Int)<0/\(0:Int)<4611686018427387904)/\False))/\∀(x:Nat×Y12×Nat×Heap)(b:FF),((x.1<=l.length/\0<x.2.1.length/\x.2.1.length<=x.1)/\(x.2.2.2.get x.2.2.1=IObj.tip x.2.1.length/\x.2.2.1<x.2.2.2.next)/\∀(q:Int),q∈x.2.1->0<=q/\q< (l.length:Int)/\List.getD (bO l) q.toNat 0=s)->aI (decide ((x.1:Int)< (l.length:Int))) (aC (decide (0<=(x.1:Int)) &&decide ((x.1:Int)< (↑((bO l).length):Int))) (aG .i64 (List.map H2 (bO l)) ((x.1:Int).toNat*1) fun y=>aI (y==s) (cF x.2.2.2 x.2.2.1 fun(p:Nat)=>aC (Nat.beq p x.2.1.length&&Nat.ble ((x.2.1.length+1)*8) 140737488355328) ((∃(g:Nat),some (wX l)=some (wX l)/\some (wY s)=some (wY s)/\some (wZ n)=some (wZ n)/\some (C8 l)=some (C8 l)/\some (TV.v (.vslice (some x.2.2.1) (x.2.1.length+1) (x.2.1.length+1) 1 (List.map H2 x.2.1++ [iI (x.1:Int)])))=some Gc/\tI (wW ((x.1:Int)+1))=some (b5E g)/\Heap.set x.2.2.2 (((x.2).2).1) (IObj.tip (x.2.1.length+1))=Heap.mk PT.nil 0/\(b5D l s g)/\l.length-g<l.length-x.1) \/Ms l n s (IV.vslice (some x.2.2.1) (x.2.1.length+1) ((x.2.1).length+1) 1 (List.map H2 x.2.1++ [iI (x.1:Int)])) (wW ((x.1:Int)+1)) (x.2.2.2.set x.2.2.1 (IObj.tip (((x.2).1).length+1))) (l.length-x.1))) ((∃(g:Nat),some (wX l)=some (wX l)/\some (wY s)=some (wY s)/\some (wZ n)=some (wZ n)/\some (C8 l)=some (C8 l)/\some (TV.v (.vslice (some x.2.2.1) x.2.1.length (x.2.1.length) 1 (List.map H2 x.2.1)))=some Gc/\tI (wW ((x.1:Int)+1))=some (b5E g)/\x.2.2.2=Heap.mk PT.nil 0/\(b5D l s g)/\l.length-g<l.length-x.1) \/Ms l n s (IV.vslice (some x.2.2.1) x.2.1.length x.2.1.length 1 (List.map H2 x.2.1)) (wW ((x.1:Int)+1)) (x.2.2.2) (l.length-x.1)))) ((0< (x.2.1.length:Int)/\(x.2.1.length:Int)<4611686018427387904)/\aC (decide (0<=wW (wW ((↑((x.2.1).length):Int)-1)-n% (x.2.1.length:Int))) &&decide (wW (wW ((x.2.1.length:Int)-1)-n% (x.2.1.length:Int))< (↑(((x.2).1).length):Int))) (aG .i64 (List.map H2 x.2.1) ((wW (wW ((x.2.1.length:Int)-1)-n% (x.2.1.length:Int))).toNat*1) fun z=>Q (.int .i64 z) h)))):=by kernel_rfl
theorem e3P: ∀xs h Q,c8Y xs h Q->aL env 47 xs h Q:=by
 intro xs h Q r;unfold c8Y at r;split at r
 ·rename_i X n1 c1 s n;obtain⟨l,⟨rfl,rfl⟩,Y,r⟩:=r;refine aN (Jq) (e4Q l s n X h Q) ?_;delta Ms C8 wX wY wZ H2 b5D Gc b5E d4B d4C tI wW iI;have A: ∀x:Nat,(x:Int).toNat=x:=AK
  obtain⟨G,K,hs⟩:=Y;have a1:(bO l).length=l.length:=S2 l;have z: ∀{i:Nat}(h:i< (bO l).length),(bO l).getD i 0=(bO l)[i]:=fun h=>by rw [AC,AA h];rfl
  refine aA (by simp only [aP,bG,bR,AL]) ⟨l,⟨rfl,rfl⟩,⟨G,K⟩,.inl ⟨0,JJ,JJ,JJ,JJ,JJ,JJ,JJ,⟨BE _,hs⟩,trivial⟩,?_,?_⟩
  ·rintro i _ ⟨O,hd⟩
   try dsimp only at O hd⊢
   refine aB (fun c=>?_) (fun c=>?_)
   ·rw [decide_eq_true_eq]at c;have j:i< (bO l).length:=JF;refine aA (by simp;omega) (P4 j (by rw [AO,A]) (aB (fun c1=> .inr ⟨(i+1,[(i:Int)],0,_),JJ,JJ,JJ,JJ,JJ,(by rw [AF _ JF];rfl),JJ,⟨⟨JK,Nat.one_pos,by dsimp only [List.length_cons,List.length_nil];omega⟩,⟨rfl,Nat.one_pos⟩,fun q y=>?_⟩,JK⟩) (fun c1=> .inl ⟨i+1,JJ,JJ,JJ,JJ,JJ,(by rw [AF _ JF];rfl),JJ,⟨JF,?_⟩,JF⟩)))
    ·rw [BN.1 y,A,z j,beq_iff_eq.1 c1];omega
    ·rw [List.drop_eq_getElem_cons j]at hd;rcases CD.1 hd with q|q
     ·rw [beq_eq_false_iff_ne]at c1;exact absurd q.symm c1
     ·exact q
   ·rw [decide_eq_false_iff_not]at c;rw [List.drop_eq_nil_of_le JF]at hd
    cases hd
  ·rintro⟨i,a,R,g⟩ _ ⟨⟨O,V,D⟩,⟨L,p⟩,y⟩;dsimp only at O V D L p y⊢;refine aB (fun c=>?_) (fun c=>?_)
   ·rw [decide_eq_true_eq]at c;have j:i< (bO l).length:=JF;refine aA (by simp;omega) (P4 j (by rw [AO,A]) (aB (fun c1=>aS L (aA (by simp only [AO,AD,bL,AS,true_and];omega) (.inr ⟨(i+1,a++ [(i:Int)],R,g.set R (.tip (a.length+1))),JJ,JJ,JJ,JJ,JH,(by rw [AF _ JF];rfl),JJ,⟨⟨JK,JH,by simp;omega⟩,⟨by rw [aK];simp,p⟩,fun q m=>?_⟩,JK⟩))) (fun c1=> .inr ⟨(i+1,a,R,g),JJ,JJ,JJ,JJ,JJ,(by rw [AF _ JF];rfl),JJ,⟨⟨JK,V,JK⟩,⟨L,p⟩,y⟩,JK⟩)));rcases BU.1 m with m|m
    ·exact y q m
    ·rw [BN.1 m,A,z j,beq_iff_eq.1 c1];omega
   ·have Z:=EW n (show(a.length:Int)≠0 by omega);have a0:=EH n (show(0:Int)<a.length by omega);have w1:IntKind.i64.wrap ((a.length:Int)-1)=(a.length:Int)-1:=AF _ JF;rw [w1];have w2:IntKind.i64.wrap ((a.length:Int)-1-n% (a.length:Int))=(a.length:Int)-1-n% (a.length:Int):=AF _ JF;rw [w2];have j:((a.length:Int)-1-n% (a.length:Int)).toNat<a.length:=JF;exact⟨⟨JF,JF⟩,aA (by simp;omega) (P4 j (AO _) (r _ (y _ (AH j))))⟩
 ·exact r.elim
def c7K:=aV 47 c8Y Cx
theorem c5L:aO env c7K:=aF e3P (Jq)
def c1N(op im:Int)(ks:Y12)(p m:Int)(g:Y12):Inv':=eA Nat (fun i=>[(2,.l 2 0),(3,.l 3 0),(5,.v (.int .i64 i))]) (fun _=>[(2,[.int .i64 op,.int .i64 im,.vslice none 0 ks.length 1 (ks.map (IV.int .i64))]),(3,[.int .i64 p,.int .i64 m,.vslice none 0 g.length 1 (g.map (IV.int .i64))])]) (fun _=>Heap.empty)
 (fun i=>(ks.length=g.length/\i<=ks.length)/\∀j,j<i->ks[j]?=g[j]?) (fun i=>ks.length-i)
def P0(xs:Y14)(h:Heap)(K:KT):Prop:=match xs with
 | [.agg [.int .i64 op,.int .i64 im,.vslice none e1 n1 1 c1],.agg [.int .i64 op2,.int .i64 im2,.vslice none e2 n2 1 c2]]=> ∃ks ks2:Y12,(n1=ks.length/\c1=ks.map (IV.int .i64))/\(n2=ks2.length/\c2=ks2.map (IV.int .i64))/\ks.length<=1000000000/\K (.bool (decide ((⟨op,im,ks⟩:Nd)=⟨op2,im2,ks2⟩))) h
 |_=>False
def a2S(op im:Int)(ks:Y12):=[iI op,iI im,IV.vslice none 0 ks.length 1 (List.map (IV.int .i64) ks)]
def a2T(l j:Int)(g:Y12):=[iI l,iI j,IV.vslice none 0 g.length 1 (List.map (IV.int .i64) g)]
def b6B:=TV.l 2 0
def b6C:=TV.l 3 0
def d4S(ks g:Y12)(x:Nat):=((ks.length=g.length/\x<=ks.length)/\∀(j:Nat),j<x->ks[j]?=g[j]?)
theorem b2K(op im m l:Int)(ks g:Y12)(q r:Nat)(h:Heap)(Q:KT):dF (aR c7K) env 81 cS (oE 5 (c1N op im ks m l g)) bK [.agg [.int .i64 op,.int .i64 im,.vslice none q ks.length 1 (ks.map (IV.int .i64))],.agg [.int .i64 m,.int .i64 l,.vslice none r g.length 1 (g.map (IV.int .i64))]] h Q=(
 aC (aP [IV.agg (a2S op im ks),IV.agg (a2T m l g)]) (aI (op !=m) (Q (.bool false) h) (aI (im !=l) (Q (.bool false) h) (aI ((ks.length:Int) !=(g.length:Int)) (Q (.bool false) h) ((∃(x:Nat),some b6B=some b6B/\some b6C=some b6C/\some (TV.v (iI 0))=tI (x:Int)/\some (a2S op im ks)=some (a2S op im ks)/\some (a2T m l g)=some (a2T m l g)/\Heap.mk PT.nil 0=Heap.mk PT.nil 0/\(d4S ks g x)/\True)/\∀(x:Nat)(b:FF),(d4S ks g x)->aI (decide ((x:Int)< (ks.length:Int))) (aC (decide (0<=(x:Int)) &&decide ((x:Int)< (ks.length:Int))) (aG .i64 (List.map (IV.int .i64) ks) ((x:Int).toNat*1) fun y=>aC (decide (0<=(x:Int)) &&decide ((x:Int)< (g.length:Int))) (aG .i64 (List.map (IV.int .i64) g) ((x:Int).toNat*1) fun z=>aI (y !=z) (Q (.bool false) h) (∃(p:Nat),some b6B=some b6B/\some b6C=some b6C/\tI (wW ((x:Int)+1))=tI (p:Int)/\some (a2S op im ks)=some (a2S op im ks)/\some (a2T m l g)=some (a2T m l g)/\Heap.mk PT.nil 0=Heap.mk PT.nil 0/\((ks.length=g.length/\p<=ks.length)/\∀(j:Nat),j<p->ks[j]?=g[j]?)/\ks.length-p<ks.length-x)))) (Q (.bool true) h)))))):=by kernel_rfl
theorem b1F: ∀xs h Q,P0 xs h Q->aL env 81 xs h Q:=by
 intro xs h Q y;unfold P0 at y;split at y
 ·rename_i op im K Z c1 m l L n2 c2;obtain⟨ks,g,⟨rfl,rfl⟩,⟨rfl,rfl⟩,Y,y⟩:=y;refine aN (c5L) (b2K op im m l ks g K L h Q) ?_;delta a2S a2T b6B b6C d4S tI wW iI;have X: ∀x:Nat,(x:Int).toNat=x:=AK
  have fin: ∀b:Bool,(b=true ↔ (op=m/\im=l/\ks=g))->Q (.bool b) h:=fun b e=>by
   have:b=decide ((⟨op,im,ks⟩:Nd)=⟨m,l,g⟩):=by
    rw [FS,e,decide_eq_true_eq,Nd.mk.injEq]
   rw [this];exact y
  have z: ¬ (op=m/\im=l/\ks=g)->Q (.bool false) h:=fun e=>fin false ⟨fun q=>(by cases q),fun q=>absurd q e⟩
  refine aA (by simp only [aP,bG,bC,AL]) (aB (fun c=>z (fun e=>bne_iff_ne.1 c e.1)) (fun c1=>aB (fun c=>z (fun e=>bne_iff_ne.1 c e.2.1)) (fun c2=>aB (fun c=>z (fun e=>bne_iff_ne.1 c (by rw [e.2.2]))) (fun G=>?_))));rw [bne_eq_false_iff_eq]at c1 c2 G;subst c1 c2;have D:ks.length=g.length:=JF;refine⟨⟨0,rfl,rfl,rfl,rfl,rfl,rfl,⟨⟨D,BE _⟩,fun j R=>JF⟩,trivial⟩,?_⟩;rintro i _ ⟨⟨V,O⟩,A⟩
  try dsimp only at O A⊢
  refine aB (fun c=>?_) (fun c=>?_)
  ·rw [decide_eq_true_eq]at c;have r:i<ks.length:=JF;have p:i<g.length:=JF;simp only [X];rw [AO];refine aA (by simp;omega) (bT r (aA (by simp;omega) (bT p (aB (fun c1=>z (fun e=>?_)) (fun c1=>⟨i+1,JJ,JJ,?_,JJ,JJ,JJ,⟨⟨D,r⟩,fun j R=>?_⟩,by(try dsimp only);omega⟩)))))
   ·have e:=e.2.2;subst e;simp at c1
   ·rw [AF _ JF];rfl
   ·rcases BB j i with q|q
    ·exact A j q
    ·obtain rfl:j=i:=JF;rw [bne_eq_false_iff_eq]at c1;rw [AA r,AA p,c1]
  ·rw [decide_eq_false_iff_not]at c;refine fin true ⟨fun _=>⟨rfl,rfl,CY fun j=>?_⟩,fun _=>rfl⟩;rcases BB j i with q|q
   ·exact A j q
   ·rw [BH JF,BH JF]
 ·exact y.elim
def K9:=aV 81 P0 c7K
theorem As:aO env K9:=aF b1F (c5L)
def b8G(l:Y15)(op im:Int)(ks:Y12):Inv':=eA Nat (fun x=>[(0,.v (.vslice none 0 (l).length 3 ((l).flatMap cN))),(3,.l 3 0),(5,.v (.int .i64 x))]) (fun _=>[(3,[.int .i64 op,.int .i64 im,.vslice none 0 ks.length 1 (ks.map (IV.int .i64))])]) (fun _=>Heap.empty) (fun x=>x<=l.length/\∀j,j<x-> ∀q,l[j]?=some q->(⟨op,im,ks⟩:Nd)≠q) (fun x=>l.length-x)
def Pu(xs:Y14)(h:Heap)(K:KT):Prop:=match xs with
 | [.vslice none e0 n0 3 c0,.agg [.int .i64 op,.int .i64 im,.vslice none e1 n1 1 c1]]=> ∃(l:Y15)(ks:Y12),(n0=l.length/\c0=l.flatMap cN)/\(n1=ks.length/\c1=ks.map (IV.int .i64))/\(l.length<=1000000/\∀x∈l,x.ks.length<=1000000)/\K (.bool (decide ((⟨op,im,ks⟩:Nd) ∈l))) h
 |_=>False
def a2P(op im:Int)(ks:Y12):=[iI op,iI im,IV.vslice none 0 ks.length 1 (List.map (IV.int .i64) ks)]
def b5F(l:Y15):=TV.v (.vslice none 0 l.length 3 (List.flatMap cN l))
def b5G:=TV.l 3 0
theorem d2A(l:Y15)(op im:Int)(ks:Y12)(e0 y:Nat)(h:Heap)(Q:KT):dF (aR K9) env 50 cS (oE 3 (b8G l op im ks)) bK [.vslice none e0 (l).length 3 ((l).flatMap cN),.agg [.int .i64 op,.int .i64 im,.vslice none y ks.length 1 (ks.map (IV.int .i64))]] h Q=(
 aC (aP [IV.vslice none 0 l.length 3 (List.flatMap cN l),IV.agg (a2P op im ks)]) ((∃(x:Nat),some (b5F l)=some (b5F l)/\some b5G=some b5G/\tI 0=tI (x:Int)/\some (a2P op im ks)=some (a2P op im ks)/\Heap.mk PT.nil 0=Heap.mk PT.nil 0/\(x<=l.length/\∀(j:Nat),j<x-> ∀(q:Nd),l[j]?=some q->Nd.mk op im ks≠q)/\True)/\∀(x:Nat)(b:FF),(x<=l.length/\∀(j:Nat),j<x-> ∀(q:Nd),l[j]?=some q->Nd.mk op im ks≠q)->aI (decide ((x:Int)< (l.length:Int))) (aC (decide (0<=(x:Int)) &&decide ((x:Int)< (l.length:Int))) (aG .i64 (List.flatMap cN l) ((x:Int).toNat*3) fun A=>aG .i64 (List.flatMap cN l) ((x:Int).toNat*3+1) fun D=>aZ 1 (List.flatMap cN l) ((x:Int).toNat*3+1+1) fun(K:Y10)(G z:Nat)(r:Y14)=> ∃(g p:Y12),(z=g.length/\r=List.map (IV.int .i64) g)/\(ks.length=p.length/\List.map (IV.int .i64) ks=List.map (IV.int .i64) p)/\g.length<=1000000000/\aI (decide (Nd.mk A D g=Nd.mk op im p)) (Q (.bool true) h) (∃(m:Nat),some (b5F l)=some (b5F l)/\some b5G=some b5G/\tI (wW ((x:Int)+1))=tI (m:Int)/\some (a2P op im ks)=some (a2P op im ks)/\Heap.mk PT.nil 0=Heap.mk PT.nil 0/\(m<=l.length/\∀(j:Nat),j<m-> ∀(q:Nd),l[j]?=some q->Nd.mk op im ks≠q)/\l.length-m<l.length-x))) (Q (.bool false) h))):=by kernel_rfl
theorem d0N: ∀xs h Q,Pu xs h Q->aL env 50 xs h Q:=by
 intro xs h Q m;unfold Pu at m;split at m
 ·rename_i e0 V R op im D X c1;obtain⟨l,ks,⟨rfl,rfl⟩,⟨rfl,rfl⟩,G,m⟩:=m;refine aN (As) (d2A l op im ks e0 D h Q) ?_;delta a2P b5F b5G tI wW iI;have O: ∀x:Nat,(x:Int).toNat=x:=AK
  refine aA (by simp only [aP,bG,bC,bR,AL]) ⟨⟨0,JJ,JJ,JJ,JJ,JJ,⟨BE _,fun j y=>JF⟩,trivial⟩,?_⟩;rintro i _ ⟨K,r⟩
  try dsimp only at K r⊢
  have A: ∀x:Nd,(⟨x.op,x.im,x.ks⟩:Nd)=x:=fun x=>by cases x;rfl
  refine aB (fun c=>?_) (fun c=>?_)
  ·rw [decide_eq_true_eq]at c;have g:i<l.length:=JF;refine aA (by simp;omega) (pK g (by rw [O]) ⟨l[i].ks,ks,⟨rfl,rfl⟩,⟨rfl,rfl⟩,by have:=G.2 _ (AH g);omega,aB (fun c1=>?_) (fun c1=>⟨i+1,JJ,JJ,?_,JJ,JJ,⟨g,fun j y q z=>?_⟩,by(try dsimp only);omega⟩)⟩)
   ·rw [decide_eq_true_eq,A]at c1;rw [decide_eq_true (c1▸AH g)]at m;exact m
   ·rw [AF _ JF];rfl
   ·rcases BB j i with p|p
    ·exact r j p q z
    ·obtain rfl:j=i:=JF;rw [decide_eq_false_iff_not,A]at c1;rw [AA g,AB]at z;rw [<-z];exact fun e=>c1 e.symm
  ·rw [decide_eq_false_iff_not]at c;rw [decide_eq_false (fun L=>?_)]at m
   ·exact m
   ·obtain⟨j,y,e⟩:=CT.1 L;exact r j JF _ (AA y) e.symm
 ·exact m.elim
def Nu:=aV 50 Pu K9
theorem Wa:aO env Nu:=aF d0N (As)
def b9R(b:Bool)(l:Y12):Inv':=(eA ND (fun x=>[(0,.v (.vslice none 0 (l).length 1 ((l).map (IV.int .i64)))),(1,.v (.bool b)),(6,.v (.int .i64 x.i)),(5,.v (.vslice x.io x.e x.x.length 3 (x.x.flatMap cN)))]) (fun x=>[]) (fun x=>x.g) (fun x=>x.i<=14/\OV x) (fun x=>(14-x.i)*10))
def Vs(b:Bool)(l:Y12):Inv':=(eA ND (fun x=>[(0,.v (.vslice none 0 (l).length 1 ((l).map (IV.int .i64)))),(1,.v (.bool b)),(6,.v (.int .i64 x.i)),(5,.v (.vslice x.io x.e x.x.length 3 (x.x.flatMap cN))),(7,.v (.ptr x.rd 0)),(8,.l 8 0)]) (fun x=>[(8,[.int .i64 x.op,.int .i64 x.im,.nilslice])]) (fun x=>x.g) (fun x=>(x.i<14/\x.i<l.length)/\OR x/\OI x.op x.im) (fun x=>(14-x.i)*10))
def b9P(b:Bool)(l:Y12):Inv':=(eA ND (fun x=>[(0,.v (.vslice none 0 (l).length 1 ((l).map (IV.int .i64)))),(1,.v (.bool b)),(6,.v (.int .i64 x.i)),(5,.v (.vslice x.io x.e x.x.length 3 (x.x.flatMap cN))),(7,.v (.ptr x.rd 0)),(8,.l 8 0),(9,.v (.int .i64 (ar x.op))),(11,.v (.int .i64 x.ks.length))]) (fun x=>[(8,[.int .i64 x.op,.int .i64 x.im,x.kv])]) (fun x=>x.g) (fun x=>(x.i<14/\x.i<l.length)/\OR x/\OI x.op x.im/\KV x) (fun x=>(14-x.i)*10+(3-x.ks.length)))
def b9L(b:Bool)(l:Y12):Inv':=(eA ND (fun x=>[(0,.v (.vslice none 0 (l).length 1 ((l).map (IV.int .i64)))),(1,.v (.bool b)),(6,.v (.int .i64 x.i)),(5,.v (.vslice x.io x.e x.x.length 3 (x.x.flatMap cN))),(8,.l 8 0)]) (fun x=>[(8,[.int .i64 x.op,.int .i64 x.im,x.kv])]) (fun x=>x.g) (fun x=>(x.i<14/\x.i<l.length)/\OV x/\KV x/\OI x.op 0/\(x.ks.length:Int)=ar x.op/\((x.op≠27/\aU x.im/\(x.op=1\/x.im=0)) \/ (x.op=27/\1<=x.im/\x.im<=2))) (fun x=>(14-x.i)*10))
def b9K(b:Bool)(l:Y12):Inv':= .or (eA ND (fun x=>[(0,.v (.vslice none 0 (l).length 1 ((l).map (IV.int .i64)))),(1,.v (.bool b)),(6,.v (.int .i64 x.i)),(5,.v (.vslice x.io x.e x.x.length 3 (x.x.flatMap cN))),(8,.l 8 0)]) (fun x=>[(8,[.int .i64 x.op,.int .i64 x.im,.nilslice])]) (fun x=>x.g) (fun x=>(x.i<14/\x.i<l.length)/\OV x/\FN x.x x.op x.im []/\x.ks=[]) (fun x=>(14-x.i)*10)) (eA ND (fun x=>[(0,.v (.vslice none 0 (l).length 1 ((l).map (IV.int .i64)))),(1,.v (.bool b)),(6,.v (.int .i64 x.i)),(5,.v (.vslice x.io x.e x.x.length 3 (x.x.flatMap cN))),(8,.l 8 0)]) (fun x=>[(8,[.int .i64 x.op,.int .i64 x.im,.vslice (some x.rd) x.ks.length x.ks.length 1 (x.ks.map (IV.int .i64))])]) (fun x=>x.g) (fun x=>(x.i<14/\x.i<l.length)/\OV x/\FN x.x x.op x.im x.ks) (fun x=>(14-x.i)*10))
def I7(xs:Y14)(h:Heap)(K:KT):Prop:=match xs with
 | [.vslice none e1 n1 1 c1,.bool b]=> ∃l:Y12,(n1=l.length/\c1=l.map (IV.int .i64))/\((∀x∈l,aU x)/\l.length<=9223372036854775807)/\∀x:Y15,NW 14 x->K (.vslice none 0 (x).length 3 ((x).flatMap cN)) h
 |_=>False
def Tf:=IV.int .i64
def wU(l:Y12):=List.map Tf l
def oA(l:Y12):=TV.v (.vslice none 0 l.length 1 (wU l))
def Td(g:ND):=TV.v (.vslice (ND.io g) (ND.e g) ((ND.x g).length) 3 (List.flatMap cN (ND.x g)))
def wT:=TV.l 8 0
def Te(g:ND):=TV.v (.int .i64 ((ND.i g):Int))
def oB(b:Bool):=TV.v (.bool b)
def c2X(l:Y12)(g:ND):=decide (0<=((ND.i g):Int)) &&decide (((ND.i g):Int)< (l.length:Int))
def c2Y(g:ND):=IV.vslice (ND.io g) (ND.e g) ((ND.x g).length) 3 (List.flatMap cN (ND.x g))
def c2Z(g:ND):=TV.v (.int .i64 (wW (((ND.i g):Int)+1)))
abbrev c3A:=(0:Int)<2/\(2:Int)<4611686018427387904
abbrev a2K(l:Y12)(g:ND):=ND.i g<14/\ND.i g<l.length
def c3B(g:ND):=[iI (ND.op g),iI (ND.im g),IV.nilslice]
def d3I(g:Int):=[iI (wW ((4:Int)+g% (19:Int))),iI 0,IV.nilslice]
def d3J(g:ND)(j:Int):=[iI (ND.op g),iI (wW (Int.tdiv j 5)% (2:Int)),ND.kv g]
def d3K(g:ND)(j:Int):=[iI (ND.op g),iI (wW (Int.tdiv j 5)% (2:Int)),ND.kv g]
def d3L(g:Y15):=(g.length<=1000000/\∀(x:Nd),x∈g->List.length (Nd.ks x)<=1000000)
def d3M(g:ND):=TV.v (.vslice (ND.io g) (ND.e g) ((ND.x g).length) 3 (List.flatMap cN (ND.x g)))
def d3N(g:ND):=TV.v (.vslice (ND.io g) (ND.e g) ((ND.x g).length) 3 (List.flatMap cN (ND.x g)))
def d3O(g:ND):=TV.v (.vslice (ND.io g) (ND.e g) ((ND.x g).length) 3 (List.flatMap cN (ND.x g)))
def d3P(l:Y12)(g:ND):=decide (0<=((ND.i g):Int)) &&decide (((ND.i g):Int)< (l.length:Int))
def c3C(g:ND):=((ND.i g):Int).toNat*1
def d3Q(g:ND):=[iI (ND.op g),iI (ND.im g),ND.kv g]
def Tg(g:ND):=(14:Nat)-ND.i g
abbrev d3R(g:Y15)(j:ND):=(ND.x j).length=g.length/\List.flatMap cN (ND.x j)=List.flatMap cN g
def b3R(b:Bool)(l:Y12)(x j:ND):Prop:= ∃(m:ND),some (oA l)=some (oA l)/\some (oB b)=some (oB b)/\some (c2Z j)=some (Te m)/\some (TV.v (c2Y j))=some (Td m)/\ND.g j=ND.g m/\(ND.i m<=14/\OV m)/\(Tg m)*10< ((14:Nat)-ND.i x)*10
def Yp(M:Nat)(b:Bool)(l:Y12)(m p q:Int)(x:ND)(r:Y14):Prop:= ∃(j:ND),some (oA l)=some (oA l)/\some (oB b)=some (oB b)/\tI ((ND.i x):Int)=some (Te j)/\some (TV.v (.vslice (ND.io x) (ND.e x) ((ND.x x).length) 3 (List.flatMap cN (ND.x x))))=some (Td j)/\some (TV.v (.ptr ((ND.g x).next) 0))=some (TV.v (.ptr (ND.rd j)
 0))/\some wT=some wT/\some (r)=some (c3B j)/\Heap.push (ND.g x) (IObj.cells [IV.vslice none 1 3 1 [iI (wW (Int.tdiv m 7)),iI (wW (Int.tdiv p 101)),iI (wW (Int.tdiv q 1009))],iI 0])=ND.g j/\((a2K l j)/\OR j/\OI (ND.op j) (ND.im j))/\(Tg j)*10
 <=M
def b3S(M:Nat)(b:Bool)(l:Y12)(j:ND)(p:Y14):Prop:= ∃(m:ND),some (oA l)=some (oA l)/\some (oB b)=some (oB b)/\tI ((ND.i j):Int)=some (Te m)/\some (TV.v (.vslice (ND.io j) (ND.e j) ((ND.x j).length) 3 (List.flatMap cN (ND.x j))))=some (Td m)/\some (TV.v (.ptr (ND.rd j) 0))=some (TV.v (.ptr (ND.rd m)
 0))/\some wT=some wT/\some (p)=some (c3B m)/\ND.g j=ND.g m/\((a2K l m)/\OR m/\OI (ND.op m) (ND.im m))/\(Tg m)*10<=M
def b3T(M:Nat)(b:Bool)(l:Y12)(m:ND)(p:Y14):Prop:= ∃(j:ND),some (oA l)=some (oA l)/\some (oB b)=some (oB b)/\tI ((ND.i m):Int)=some (Te j)/\some (d3M m)=some (Td j)/\some wT=some wT/\some (p)=some [iI (ND.op j),iI (ND.im j),ND.kv j]/\ND.g m=ND.g j/\((a2K l j)/\OV j/\KV j/\OI (ND.op j)
 (0:Int)/\(↑((ND.ks j).length):Int)=ar (ND.op j)/\(ND.op j≠27/\aU (ND.im j)/\(ND.op j=1\/ND.im j=0) \/ND.op j=27/\1<=ND.im j/\ND.im j<=2))/\(Tg j)*10<=M
def Yq(M:Nat)(b:Bool)(l:Y12)(m:ND)(p:Y14):Prop:= ∃(j:ND),some (oA l)=some (oA l)/\some (oB b)=some (oB b)/\tI ((ND.i m):Int)=some (Te j)/\some (d3O m)=some (Td j)/\some wT=some wT/\some (p)=some (c3B j)/\ND.g m=ND.g j/\((a2K l j)/\OV j/\FN (ND.x j) (ND.op j) (ND.im j) []/\ND.ks j=
 [])/\(Tg j)*10<=M
def Yr(M:Nat)(b:Bool)(l:Y12)(m:ND)(p:Y14):Prop:= ∃(j:ND),some (oA l)=some (oA l)/\some (oB b)=some (oB b)/\tI ((ND.i m):Int)=some (Te j)/\some (d3O m)=some (Td j)/\some wT=some wT/\some (p)=some [iI (ND.op j),iI (ND.im j),IV.vslice (some (ND.rd j)) ((ND.ks j).length) ((ND.ks j).length)
 1 (List.map Tf (ND.ks j))]/\ND.g m=ND.g j/\((a2K l j)/\OV j/\FN (ND.x j) (ND.op j) (ND.im j) (ND.ks j))/\(Tg j)*10<=M
theorem c2F(l:Y12)(b:Bool)(e1:Nat)(h:Heap)(Q:KT):dF (aR Nu) env 20 cS (vC 4 (b9R b l) (oE 1000014 (b9P b l))) (vC 1000010 (Vs b l) (vC 1000012 (Vs b l) (vC 1000019 (b9L b l) (oE 1000021 (b9K b l))))) [.vslice none e1 (l).length 1 ((l).map (IV.int .i64)),.bool b] h Q=(
 aC (aP [IV.vslice none 0 l.length 1 (wU l),IV.bool b]) ((∃(x:ND),some (oA l)=some (oA l)/\some (oB b)=some (oB b)/\tI 0=tI ((ND.i x):Int)/\some (TV.v (.vslice none 1 3 3 [iI 2,iI 0,IV.vslice none 0 0 1 [],iI 2,iI 1,IV.vslice none 0 0 1 [],iI 26,iI 0,IV.vslice none 0 0 1 []]))=some (TV.v (.vslice (ND.io x) (ND.e x) ((ND.x x).length) 3 (List.flatMap cN (ND.x x))))/\Heap.mk PT.nil 0=ND.g x/\(ND.i x<=14/\OV x)/\True)/\∀(x:ND)(a9:FF),ND.i x<=14/\OV x->aI (decide (((ND.i x):Int)< (l.length:Int))) (aI (decide (((ND.i x):Int)<14)) (aC (decide (0<=((ND.i x):Int)) &&decide (((ND.i x):Int)< (l.length:Int))) (aG .i64 (wU l) (((ND.i x):Int).toNat*1) fun n0=>aC (decide (0<=((ND.i x):Int)) &&decide (((ND.i x):Int)< (l.length:Int))) (aG .i64 (wU l) (((ND.i x):Int).toNat*1) fun n1=>aC (decide (0<=((ND.i x):Int)) &&decide (((ND.i x):Int)< (l.length:Int))) (aG .i64 (wU l) (((ND.i x):Int).toNat*1) fun n2=>aC (decide (0<=((ND.i x):Int)) &&decide (((ND.i x):Int)< (l.length:Int))) (aG .i64 (wU l) (((ND.i x):Int).toNat*1) fun n3=>((0:Int)<19/\(19:Int)<4611686018427387904)/\∃(M:Nat),aI (!b) (aC (decide (0<=((ND.i x):Int)) &&decide (((ND.i x):Int)< (l.length:Int))) (aG .i64 (wU l) (((ND.i x):Int).toNat*1) fun n4=>((0:Int)<9/\(9:Int)<4611686018427387904)/\aI (decide (n4% (9:Int)>5)) (aC (decide (0<=((ND.i x):Int)) &&decide (((ND.i x):Int)< (l.length:Int))) (aG .i64 (wU l) (((ND.i x):Int).toNat*1) fun n5=>((0:Int)<5/\(5:Int)<4611686018427387904)/\aC (decide ((0:Int)<=wW (Int.tdiv n5 9)% (5:Int)) &&decide (wW (Int.tdiv n5 9)% (5:Int)<5)) (aG .i64 [iI 23,iI 27,iI 28,iI 29,iI 24] ((wW (Int.tdiv n5 9)% (5:Int)).toNat*1) fun n6=>Yp M b l n0 n1 n2 x [iI n6,iI 0,IV.nilslice]))) (Yp M b l n0 n1 n2 x (d3I n3)))) (Yp M b l n0 n1 n2 x (d3I n3))/\∀(r:ND)(b0:FF),(ND.i r<14/\ND.i r<l.length)/\OR r/\OI (ND.op r) (ND.im r)->((14:Nat)-ND.i r)*10<=M-> ∃(M:Nat),aC (c2X l r) (aG .i64 (wU l) (c3C r) fun n7=>((0:Int)<11/\(11:Int)< (4611686018427387904:Int))/\aI (n7% (11:Int)==0) (aC (c2X l r) (aG .i64 (wU l) (c3C r) fun n8=>aC (c2X l r) (aG .i64 (wU l) (c3C r) fun n9=>aU n9/\∀(w:Int),aU w->b3S M b l r [iI 1,iI w,IV.nilslice]))) (b3S M b l r [iI (ND.op r),iI (ND.im r),IV.nilslice]))/\∀(y:ND)(b1:FF),(ND.i y<14/\ND.i y<l.length)/\OR y/\OI (ND.op y) (ND.im y)->((14:Nat)-ND.i y)*10<=M-> ∃(M:Nat),(∃(x:ND),some (oA l)=some (oA l)/\some (oB b)=some (oB b)/\tI ((ND.i y):Int)=tI ((ND.i x):Int)/\some (TV.v (.vslice (ND.io y) (ND.e y) ((ND.x y).length) 3 (List.flatMap cN (ND.x y))))=some (TV.v (.vslice (ND.io x) (ND.e x) ((ND.x x).length) 3 (List.flatMap cN (ND.x x))))/\some (TV.v (.ptr (ND.rd y) 0))=some (TV.v (.ptr (ND.rd x) 0))/\some wT=some wT/\tI (ar (ND.op y))=tI (ar (ND.op x))/\tI 0=tI (↑((ND.ks x).length):Int)/\some [iI (ND.op y),iI (ND.im y),IV.nilslice]=some [iI (ND.op x),iI (ND.im x),ND.kv x]/\ND.g y=ND.g x/\((ND.i x<14/\ND.i x<l.length)/\OR x/\OI (ND.op x) (ND.im x)/\KV x)/\((14:Nat)-ND.i x)*10+((3:Nat)- (ND.ks x).length)<=M)/\∀(j:ND)(b2:FF),(ND.i j<14/\ND.i j<l.length)/\OR j/\OI (ND.op j) (ND.im j)/\KV j->((14:Nat)-ND.i j)*10+((3:Nat)- (ND.ks j).length)<=M->aI (decide ((↑((ND.ks j).length):Int)<ar (ND.op j))) (RD (ND.g j) (ND.rd j)/\∀(n:Int)(h2:Heap),aU n->RD h2 (ND.rd j)->HF (ND.rd j) (ND.g j) h2-> ∃(z:Y15),((ND.x j).length=z.length/\List.flatMap cN (ND.x j)=List.flatMap cN z)/\((∀(x:Nd),x∈z->List.length (Nd.ks x)<=1000000/\Nd.op x≠25/\Nd.op x≠30/\Nd.op x≠31)/\z.length<=1000000/\List.Mem (rY (ND.op j) (↑((ND.ks j).length):Int)) (bO z))/\∀(q:Int),(0:Int)<=q/\q< (z.length:Int)/\List.getD (bO z) q.toNat 0=rY (ND.op j) (↑((ND.ks j).length):Int)->gH h2 1 8 j.8 1 [iI q] fun(a2 V a5:Nat)(L:Y14)(Z:Heap)=> ∃(x:ND),some (oA l)=some (oA l)/\some (oB b)=some (oB b)/\tI ((ND.i j):Int)=tI ((ND.i x):Int)/\some (d3M j)=some (TV.v (.vslice (ND.io x) (ND.e x) ((ND.x x).length) 3 (List.flatMap cN (ND.x x))))/\some (TV.v (.ptr (ND.rd j) 0))=some (TV.v (.ptr (ND.rd x) 0))/\some wT=some wT/\tI (ar (ND.op j))=tI (ar (ND.op x))/\tI (wW ((↑((ND.ks j).length):Int)+1))=some (TV.v (iI (↑((ND.ks x).length):Int)))/\some [iI (ND.op j),iI (ND.im j),IV.vslice (some a2) V a5 1 L]=some [iI (ND.op x),iI (ND.im x),ND.kv x]/\Z=ND.g x/\((ND.i x<14/\ND.i x<l.length)/\OR x/\OI (ND.op x) (ND.im x)/\KV x)/\((14:Nat)-ND.i x)*10+((3:Nat)- (ND.ks x).length)< ((14:Nat)-ND.i j)*10+((3:Nat)- (ND.ks j).length)) (∃(M:Nat),aI (ND.op j==27) (aC (decide (0<=((ND.i j):Int)) &&decide (((ND.i j):Int)< (l.length:Int))) (aG .i64 (wU l) (((ND.i j):Int).toNat*1) fun a8=>c3A/\b3T M b l j [iI (ND.op j),iI (wW ((1:Int)+wW (Int.tdiv a8 5)% (2:Int))),ND.kv j])) (b3T M b l j [iI (ND.op j),iI (ND.im j),ND.kv j])/\∀(p:ND)(b3:FF),(ND.i p<14/\ND.i p<l.length)/\OV p/\KV p/\OI (ND.op p) 0/\(↑((ND.ks p).length):Int)=ar (ND.op p)/\(ND.op p≠27/\aU (ND.im p)/\(ND.op p=1\/ND.im p=0) \/ND.op p=27/\1<=ND.im p/\ND.im p<=2)->((14:Nat)-ND.i p)*10<=M-> ∃(M:Nat),aI (ND.op p==23) (aC (d3P l p) (aG .i64 (wU l) (((ND.i p):Int).toNat*1) fun D=>c3A/\((Yq M b l p (d3J p D)) \/Yr M b l p (d3J p D)))) (aI (ND.op p==28) (aC (d3P l p) (aG .i64 (wU l) (((ND.i p):Int).toNat*1) fun G=>c3A/\((Yq M b l p (d3K p G)) \/Yr M b l p (d3K p G)))) ((Yq M b l p (d3Q p)) \/Yr M b l p (d3Q p)))/\(∀(m:ND)(K:FF),(ND.i m<14/\ND.i m<l.length)/\OV m/\FN (ND.x m) (ND.op m) (ND.im m) []/\ND.ks m=[]->((14:Nat)-ND.i m)*10<=M-> ∃(z:Y15)(ks:Y12),(d3R z m)/\((0:Nat)=ks.length/\[]=List.map Tf ks)/\(d3L z)/\aI (!decide (Nd.mk (ND.op m) (ND.im m) ks∈z)) (gH (ND.g m) 3 40 (c2Y m) 1 [iI (ND.op m),iI (ND.im m),IV.vslice none 0 0 1 []] fun(a3 X a6:Nat)(O:Y14)(a0:Heap)=> ∃(A:ND),some (oA l)=some (oA l)/\some (oB b)=some (oB b)/\some (c2Z m)=tI ((ND.i A):Int)/\some (TV.v (.vslice (some a3) X a6 3 O))=some (d3N A)/\a0=ND.g A/\(ND.i A<=14/\OV A)/\((14:Nat)-ND.i A)*10< ((14:Nat)-ND.i x)*10) (b3R b l x m))/\∀(m:ND)(K:FF),(ND.i m<14/\ND.i m<l.length)/\OV m/\FN (ND.x m) (ND.op m) (ND.im m) (ND.ks m)->((14:Nat)-ND.i m)*10<=M-> ∃(z:Y15)(ks:Y12),(d3R z m)/\((ND.ks m).length=ks.length/\List.map Tf (ND.ks m)=List.map Tf ks)/\(d3L z)/\aI (!decide (Nd.mk (ND.op m) (ND.im m) ks∈z)) (gH (ND.g m) 3 40 (c2Y m) 1 [iI (ND.op m),iI (ND.im m),IV.vslice none 0 ((ND.ks m).length) 1 (List.map Tf (ND.ks m))] fun(a4 Y a7:Nat)(R:Y14)(a1:Heap)=> ∃(A:ND),some (oA l)=some (oA l)/\some (oB b)=some (oB b)/\some (c2Z m)=tI ((ND.i A):Int)/\some (TV.v (.vslice (some a4) Y a7 3 R))=some (d3N A)/\a1=ND.g A/\(ND.i A<=14/\OV A)/\((14:Nat)-ND.i A)*10< ((14:Nat)-ND.i x)*10) (b3R b l x m))))))) (aC (aP [IV.vslice none 0 ((ND.x x).length) 3 (List.flatMap cN (ND.x x))]) (Q (.vslice none 0 ((ND.x x).length) 3 (List.flatMap cN (ND.x x))) h))) (aC (aP [IV.vslice none 0 ((ND.x x).length) 3 (List.flatMap cN (ND.x x))]) (Q (.vslice none 0 ((ND.x x).length) 3 (List.flatMap cN (ND.x x))) h)))):=by kernel_rfl
theorem Xj: ∀xs h Q,I7 xs h Q->aL env 20 xs h Q:=by
 intro xs h Q hk;unfold I7 at hk;split at hk
 ·rename_i e1 n1 c1 b;obtain⟨l,⟨rfl,rfl⟩,hb,hk⟩:=hk;refine aN (Wa) (c2F l b e1 h Q) ?_;delta b3R Yp b3S b3T Yq Yr oA Td wT wU Te oB c2X c2Y c2Z c3A a2K c3B d3I d3J d3K d3L d3M d3N d3O d3P Tf c3C d3Q Tg d3R tI wW iI;have tn: ∀x:Nat,(x:Int).toNat=x:=AK
  obtain⟨d1,e5⟩:=hb;have hL: ∀{i:Nat}{K:Int->Prop},i<l.length->(∀n,aU n->K n)->aC (decide ((0:Int)<=(i:Int)) &&decide ((i:Int)< (l.length:Int))) (aG .i64 (l.map (IV.int .i64)) ((i:Int).toNat*1) K):=
   fun h hk=>aA (by simp;omega) (P4 h (by rw [AO,tn]) (hk _ (d1 _ (AH h))))
  refine aA (by simp only [aP,bG,bC,AL]) ⟨⟨⟨0,Z6,none,1,0,0,[],.nilslice,0,Heap.empty⟩,?_⟩,?_⟩
  ·repeat (refine And.intro (by first|rfl|exact True.intro| (rw [AF _ JF];rfl)) ?_)
   exact⟨⟨BE _,NW.init,.inl ⟨rfl,rfl⟩⟩,trivial⟩
  rintro x _ ⟨hi,a1⟩;have fin:aC (aP [.vslice none 0 x.x.length 3 (x.x.flatMap cN)]) (Q (.vslice none 0 x.x.length 3 (x.x.flatMap cN)) h):=aA (by simp only [aP,bG,bR,AL]) (hk _ (a1.1.mono hi));refine aB (fun c=>aB (fun c2=>?_) (fun _=>fin)) (fun _=>fin);rw [decide_eq_true_eq]at c c2;have hr:x.i<14/\x.i<l.length:=JF;refine hL hr.2 (fun n0 _=>hL hr.2 (fun n1 _=>hL hr.2 (fun n2 _=>hL hr.2 (fun n3 _=>⟨JF,(14-x.i)*10,?_,?_⟩))))
  ·have w3:IntKind.i64.wrap (4+n3%19)=4+n3%19:=AF _ JF;rw [w3];have o3:kD (4+n3%19)=true:=by unfold kD;rw [decide_eq_true_eq];omega
   have oi: ∀op,kD op=true->OI op 0:=fun op h=>⟨h,by unfold aU;omega,.inr rfl⟩
   refine aB (fun _=>hL hr.2 (fun n4 _=>⟨JF,aB (fun _=>hL hr.2 (fun n5 _=>⟨JF,aA (by simp;omega) ?_⟩)) (fun _=>?_)⟩)) (fun _=>?_)
   ·show aG .i64 (([23,27,28,29,24]:Y12).map (IV.int .i64)) _ _;have hl:(IntKind.i64.wrap (n5.tdiv 9)%5).toNat< ([23,27,28,29,24]:Y12).length:=by simp;omega
    have ha: ∀x∈ ([23,27,28,29,24]:Y12),kD x=true:=JG
    exact P4 hl (AO _) ⟨⟨x.i,x.x,x.io,x.e,_,0,[],.nilslice,x.g.next,_⟩,rfl,rfl,rfl,rfl,rfl,rfl,rfl,rfl,⟨hr,OR.mk1 a1 _ _ _ _ _,oi _ (ha _ (AH hl))⟩,AG _⟩
   ·exact⟨⟨x.i,x.x,x.io,x.e,4+n3%19,0,[],.nilslice,x.g.next,_⟩,rfl,rfl,rfl,rfl,rfl,rfl,rfl,rfl,⟨hr,OR.mk1 a1 _ _ _ _ _,oi _ o3⟩,AG _⟩
   ·exact⟨⟨x.i,x.x,x.io,x.e,4+n3%19,0,[],.nilslice,x.g.next,_⟩,rfl,rfl,rfl,rfl,rfl,rfl,rfl,rfl,⟨hr,OR.mk1 a1 _ _ _ _ _,oi _ o3⟩,AG _⟩
  ·rintro x1 _ ⟨Z,c0,d2⟩ d6;refine⟨(14-x1.i)*10,hL Z.2 (fun n7 _=>⟨JF,aB (fun _=>hL Z.2 (fun n8 _=>hL Z.2 (fun n9 h9=>⟨h9,fun w hw=>⟨⟨x1.i,x1.x,x1.io,x1.e,1,w,[],.nilslice,x1.rd,x1.g⟩,?_⟩⟩))) (fun _=>⟨x1,?_⟩)⟩),?_⟩
   ·repeat (refine And.intro (by first|rfl|exact True.intro| (rw [AF _ JF];rfl)) ?_)
    exact⟨⟨Z,c0,⟨rfl,hw,.inl rfl⟩⟩,AG _⟩
   ·repeat (refine And.intro (by first|rfl|exact True.intro| (rw [AF _ JF];rfl)) ?_)
    exact⟨⟨Z,c0,d2⟩,AG _⟩
   rintro x2 _ ⟨d3,c7,a5⟩ d7;refine⟨(14-x2.i)*10+3,⟨⟨x2.i,x2.x,x2.io,x2.e,x2.op,x2.im,[],.nilslice,x2.rd,x2.g⟩,?_⟩,?_⟩
   ·repeat (refine And.intro (by first|rfl|exact True.intro| (rw [AF _ JF];rfl)) ?_)
    exact⟨⟨d3,c7,a5,KS.nil a5.1,.inl ⟨rfl,rfl⟩⟩,AG _⟩
   rintro z _ ⟨a2,r,G,a0,Y⟩ d8;have e6:=r.1.1.1;have e2:=d5M z.op;have e4:=a0.1;refine aB (fun c3=>?_) (fun c3=>?_)
   ·rw [decide_eq_true_eq]at c3;refine⟨r.2.1,fun n h2 hn c8 hf=>⟨z.x,⟨rfl,rfl⟩,⟨r.1.1.sorts,JF,r.1.1.has _ _⟩,fun q hq=>?_⟩⟩;have b5:(z.kv= .nilslice/\z.ks=[]) \/ ∃id,z.kv= .vslice (some id) z.ks.length z.ks.length 1 (z.ks.map (IV.int .i64))/\KH z.ks id h2:=by
     rcases Y with q| ⟨id,q1,D,V,_⟩
     ·exact .inl q
     ·exact .inr ⟨id,q1,D.hf hf V⟩
    refine a3K b5 JF (fun id h3 d0 b1 b2=>⟨⟨z.i,z.x,z.io,z.e,z.op,z.im,z.ks++ [q],.vslice (some id) (z.ks++ [q]).length (z.ks++ [q]).length 1 ((z.ks++ [q]).map (IV.int .i64)),z.rd,h3⟩,?_⟩);have b7: ∀j,z.io=some j->j≠id:=fun j hj e=>by
     subst e;rcases b2 with q|q
     ·rcases r.1.2 with D| ⟨a4,D,_,V⟩
      ·rw [D.1]at hj
       cases hj
      ·rw [D]at hj
       cases hj
       have:=V.2;have:=hf.1;omega
     ·rcases Y with⟨D,_⟩| ⟨a4,D,_,_,V⟩
      ·rw [D]at q
       cases q
      ·rw [D]at q
       cases q
       exact V _ hj rfl
    have b9:id≠z.rd:=fun e=>by
     subst e;rcases b2 with q|q
     ·have:=c8.1;omega
     ·rcases Y with⟨D,_⟩| ⟨a4,D,_,V,_⟩
      ·rw [D]at q
       cases q
      ·rw [D]at q
       cases q
       exact V rfl
    refine⟨rfl,rfl,rfl,rfl,rfl,rfl,rfl,?_⟩;refine⟨by rw [AF _ JF];simp,?_⟩
    repeat (refine And.intro (by first|rfl|exact True.intro| (rw [AF _ JF];rfl)) ?_)
    refine⟨⟨a2,⟨⟨r.1.1,?_⟩,c8.hf b1 b9.symm,r.2.2⟩,G,a0.snoc c3 hq,.inr ⟨id,rfl,d0,b9,b7⟩⟩,by simp only [AJ,AW,BW];omega⟩;rcases r.1.2 with D| ⟨a4,D,q4,V⟩
    ·exact .inl D
    ·exact .inr ⟨a4,D,q4,(V.hf hf (r.2.2 _ D)).hf b1 (b7 _ D)⟩
   ·rw [decide_eq_false_iff_not]at c3;have b4:(z.ks.length:Int)=ar z.op:=JF;refine⟨(14-z.i)*10,aB (fun c4=>hL a2.2 (fun a9 _=>⟨JF,⟨⟨z.i,z.x,z.io,z.e,z.op,1+IntKind.i64.wrap (a9.tdiv 5)%2,z.ks,z.kv,z.rd,z.g⟩,?_⟩⟩)) (fun c4=>⟨z,?_⟩),?_⟩
    ·have w4:IntKind.i64.wrap (1+IntKind.i64.wrap (a9.tdiv 5)%2)=1+IntKind.i64.wrap (a9.tdiv 5)%2:=AF _ JF;rw [w4]
     repeat (refine And.intro (by first|rfl|exact True.intro| (rw [AF _ JF];rfl)) ?_)
     refine⟨⟨a2,r.1,⟨a0,Y⟩,⟨G.1,by unfold aU;omega,.inr rfl⟩,b4,.inr ⟨beq_iff_eq.1 c4,JK,JK⟩⟩,JK⟩
    ·repeat (refine And.intro (by first|rfl|exact True.intro| (rw [AF _ JF];rfl)) ?_)
     refine⟨⟨a2,r.1,⟨a0,Y⟩,⟨G.1,by unfold aU;omega,.inr rfl⟩,b4,.inl ⟨by simpa using c4,G.2.1,G.2.2⟩⟩,JF⟩
    rintro p _ ⟨a3,a6,⟨O,b6⟩,R,L,b3⟩ d9;have b0: ∀im,FN p.x p.op im p.ks->((∃y:ND,some (TV.v (.vslice none 0 l.length 1 (l.map (IV.int .i64))))=some (TV.v (.vslice none 0 l.length 1 (l.map (IV.int .i64))))/\some (TV.v (.bool b))=some (TV.v (.bool b))/\some (TV.v (.int .i64 (p.i:Int)))=some (TV.v (.int .i64 (y.i:Int)))/\
      some (TV.v (.vslice p.io p.e p.x.length 3 (p.x.flatMap cN)))=some (TV.v (.vslice y.io y.e y.x.length 3 (y.x.flatMap cN)))/\some (TV.l 8 0)=some (TV.l 8 0)/\some [.int .i64 p.op,.int .i64 im,p.kv]=some [.int .i64 y.op,.int .i64 y.im,IV.nilslice]/\p.g=y.g/\
      ((y.i<14/\y.i<l.length)/\OV y/\FN y.x y.op y.im []/\y.ks=[])/\(14-y.i)*10<=(14-p.i)*10) \/
     ∃y:ND,some (TV.v (.vslice none 0 l.length 1 (l.map (IV.int .i64))))=some (TV.v (.vslice none 0 l.length 1 (l.map (IV.int .i64))))/\some (TV.v (.bool b))=some (TV.v (.bool b))/\some (TV.v (.int .i64 (p.i:Int)))=some (TV.v (.int .i64 (y.i:Int)))/\
      some (TV.v (.vslice p.io p.e p.x.length 3 (p.x.flatMap cN)))=some (TV.v (.vslice y.io y.e y.x.length 3 (y.x.flatMap cN)))/\some (TV.l 8 0)=some (TV.l 8 0)/\some [.int .i64 p.op,.int .i64 im,p.kv]=some [.int .i64 y.op,.int .i64 y.im,IV.vslice (some y.rd) y.ks.length y.ks.length 1 (y.ks.map (IV.int .i64))]/\p.g=y.g/\
      ((y.i<14/\y.i<l.length)/\OV y/\FN y.x y.op y.im y.ks)/\(14-y.i)*10<=(14-p.i)*10):=fun im a7=>by
      rcases b6 with⟨q1,D⟩| ⟨id,q1,D,V,q4⟩
      ·refine .inl ⟨⟨p.i,p.x,p.io,p.e,p.op,im,[],.nilslice,p.rd,p.g⟩,?_⟩;rw [q1]
       repeat (refine And.intro (by first|rfl|exact True.intro| (rw [AF _ JF];rfl)) ?_)
       exact⟨⟨a3,a6,by rw [D]at a7;exact a7,rfl⟩,AG _⟩
      ·refine .inr ⟨⟨p.i,p.x,p.io,p.e,p.op,im,p.ks,.nilslice,id,p.g⟩,?_⟩;rw [q1]
       repeat (refine And.intro (by first|rfl|exact True.intro| (rw [AF _ JF];rfl)) ?_)
       exact⟨⟨a3,a6,a7⟩,AG _⟩
    refine⟨(14-p.i)*10,aB (fun c5=>hL a3.2 (fun e7 _=>⟨JF,b0 _ ?_⟩)) (fun c5=>aB (fun c6=>hL a3.2 (fun e8 _=>⟨JF,b0 _ ?_⟩)) (fun c6=>b0 _ ?_)),?_,?_⟩
    ·exact R.fn O L (.inr (.inl ⟨.inl (beq_iff_eq.1 c5),JF,JF⟩))
    ·exact R.fn O L (.inr (.inl ⟨.inr (beq_iff_eq.1 c6),JF,JF⟩))
    ·rw [beq_eq_false_iff_ne]at c5 c6;rcases b3 with⟨q1,D,V⟩| ⟨q1,D,V⟩
     ·have:OI p.op p.im:=⟨R.1,D,V⟩;exact this.fn O L (.inl ⟨c5,q1,c6,rfl⟩)
     ·exact R.fn O L (.inr (.inr ⟨q1,D,V⟩))
    ·rintro A _ ⟨d4,m,X,e3⟩ c9;have d5:=m.1.1;refine⟨A.x,([]:Y12),⟨rfl,rfl⟩,⟨rfl,rfl⟩,⟨JF,fun n hn=>(m.1.sorts n hn).1⟩,aB (fun cm=>Tz (n:=⟨A.op,A.im,([]:Y12)⟩) m.2 JF (fun id h3 a8=>⟨⟨A.i+1,A.x++ [⟨A.op,A.im,([]:Y12)⟩],some id,(A.x++ [(⟨A.op,A.im,([]:Y12)⟩:Nd)]).length*3,0,0,[],.nilslice,0,h3⟩,?_⟩)) (fun _=>⟨⟨A.i+1,A.x,A.io,A.e,0,0,[],.nilslice,0,A.g⟩,?_⟩)⟩
     ·repeat (refine And.intro (by first|rfl|exact True.intro| (rw [AF _ JF];rfl)) ?_)
      exact⟨⟨JK,m.1.app JF (by simpa using cm) X,.inr ⟨id,rfl,rfl,a8⟩⟩,JK⟩
     ·repeat (refine And.intro (by first|rfl|exact True.intro| (rw [AF _ JF];rfl)) ?_)
      exact⟨⟨JK,m.1.mono (EE _),m.2⟩,JK⟩
    ·rintro A _ ⟨d4,m,X⟩ c9;have d5:=m.1.1;refine⟨A.x,A.ks,⟨rfl,rfl⟩,⟨rfl,rfl⟩,⟨JF,fun n hn=>(m.1.sorts n hn).1⟩,aB (fun cm=>Tz (n:=⟨A.op,A.im,A.ks⟩) m.2 JF (fun id h3 a8=>⟨⟨A.i+1,A.x++ [⟨A.op,A.im,A.ks⟩],some id,(A.x++ [(⟨A.op,A.im,A.ks⟩:Nd)]).length*3,0,0,[],.nilslice,0,h3⟩,?_⟩)) (fun _=>⟨⟨A.i+1,A.x,A.io,A.e,0,0,[],.nilslice,0,A.g⟩,?_⟩)⟩
     ·repeat (refine And.intro (by first|rfl|exact True.intro| (rw [AF _ JF];rfl)) ?_)
      exact⟨⟨JK,m.1.app JF (by simpa using cm) X,.inr ⟨id,rfl,rfl,a8⟩⟩,JK⟩
     ·repeat (refine And.intro (by first|rfl|exact True.intro| (rw [AF _ JF];rfl)) ?_)
      exact⟨⟨JK,m.1.mono (EE _),m.2⟩,JK⟩
 ·exact hk.elim
def Cq:=aV 20 I7 Nu
theorem Jl:aO env Cq:=aF Xj (Wa)
end Go.Proofs.YthimicfahhgpcaaGreat
end
section
namespace Go.Proofs.YthimicfahhgpcaaGreat
open Go.Pv Go.M15 Go.M10 Go.M14 Go.M23
theorem Fv(h:Heap): ∀l:Y15,(l.flatMap cN).map (pX h)=l.flatMap cN
 | []=>rfl
 |n::r=>by
  rw [BD,CB,Fv h r];rfl
theorem Fw{h:Heap}{id g len:Nat}{cs:Y14}{ks:Y12}(l:h.get id= .cells cs)(e:(cs.drop g).take (len*1)=ks.map (IV.int .i64))(m:ks.length=len)(j:g+len*1<=cs.length):pX h (.hslice id g len 1)= .vslice none 0 ks.length 1 (ks.map (IV.int .i64)):=by
 unfold pX
 simp only [l];rw [if_pos ⟨JG,j⟩,e,m]
theorem xE: ∀l:Y15,(l.flatMap cN).length=l.length*3
 | []=>rfl
 |n::r=>by
  rw [BD,AJ,xE r,AW];show 3+r.length*3=_;omega
theorem Hm: ∀(l:Y15)(k:Nat),(l.flatMap cN).take (k*3)=(l.take k).flatMap cN
 | [],k=>JH
 |n::r,0=>JH
 |n::r,k+1=>by
  rw [FM,BD,BD,<-Hm r k,show(k+1)*3=(cN n).length+k*3 from by show _=3+_;omega,List.take_length_add_append]
theorem Hl: ∀(l:Y15)(k:Nat),(l.flatMap cN).drop (k*3)=(l.drop k).flatMap cN
 | [],k=>JH
 |n::r,0=>JH
 |n::r,k+1=>by
  rw [EB,BD,<-Hl r k,show(k+1)*3=(cN n).length+k*3 from by show _=3+_;omega,List.drop_length_add_append]
theorem b8D{y:Y15}{k:Nat}(g:k<y.length)(n:Nd):(y.flatMap cN).take (k*3)++cN n++(y.flatMap cN).drop (k*3+3)=(y.set k n).flatMap cN:=by
 rw [DF,if_pos g,CG,BD,Hm,show k*3+3=(k+1)*3 by omega,Hl,CI]
def OkK(ks:Y12):Prop:=ks.length<=40/\∀k∈ks,aU k
def PGk(l:Y15):Prop:=(∀n∈l,aU n.op/\aU n.im/\OkK n.ks)/\l.length<=1000
theorem Rm:OkK []:=⟨JG,fun k h=>by cases h⟩
theorem e2L{a:Int}(h:aU a):OkK [a]:=⟨by show 1<=40;omega,fun k q=>by rw [BN.1 q];exact h⟩
theorem e2M{ks:Y12}{a:Int}(h:ks.length<=20/\∀k∈ks,aU k)(g:aU a):OkK (ks++ [a]):=⟨by rw [AJ];have:=h.1;show ks.length+1<=40;omega,fun k q=>by
 rcases BU.1 q with q|q
 ·exact h.2 k q
 ·rw [BN.1 q];exact g⟩
theorem e2O{ks:Y12}{a:Int}{j:Nat}(h:OkK ks)(g:aU a):OkK (ks.set j a):=⟨by rw [BX];exact h.1,fun k q=>by
 rcases HQ q with q|q
 ·exact h.2 k q
 ·rw [q];exact g⟩
theorem e2N{ks:Y12}(h:OkK ks):OkK (ks.drop 1):=⟨by rw [DM];have:=h.1;omega,fun k q=>h.2 k (IM q)⟩
def Qk(xs:Y14)(h:Heap)(K:KT):Prop:=match xs with
 | [.int .i64 n,.int .i64 m]=>(0<m/\m<4611686018427387904)/\K (.int .i64 (n%m)) h
 |_=>False
theorem d2O(n m:Int)(h:Heap)(Q:KT):dF (aR Cq) env 15 cS bK bK [.int .i64 n,.int .i64 m] h Q=(
 aC (!m==0) (aI (decide (Int.tmod n m<0)) (Q (.int .i64 (wW (Int.tmod n m+m))) h) (Q (.int .i64 (Int.tmod n m)) h))):=by kernel_rfl
theorem d1B: ∀xs h Q,Qk xs h Q->aL env 15 xs h Q:=by
 intro xs h Q g;unfold Qk at g;split at g
 ·rename_i n m;refine aN (Jl) (d2O n m h Q) ?_;delta wW;obtain⟨l,g⟩:=g;have h1:=GR n (JB m);have p:=Go.M13.wN n m l.1;refine aA (by simp;omega) (aB (fun j=>cD g ?_) (fun j=>cD g ?_))
  ·simp only [decide_eq_true_eq]at j;rw [AF _ JF];congr 1;omega
  ·simp only [decide_eq_false_iff_not]at j;congr 1;omega
 ·exact g.elim
def a4V:=aV 15 Qk Cq
theorem c0D:aO env a4V:=aF d1B (Jl)
def a7F(xs:Y14)(h:Heap)(K:KT):Prop:=match xs with
 | [.vslice none e1 n1 3 c1,.int .i64 how,.int .i64 at_]=> ∃l:Y15,(n1=l.length/\c1=l.flatMap cN)/\((∀x∈l,aU x.op/\aU x.im/\x.ks.length<=20/\∀q∈x.ks,aU q)/\1<=l.length/\l.length<=500)/\(aU how/\aU at_)/\∀x:Y15,PGk x->1<=x.length->K (.vslice none 0 (x).length 3 ((x).flatMap cN)) h
 |_=>False
def oH(l:Y15):=(0:Nat)+l.length
def qF(l:Y15)(g:Int):=(0:Nat)+(g% ((oH l):Int)).toNat*3+3
def sJ(l:Y15)(g:Int):=(0:Nat)+(g% ((oH l):Int)).toNat*3
def fR(l:Y15):=[]++List.flatMap cN l
def yV(l:Y15)(g:Int):=decide (0<=g% ((oH l):Int)) &&decide (g% ((oH l):Int)< ((oH l):Int))
def Ti:=(0:Nat)+1
def rT(g:Nat):=(0:Nat)+g
def Fy(j l:Int)(g:Nat):=[iI j,iI l,IV.hslice Ti 0 (rT g) 1]
def yW(l:Y15)(cs':Y14):=aP [IV.vslice none 0 (oH l) 3 cs']
def a2M:=(0:Nat)+1+1
def G3:=some IObj.dead
def a2L(g:Y14):=Heap.mk (PT.node (PT.node PT.nil (some (IObj.cells g)) PT.nil) G3 PT.nil) a2M
def yX(l:Y15)(cs':Y14):=IV.vslice none 0 (oH l) 3 cs'
def C7(l:Y15)(g:Int):=Nat.ble (qF l g) ((fR l).length)
def yY(l:Y15):=(0:Nat)+(oH l)*3
def rS(l:Y15):=(oH l)*3
def c3D(l:Y15)(g p q:Int)(h:Heap)(Q:KT)(m:Nat)(r:Y14):=aC (yV l g) (aC (C7 l g) (aC (true&&Nat.ble (yY l) ((List.take (sJ l g) (fR l)++(Fy p q m)++List.drop (qF l g) (fR l)).length)) (∀(cs':Y14)(j:Heap),FrzR (a2L r) (List.take (rS l) (List.drop 0 (List.take (sJ l g) (fR l)++(Fy p
 q m)++List.drop (qF l g) (fR l)))) cs' j->aC (yW l cs') (Q (yX l cs') h))))
def b4L:=PT.node PT.nil G3 PT.nil
def By:=Heap.mk b4L Ti
def c3E(l:Y15)(g m p:Int)(h:Heap)(Q:KT):=aC (yV l g) (aC (C7 l g) (aC (true&&Nat.ble (yY l) ((List.take (sJ l g) (fR l)++ [iI m,iI p,IV.vslice none 1 0 1 []]++List.drop (qF l g) (fR l)).length)) (∀(cs':Y14)(j:Heap),FrzR By (List.take (rS l) (List.drop 0 (List.take (sJ l g) (fR
 l)++ [iI m,iI p,IV.vslice none 1 0 1 []]++List.drop (qF l g) (fR l)))) cs' j->aC (yW l cs') (Q (yX l cs') h))))
def b4K(l:Y15)(j g:Int):=List.take (sJ l g) (fR l)++ [iI 3,iI (wW (Int.tdiv j 10)% (40:Int)),IV.nilslice]++List.drop (qF l g) (fR l)
def c3F(l:Y15)(g j:Int):=List.take (rS l) (fR l)++ [iI g,iI j,IV.vslice none 0 0 1 []]
def U5(l:Y15):=(0:Nat)+l.length+1
abbrev c3G(l:Y15):=0<wW (((oH l):Int)+2)/\wW (((oH l):Int)+2)<4611686018427387904
def d3S(g:Int):=wW (wW (Int.tdiv g 10)% (300:Int)-3)
def d3T(g:Int):=wW (wW (Int.tdiv g 10)% (36:Int)-1)
def d3U(l:Y15)(g:Int):=[iI (wW (wW (Int.tdiv g 10)%wW (((oH l):Int)+2)-1))]
def d3V(l:Y15)(g m p:Int)(j:Nat):=List.take (sJ l g) (fR l)++ [iI m,iI p,IV.hslice Ti 1 (((rT j):Int).toNat-1) 1]++List.drop (qF l g) (fR l)
def b3V(l:Y15)(g j m:Int):=List.take (sJ l g) (c3F l j m)++ [iI j,iI m,IV.vslice none 1 0 1 []]++List.drop (qF l g) (c3F l j m)
def b3W(l:Y15)(j g m:Int):=List.take (sJ l g) (fR l)++ [iI (d3T j),iI m,IV.vslice none 1 0 1 []]++List.drop (qF l g) (fR l)
def b3X(l:Y15)(j g m:Int):=List.take (sJ l g) (fR l)++ [iI m,iI (d3S j),IV.vslice none 1 0 1 []]++List.drop (qF l g) (fR l)
def Ys(g:Int)(j:Nat):=wW (Int.tdiv g 10)% ((rT j):Int)
def b3Y(l:Y15)(g m p:Int)(j:Nat):=List.take (sJ l g) (fR l)++ [iI m,iI p,IV.hslice a2M 0 ((0:Nat)+j+1) 1]++List.drop (qF l g) (fR l)
def b3Z(l:Y15)(g j m:Int):=List.take (sJ l g) (fR l)++ [iI j,iI m,IV.hslice Ti 0 1 1]++List.drop (qF l g) (fR l)
def b4A(l:Y15):=true&& (Nat.ble (rS l) ((fR l).length) &&Nat.ble ((U5 l)*40) 140737488355328)
def b4B(l:Y15)(j g p:Int)(m:Nat):=List.take (sJ l g) (fR l)++ [iI (d3T j),iI p,IV.hslice Ti 0 (rT m) 1]++List.drop (qF l g) (fR l)
def b4C(l:Y15)(j g p:Int)(m:Nat):=List.take (sJ l g) (fR l)++ [iI p,iI (d3S j),IV.hslice Ti 0 (rT m) 1]++List.drop (qF l g) (fR l)
def b4D(l:Y15)(g m p:Int)(j:Nat):=List.take (sJ l g) (List.take (rS l) (fR l)++(Fy m p j))++(Fy m p j)++List.drop (qF l g) (List.take (rS l) (fR l)++(Fy m p j))
abbrev b4E:=(0:Int)<300/\(300:Int)<4611686018427387904
abbrev b4F:=(0:Int)<10/\(10:Int)<4611686018427387904
abbrev b4G:=(0:Int)<36/\(36:Int)<4611686018427387904
abbrev b4H:=(0:Int)<40/\(40:Int)<4611686018427387904
def b4I(l:Y15)(g:Int):=decide (0<=g% ((oH l):Int)) &&decide (g% ((oH l):Int)< ((U5 l):Int))
def b4J:=(0:Nat)+1+1+1
theorem d9G(l:Y15)(j g:Int)(z:Nat)(h:Heap)(Q:KT):dF (aR a4V) env 21 cS bK bK [.vslice none z (l).length 3 ((l).flatMap cN),.int .i64 j,.int .i64 g] h Q=(
 aC (aP [IV.vslice none 0 l.length 3 (List.flatMap cN l),iI j,iI g]) (aI (Nat.beq l.length 0) (∀(cs':Y14)(m:Heap),FrzR (Heap.mk PT.nil 0) [] cs' m->aC (aP [IV.vslice none 0 0 3 cs']) (Q (.vslice none 0 0 3 cs') h)) (aC (Nat.ble ((oH l)*40) 140737488355328) (aI (((oH l):Int)==0) (aC (true&&Nat.ble (yY l) ((fR l).length)) (∀(cs':Y14)(m:Heap),FrzR By (List.take (rS l) (List.drop 0 (fR l))) cs' m->aC (yW l cs') (Q (yX l cs') h))) ((0< ((oH l):Int)/\((oH l):Int)<4611686018427387904)/\aC (yV l g) (aG .i64 (fR l) (sJ l g) fun q=>aG .i64 (fR l) ((0:Nat)+(g% ((oH l):Int)).toNat*3+1) fun r=>aZ 1 (fR l) ((0:Nat)+(g% ((oH l):Int)).toNat*3+1+1) fun(D:Y10)(A p:Nat)(y:Y14)=>aI (Nat.beq p 0) (b4F/\aI (j% (10:Int)==0) (b4G/\aC (yV l g) (aC (C7 l g) (aC (true&&Nat.ble (yY l) ((b3W l j g r).length)) (∀(cs':Y14)(m:Heap),FrzR By (List.take (rS l) (List.drop 0 (b3W l j g r))) cs' m->aC (yW l cs') (Q (yX l cs') h))))) (aI (j% (10:Int)==1) (b4E/\aC (yV l g) (aC (C7 l g) (aC (true&&Nat.ble (yY l) ((b3X l j g q).length)) (∀(cs':Y14)(m:Heap),FrzR By (List.take (rS l) (List.drop 0 (b3X l j g q))) cs' m->aC (yW l cs') (Q (yX l cs') h))))) (aI (j% (10:Int)==2) ((c3G l)/\aC (yV l g) (aC (C7 l g) (aC (true&&Nat.ble (yY l) ((b3Z l g q r).length)) (∀(cs':Y14)(m:Heap),FrzR (Heap.mk (PT.node (PT.node PT.nil (some (IObj.cells (d3U l j))) PT.nil) G3 PT.nil) a2M) (List.take (rS l) (List.drop 0 (b3Z l g q r))) cs' m->aC (yW l cs') (Q (yX l cs') h))))) (aI (j% (10:Int)==3) (c3E l g q r h Q) (aI (j% (10:Int)==4) (c3E l g q r h Q) (aI (j% (10:Int)==5) (aC (b4A l) (aC (b4I l g) (aC (Nat.ble (qF l g) ((c3F l q r).length)) (aC (true&&Nat.ble ((0:Nat)+(U5 l)*3) ((b3V l g q r).length)) (∀(cs':Y14)(m:Heap),FrzR (Heap.mk (PT.node b4L G3 PT.nil) a2M) (List.take ((U5 l)*3) (List.drop 0 (b3V l g q r))) cs' m->aC (aP [IV.vslice none 0 (U5 l) 3 cs']) (Q (.vslice none 0 (U5 l) 3 cs') h)))))) (aI (j% (10:Int)==6) (b4H/\aC (yV l g) (aC (C7 l g) (aC (true&&Nat.ble (yY l) ((b4K l j g).length)) (∀(cs':Y14)(m:Heap),FrzR By (List.take (rS l) (List.drop 0 (b4K l j g))) cs' m->aC (yW l cs') (Q (yX l cs') h))))) (c3E l g q r h Q)))))))) (aC (Nat.ble ((rT p)*8) 140737488355328) (b4F/\aI (j% (10:Int)==0) (b4G/\aC (yV l g) (aC (C7 l g) (aC (true&&Nat.ble (yY l) ((b4B l j g r p).length)) (∀(cs':Y14)(m:Heap),FrzR (a2L y) (List.take (rS l) (List.drop 0 (b4B l j g r p))) cs' m->aC (yW l cs') (Q (yX l cs') h))))) (aI (j% (10:Int)==1) (b4E/\aC (yV l g) (aC (C7 l g) (aC (true&&Nat.ble (yY l) ((b4C l j g q p).length)) (∀(cs':Y14)(m:Heap),FrzR (a2L y) (List.take (rS l) (List.drop 0 (b4C l j g q p))) cs' m->aC (yW l cs') (Q (yX l cs') h))))) (aI (j% (10:Int)==2) ((c3G l)/\aC (true&& (Nat.ble ((rT p)*1) y.length&&Nat.ble (((0:Nat)+p+1)*8) 140737488355328)) (aC (yV l g) (aC (C7 l g) (aC (true&&Nat.ble (yY l) ((b3Y l g q r p).length)) (∀(cs':Y14)(m:Heap),FrzR (Heap.mk (PT.node b4L G3 (PT.node PT.nil (some (IObj.cells (List.take ((rT p)*1) y++(d3U l j)))) PT.nil)) b4J) (List.take (rS l) (List.drop 0 (b3Y l g q r p))) cs' m->aC (yW l cs') (Q (yX l cs') h)))))) (aI (j% (10:Int)==3) (aI (decide (((rT p):Int)>0)) ((0< ((rT p):Int)/\((rT p):Int)<4611686018427387904)/\(c3G l)/\aC (decide (0<=wW (Int.tdiv j 10)% ((rT p):Int)) &&decide (wW (Int.tdiv j 10)% ((rT p):Int)< ((rT p):Int))) (aC (Nat.ble ((0:Nat)+(Ys j p).toNat*1+1) y.length) (aC (yV l g) (aC (C7 l g) (aC (true&&Nat.ble (yY l) ((List.take (sJ l g) (fR l)++(Fy q r p)++List.drop (qF l g) (fR l)).length)) (∀(cs':Y14)(m:Heap),FrzR (Heap.mk (PT.node (PT.node PT.nil (some (IObj.cells (List.take ((0:Nat)+(Ys j p).toNat*1) y++ [iI (wW (wW (Int.tdiv g 3)%wW (((oH l):Int)+2)- (1:Int)))]++List.drop ((0:Nat)+(Ys j p).toNat*1+1) y))) PT.nil) G3 PT.nil) a2M) (List.take (rS l) (List.drop 0 (List.take (sJ l g) (fR l)++(Fy q r p)++List.drop (qF l g) (fR l)))) cs' m->aC (yW l cs') (Q (yX l cs') h))))))) (c3D l g q r h Q p y)) (aI (j% (10:Int)==4) (aI (decide (((rT p):Int)>0)) (aC (true&& (decide (1<=((rT p):Int)) &&decide (((rT p):Int)<=((rT p):Int)))) (aC (yV l g) (aC (C7 l g) (aC (true&&Nat.ble (yY l) ((d3V l g q r p).length)) (∀(cs':Y14)(m:Heap),FrzR (a2L y) (List.take (rS l) (List.drop 0 (d3V l g q r p))) cs' m->aC (yW l cs') (Q (yX l cs') h)))))) (c3D l g q r h Q p y)) (aI (j% (10:Int)==5) (aC (b4A l) (aC (b4I l g) (aC (Nat.ble (qF l g) ((List.take (rS l) (fR l)++(Fy q r p)).length)) (aC (true&&Nat.ble ((0:Nat)+(U5 l)*3) ((b4D l g q r p).length)) (∀(cs':Y14)(m:Heap),FrzR (Heap.mk (PT.node (PT.node PT.nil (some (IObj.cells y)) PT.nil) G3 b4L) b4J) (List.take ((U5 l)*3) (List.drop 0 (b4D l g q r p))) cs' m->aC (aP [IV.vslice none 0 (U5 l) 3 cs']) (Q (.vslice none 0 (U5 l) 3 cs') h)))))) (aI (j% (10:Int)==6) (b4H/\aC (yV l g) (aC (C7 l g) (aC (true&&Nat.ble (yY l) ((b4K l j g).length)) (∀(cs':Y14)(m:Heap),FrzR (a2L y) (List.take (rS l) (List.drop 0 (b4K l j g))) cs' m->aC (yW l cs') (Q (yX l cs') h))))) (c3D l g q r h Q p y))))))))))))))):=by kernel_rfl
theorem d7O: ∀xs h Q,a7F xs h Q->aL env 21 xs h Q:=by
 intro xs h Q Z;unfold a7F at Z;split at Z
 ·rename_i e1 n1 c1 a4 A;obtain⟨l,⟨rfl,rfl⟩,hb,hi,Z⟩:=Z;refine aN (c0D) (d9G l a4 A e1 h Q) ?_;delta oH qF c3D c3E sJ fR yV Fy b4K c3F yW a2L yX U5 c3G d3S d3T C7 yY b4L rS Ti d3U a2M rT d3V b3V b3W b3X Ys b3Y b3Z b4A b4B b4C b4D b4E b4F b4G b4H b4I G3 By b4J wW iI;have tn: ∀x:Nat,(x:Int).toNat=x:=AK
  obtain⟨hn,b5,b6⟩:=hb;obtain⟨hh,ha⟩:=hi;have hL:(0:Int)< (l.length:Int):=JF;have c2:=EW A (b:=(l.length:Int)) JF;have c3:=EH A hL;simp only [AX,DX,CZ,AO,BC];obtain⟨k,O⟩: ∃k:Nat,A% (l.length:Int)=(k:Int):=⟨(A% (l.length:Int)).toNat,JF⟩
  simp only [O,tn];have a1:k<l.length:=JF;have fin: ∀(r:Heap)(D:Y14)(len:Nat)(y:Y15)(a b:Int)(v:IV)(ks:Y12),D.map (pX r)=y.flatMap cN->y.length=len->l.length<=len->len<=1000->(∀n∈y,aU n.op/\aU n.im/\OkK n.ks)->pX r v= .vslice none 0 ks.length 1 (ks.map (IV.int .i64))->aU a->aU b->OkK ks->
   aC (decide ((0:Int)<=(k:Int)) &&decide ((k:Int)< (len:Int))) (aC (Nat.ble (k*3+3) D.length) (aC (Nat.ble (len*3) (D.take (k*3)++ [IV.int .i64 a,IV.int .i64 b,v]++D.drop (k*3+3)).length) (∀(cs':Y14)(a0:Heap),FrzR r ((D.take (k*3)++ [IV.int .i64 a,IV.int .i64 b,v]++D.drop (k*3+3)).take (len*3)) cs' a0->aC (aP [.vslice none 0 len 3 cs']) (Q (.vslice none 0 len 3 cs') h)))):=by
   intro r D len y a b v ks hD hy b7 b9 b1 hv ia ib ik;have b3:D.length=len*3:=by
    have:=congrArg List.length hD;rw [BG,xE,hy]at this;exact this
   refine aA (by simp;omega) (aA (by rw [AS];omega) (aA (by rw [AS];simp;omega) ?_));intro cs' a0 hf;have e:cs'=(y.set k ⟨a,b,ks⟩).flatMap cN:=by
    cases hf
    rw [AM (by simp;omega),CB,CB,HI,FL,hD,<-b8D JF]
    congr 2
    show [IV.int .i64 a,IV.int .i64 b,pX r v]=_;rw [hv];rfl
   rw [e];have a9:(y.set k ⟨a,b,ks⟩).length=len:=by rw [BX,hy]
   have:=Z (y.set k ⟨a,b,ks⟩) ⟨fun n a8=>by
    rcases HQ a8 with q|q
    ·exact b1 n q
    ·rw [q];exact⟨ia,ib,ik⟩,JF⟩ JF
   rw [a9]at this;exact aA (by simp only [aP,bG,bR,AL]) this
  have a3: ∀n∈l,aU n.op/\aU n.im/\OkK n.ks:=fun n hm=>by
   have:=hn n hm;exact⟨this.1,this.2.1,JF,this.2.2.2⟩
  have g:=fun(r:Heap)(a b:Int)(v:IV)(ks:Y12)=>fin r (l.flatMap cN) l.length l a b v ks (Fv r l) rfl (AG _) JF a3
  obtain⟨z,p,a2⟩:=hn _ (AH a1);have G:OkK l[k].ks:=⟨JF,a2.2⟩;have b4:cN l[k]=[IV.int .i64 l[k].op,IV.int .i64 l[k].im,.vslice none 0 l[k].ks.length 1 (l[k].ks.map (IV.int .i64))]:=rfl;have K:=fun(r:Heap)(v u:IV)(hv:pX r v= .vslice none 0 l[k].ks.length 1 (l[k].ks.map (IV.int .i64)))(hu:pX r u= .vslice none 0 l[k].ks.length 1 (l[k].ks.map (IV.int .i64)))=>fin r ((l.flatMap cN).take (l.length*3)++ [IV.int .i64 l[k].op,IV.int .i64 l[k].im,v]) (l.length+1) (l++ [l[k]]) l[k].op l[k].im u l[k].ks (by
   rw [AM (by rw [xE];omega),CB,Fv,CG]
   congr 1
   show [IV.int .i64 _,IV.int .i64 _,pX r v]=cN l[k]++ [];rw [hv,DQ];rfl) JH JF JF (fun n hm=>by
   rcases BU.1 hm with q|q
   ·exact a3 n q
   ·rw [BN.1 q];exact⟨z,p,G⟩) hu z p G
  have R: ∀(x m:Int),0<m->0<=x%m/\x%m<m:=fun x m hm=>⟨EW x JF,EH x hm⟩
  generalize hX:IntKind.i64.wrap (Int.tdiv a4 10)=X;generalize hY:IntKind.i64.wrap (Int.tdiv A 3)=Y;have c4:=R X 36 JG;have b2:=R X 300 JG;have c5:=R X 40 JG;have b0:IntKind.i64.wrap ((l.length:Int)+2)=((l.length+2:Nat):Int):=by rw [AF _ JF];rfl
  simp only [b0];have xl:=R X ((l.length+2:Nat):Int) JF;have yl:=R Y ((l.length+2:Nat):Int) JF;have a5:aU (IntKind.i64.wrap (X%36-1)):=by rw [AF _ JF];unfold aU;omega
  have L:aU (IntKind.i64.wrap (X%300-3)):=by rw [AF _ JF];unfold aU;omega
  have a6:aU (X%40):=by unfold aU;omega
  have qx:aU 3:=by unfold aU;decide
  refine aA (by simp only [aP,bG,bR,AL]) (aB (fun c=>absurd (bL.1 c) JF) (fun _=>aA (by rw [AS];omega) (aB (fun c=>absurd (beq_iff_eq.1 c) JF) (fun _=>⟨⟨hL,JF⟩,aA (by simp;omega) (pK a1 rfl (aB (fun c0=>?_) (fun c0=>?_)))⟩))))
  ·have O:l[k].ks=[]:=CS (bL.1 c0);have v1: ∀r:Heap,pX r (.vslice none 1 0 1 [])= .vslice none 0 ([]:Y12).length 1 (([]:Y12).map (IV.int .i64)):=fun r=>rfl
   refine⟨JG,aB (fun _=>⟨JG,g _ _ _ _ [] (v1 _) a5 p Rm⟩) (fun _=>aB (fun _=>⟨JG,g _ _ _ _ [] (v1 _) z L Rm⟩) (fun _=>aB (fun _=>⟨⟨JF,JF⟩,g _ _ _ _ [IntKind.i64.wrap (X% ((l.length+2:Nat):Int)-1)] rfl z p (e2L (tK _))⟩) (fun _=>aB (fun _=>g _ _ _ _ [] (v1 _) z p Rm) (fun _=>aB (fun _=>g _ _ _ _ [] (v1 _) z p Rm) (fun _=>aB (fun _=>aA (by simp only [AD,AS,xE];omega) ?_) (fun _=>aB (fun _=>⟨JG,g _ _ _ _ [] rfl qx a6 Rm⟩) (fun _=>g _ _ _ _ [] (v1 _) z p Rm)))))))⟩;have v2: ∀(r:Heap)(e:Nat),pX r (.vslice none e 0 1 [])= .vslice none 0 l[k].ks.length 1 (l[k].ks.map (IV.int .i64)):=fun r e=>by rw [O];rfl
   exact K _ _ _ (v2 _ 0) (v2 _ 1)
  ·have h0:l[k].ks.length≠0:=fun q=>by rw [q]at c0;cases c0
   have V: ∀r:Heap,r.get 1= .cells (l[k].ks.map (IV.int .i64))->pX r (.hslice 1 0 l[k].ks.length 1)= .vslice none 0 l[k].ks.length 1 (l[k].ks.map (IV.int .i64)):=fun r hg=>Fw hg (by rw [CZ,AM JH]) rfl JH
   have kl:=G;obtain⟨j,hj⟩: ∃j:Nat,X% (l[k].ks.length:Int)=(j:Int):=⟨(X% (l[k].ks.length:Int)).toNat,by have:=R X (l[k].ks.length:Int) JF;omega⟩
   have a7:j<l[k].ks.length:=by have:=R X (l[k].ks.length:Int) JF;omega
   simp only [hj,tn];refine aA (by rw [AS];omega) ⟨JG,aB (fun _=>⟨JG,g _ _ _ _ l[k].ks (V _ rfl) a5 p kl⟩) (fun _=>aB (fun _=>⟨JG,g _ _ _ _ l[k].ks (V _ rfl) z L kl⟩) (fun _=>aB (fun _=>⟨⟨JF,JF⟩,aA (by simp;omega) (g _ _ _ _ (l[k].ks++ [IntKind.i64.wrap (X% ((l.length+2:Nat):Int)-1)]) (Fw rfl ?_ JH JH) z p (e2M a2 (tK _)))⟩) (fun _=>aB (fun _=>aB (fun _=>⟨⟨JF,JF⟩,⟨JF,JF⟩,aA (by simp;omega) (aA (by rw [AS];simp;omega) (g _ _ _ _ (l[k].ks.set j (IntKind.i64.wrap (Y% ((l.length+2:Nat):Int)-1))) (Fw rfl ?_ JH (by simp;omega)) z p (e2O G (tK _))))⟩) (fun _=>g _ _ _ _ l[k].ks (V _ rfl) z p kl)) (fun _=>aB (fun _=>aB (fun _=>aA (by simp;omega) (g _ _ _ _ (l[k].ks.drop 1) (Fw rfl ?_ JH (by simp;omega)) z p (e2N G))) (fun _=>g _ _ _ _ l[k].ks (V _ rfl) z p kl)) (fun _=>aB (fun _=>aA (by simp only [AD,AS,xE];omega) (K _ _ _ (V _ rfl) (V _ rfl))) (fun _=>aB (fun _=>⟨JG,g _ _ _ _ [] rfl qx a6 Rm⟩) (fun _=>g _ _ _ _ l[k].ks (V _ rfl) z p kl)))))))⟩
   ·rw [CZ,AM JH,AM JH,CB];rfl
   ·rw [CZ,AM (by simp;omega),Go.M14.Ko a7]
   ·rw [AM JH,FL]
 ·exact Z.elim
end Go.Proofs.YthimicfahhgpcaaGreat
end
end
