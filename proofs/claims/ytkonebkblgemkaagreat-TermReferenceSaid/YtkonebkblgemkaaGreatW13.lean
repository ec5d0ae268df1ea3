/-
  Texts of this proof, one after the other.
  Conditions: none.
-/
import Derived.Test.YtkonebkblgemkaaGreatW12
set_option linter.unusedVariables false
set_option linter.unusedSimpArgs false
set_option maxRecDepth 100000
set_option maxHeartbeats 4000000
noncomputable section
variable{i j m b:Nat}{x y z u v:Int}{h g:Go.Pv.Heap}{c d l:List Go.Pv.IV}{A B C:List Go.M15.Nd}{K L:Y12}{p s t:Go.Pv.IV}{F:List Go.M10.E}{D:Go.Pv.Meta}{V W:List Go.Value}{T U:Go.TypeId}{o:Bool}{X Y:Go.Value}{G:Go.M10.BSt}{O:Go.Oper}{N:Y10}{H:Array Go.Value}
section
namespace Go.Proofs.YtkonebkblgemkaaGreat
open Go.Pv Go.M15 Go.M10
theorem G6{k:IntKind}{l:Y12}{i o:Nat}{K:Int->Prop}(h:i<l.length)(j:o=i)(g:K l[i]):aI k (l.map (IV.int k)) o K:=by
 subst j;exact cT h g
theorem Q6: ∀(r p:Y15)(g:Y12),(∀x∈r,x.op≠25/\x.op≠30/\x.op≠31)->fJ p g r=gD g r
 | [],p,g,_=>rfl
 |n::r,p,g,h=>by
  have i:=h n BJ;have e:cP p g n=N8 g n:=by
   unfold cP N8 bC
   rw [if_neg i.2.2,if_neg i.2.1,if_neg i.1]
  rw [fJ,gD,e];exact Q6 r _ _ fun x j=>h x (BX _ j)
theorem Yc(l:Y15)(h: ∀x∈l,x.op≠25/\x.op≠30/\x.op≠31):aK l=bU l:=Q6 l [] [] h
def Ns(xs:Y14)(h:Heap)(K:KT):Prop:=match xs with
 | [.int .i64 n,.int .i64 m]=>(0<m/\m<4611686018427387904)/\K (.int .i64 (n%m)) h
 |_=>False
theorem c8N(n m:Int)(h:Heap)(Q:KT):dF (aS noC) env 12 dL bS bS [.int .i64 n,.int .i64 m] h Q=(
 aD (!m==0) (aJ (decide (Int.tmod n m<0)) (Q (.int .i64 (wW (Int.tmod n m+m))) h) (Q (.int .i64 (Int.tmod n m)) h))):=by kernel_rfl
theorem c8O: ∀xs h Q,Ns xs h Q->aO env 12 xs h Q:=by
 intro xs h Q g;unfold Ns at g;split at g
 ·rename_i n m;refine aN (jR env) (c8N n m h Q) ?_;delta wW;obtain⟨j,g⟩:=g;have l:=FB n (HR m);have p:=Go.M13.oU n m j.1;refine aA (by simp;omega) (aC (fun i=>fI g ?_) (fun i=>fI g ?_))
  ·simp only [decide_eq_true_eq]at i;rw [AB _ IM];congr 1;omega
  ·simp only [decide_eq_false_iff_not]at i;congr 1;omega
 ·exact g.elim
def b0Q:=aT 12 Ns noC
theorem b8S:aP env b0Q:=aF c8O (jR env)
def Nt(xs:Y14)(h:Heap)(K:KT):Prop:=match xs with
 | [x,y]=>Tl [x,y] h K
 |_=>False
theorem c8P: ∀xs h Q,Nt xs h Q->aO env 35 xs h Q:=by
 intro xs h Q g;unfold Nt at g;split at g
 ·exact c0S _ _ _ g
 ·exact g.elim
def b0R:=aT 35 Nt b0Q
theorem b8T:aP env b0R:=aF c8P (b8S)
def Az(xs:Y14)(h:Heap)(K:KT):Prop:=match xs with
 | [x]=>W5 [x] h K
 |_=>False
theorem b8U: ∀xs h Q,Az xs h Q->aO env 36 xs h Q:=by
 intro xs h Q g;unfold Az at g;split at g
 ·exact a4F _ _ _ g
 ·exact g.elim
def Ba:=aT 36 Az b0R
theorem Hm:aP env Ba:=aF b8U (b8T)
def Nu(xs:Y14)(h:Heap)(K:KT):Prop:=match xs with
 | [.int .i64 op]=>K (.int .i64 (Ka op)) h
 |_=>False
theorem c8Q(op:Int)(h:Heap)(Q:KT):dF (aS Ba) env 82 dL bS bS [.int .i64 op] h Q=(
 aJ (op==27) (Q (.int .i64 2) h) (aJ (op==28) (Q (.int .i64 2) h) (aJ (op==29) (Q (.int .i64 2) h) (Q (.int .i64 1) h)))):=by kernel_rfl
theorem c8R: ∀xs h Q,Nu xs h Q->aO env 82 xs h Q:=by
 intro xs h Q g;unfold Nu at g;split at g
 ·rename_i op;refine aN (Hm) (c8Q op h Q) ?_
  repeat' (first|refine aA ?_ ?_|refine aC (fun _=>?_) (fun _=>?_)|refine And.intro ?_ ?_)
  all_goals first|assumption|omega| (refine fI g ?_;simp only [IV.agg.injEq,IV.tuple.injEq,IV.int.injEq,IV.bool.injEq,BS,true_and,and_true];grind [Ka])
 ·exact g.elim
def Nv:=aT 82 Nu Ba
theorem Uy:aP env Nv:=aF c8R (Hm)
def Bb(xs:Y14)(h:Heap)(K:KT):Prop:=match xs with
 | [.int .i64 op,.int .i64 k]=>K (.int .i64 (pN op k)) h
 |_=>False
theorem b8V(op k:Int)(h:Heap)(Q:KT):dF (aS Nv) env 38 dL bS bS [.int .i64 op,.int .i64 k] h Q=(
 aJ (k==0) (aJ (Ka op==2) (Q (.int .i64 2) h) (aJ (op==23) (Q (.int .i64 2) h) (aJ (op==24) (Q (.int .i64 2) h) (Q (.int .i64 1) h)))) (Q (.int .i64 1) h)):=by kernel_rfl
theorem b8W: ∀xs h Q,Bb xs h Q->aO env 38 xs h Q:=by
 intro xs h Q g;unfold Bb at g;split at g
 ·rename_i op k;refine aN (Uy) (b8V op k h Q) ?_
  repeat' (first|refine aA ?_ ?_|refine aC (fun _=>?_) (fun _=>?_)|refine And.intro ?_ ?_)
  all_goals first|assumption|omega| (refine fI g ?_;simp only [IV.agg.injEq,IV.tuple.injEq,IV.int.injEq,IV.bool.injEq,BS,true_and,and_true];grind [pN])
 ·exact g.elim
def Bc:=aT 38 Bb Nv
theorem Hn:aP env Bc:=aF b8W (Uy)
def Nw(xs:Y14)(h:Heap)(K:KT):Prop:=match xs with
 | [.ptr id 0]=>RD h id/\∀(n:Int)(h2:Heap),aR n->RD h2 id->HF id h h2->K (.int .i64 n) h2
 |_=>False
theorem c8S(id:Nat)(h:Heap)(Q:KT):dF (aS Bc) env 39 dL bS bS [.ptr id 0] h Q=(
 aE h id fun r0=>aX 1 r0 0 fun(T:Y10)(L D:Nat)(c4:Y14)=>aJ ((D:Int)==0) (Q (.int .i64 0) h) (aE h id fun K=>aX 1 K 0 fun(V:Y10)(O G:Nat)(A:Y14)=>aD (true&&decide (0< (G:Int))) (aI .i64 A 0 fun u=>aE h id fun z=>aX 1 z 0 fun(p:Y10)(l g:Nat)(j:Y14)=>aD (true&& (decide (1<=(g:Int)) &&decide ((g:Int)<=(g:Int)))) (aE h id fun i=>aD (Nat.ble 1 i.length) (Q (.int .i64 u) (h.set id (IObj.cells (IV.vslice p (l- (g- (g:Int).toNat)*1) ((g:Int).toNat-1) 1 (List.take (((g:Int).toNat-1)*1) (List.drop 1 j))::List.drop 1 i)))))))):=by kernel_rfl
theorem c8T: ∀xs h Q,Nw xs h Q->aO env 39 xs h Q:=by
 intro xs h Q g;unfold Nw at g;split at g
 ·rename_i id;refine aN (Hn) (c8S id h Q) ?_;obtain⟨⟨p,io,e,A,l,u,j⟩,g⟩:=g;refine aB j (Ww ?_);refine aC (fun c=>g 0 h (by unfold aR;omega) ⟨p,io,e,A,l,u,j⟩ HF.refl) (fun c=>aB j (Ww ?_));have z:0<l.length:=by
   simp at c;exact GW (by simpa using c)
  refine aA (by simp;omega) (cT (i:=0) z (aB j (Ww (aA (by simp;omega) (aB j (aA IP ?_))))));refine g _ _ (u _ (AG z)) ⟨p,io,e- (l.length- ((l.length:Int)).toNat)*1,A,l.drop 1,fun x D=>u x (IF D),?_⟩ HF.set;refine(aH (h:=h)).trans ?_;simp;exact AP IP
 ·exact g.elim
def b0S:=aT 39 Nw Bc
theorem b8X:aP env b0S:=aF c8T (Hn)
def Bd(xs:Y14)(h:Heap)(K:KT):Prop:=match xs with
 | [.vslice none e1 n1 3 c1]=> ∃l:Y15,(n1=l.length/\c1=l.flatMap cN)/\((∀x∈l,x.ks.length<=1000000/\x.op≠25/\x.op≠30/\x.op≠31)/\l.length<=1000000)/\K (.vslice none 0 (bU l).length 1 ((bU l).map (IV.int .i64))) h
 |_=>False
theorem b8Y: ∀xs h Q,Bd xs h Q->aO env 63 xs h Q:=by
 intro xs h Q g;unfold Bd at g;split at g
 ·rename_i u z p;obtain⟨l,⟨rfl,rfl⟩,i,g⟩:=g;rw [<-Yc l fun x j=>(i.1 x j).2]at g;exact a4Z _ _ _ ⟨l,⟨rfl,rfl⟩,⟨fun x j=>⟨(i.1 x j).1,trivial⟩,i.2⟩,g⟩
 ·exact g.elim
def Be:=aT 63 Bd b0S
theorem Ho:aP env Be:=aF b8Y (b8X)
def b8Z(l:Y15)(s n:Int):Inv':= .or
 (eY Nat (fun x=>[(0,.v (.vslice none 0 (l).length 3 ((l).flatMap cN))),(1,.v (.int .i64 s)),(2,.v (.int .i64 n)),(7,.v (.vslice none 0 (bU l).length 1 ((bU l).map (IV.int .i64)))),(8,.v .nilslice),(9,.v (.int .i64 x))]) (fun _=>[]) (fun _=>Heap.empty) (fun x=>x<=l.length/\s∈ (bU l).drop x) (fun x=>l.length-x))
 (eY (Nat×Y12×Nat×Heap) (fun x=>[(0,.v (.vslice none 0 (l).length 3 ((l).flatMap cN))),(1,.v (.int .i64 s)),(2,.v (.int .i64 n)),(7,.v (.vslice none 0 (bU l).length 1 ((bU l).map (IV.int .i64)))),(8,.v (.vslice (some x.2.2.1) x.2.1.length x.2.1.length 1 (x.2.1.map (IV.int .i64)))),(9,.v (.int .i64 x.1))]) (fun _=>[]) (fun x=>x.2.2.2)
  (fun x=>(x.1<=l.length/\0<x.2.1.length/\x.2.1.length<=x.1)/\(x.2.2.2.get x.2.2.1= .tip x.2.1.length/\x.2.2.1<x.2.2.2.next)/\∀q∈x.2.1,0<=q/\q<l.length/\(bU l).getD q.toNat 0=s) (fun x=>l.length-x.1))
def c8U(xs:Y14)(h:Heap)(K:KT):Prop:=match xs with
 | [.vslice none e1 n1 3 c1,.int .i64 s,.int .i64 n]=> ∃l:Y15,(n1=l.length/\c1=l.flatMap cN)/\((∀x∈l,x.ks.length<=1000000/\x.op≠25/\x.op≠30/\x.op≠31)/\l.length<=1000000/\s∈bU l)/\∀q:Int,(0<=q/\q<l.length/\(bU l).getD q.toNat 0=s)->K (.int .i64 q) h
 |_=>False
def zG:=IV.int .i64
def xS(l:Y15):=TV.v (.vslice none 0 ((bU l).length) 1 (List.map zG (bU l)))
def tH(l:Y15):=TV.v (.vslice none 0 l.length 3 (List.flatMap cN l))
def tJ(s:Int):=TV.v (.int .i64 s)
def tK(n:Int):=TV.v (.int .i64 n)
abbrev b0T(l:Y15)(s:Int)(g:Nat):=g<=l.length/\List.Mem s (List.drop g (bU l))
def Bf:=TV.v IV.nilslice
def b0U(g:Nat):=TV.v (.int .i64 (g:Int))
def c8V(g:Y15):=TV.v (.vslice none 0 ((bU g).length) 1 (List.map zG (bU g)))
def c8W:=PT.node PT.nil (some (IObj.tip 1)) PT.nil
def Hp(l:Y15)(n s:Int)(y0:IV)(i:Int)(j:Heap)(p:Nat):Prop:= ∃(g:Nat×Y12×Nat×Heap),some (tH l)=some (tH l)/\some (tJ s)=some (tJ s)/\some (tK n)=some (tK n)/\some (xS l)=some (xS l)/\some (TV.v (y0))=some (TV.v (.vslice (some g.2.2.1) g.2.1.length g.2.1.length 1 (List.map zG g.2.1)))/\tI (i)=tI (g.1:Int)
 /\j=g.2.2.2/\((g.1<=l.length/\0<g.2.1.length/\g.2.1.length<=g.1)/\(g.2.2.2.get g.2.2.1=IObj.tip g.2.1.length/\g.2.2.1<g.2.2.2.next)/\∀(q:Int),q∈g.2.1->0<=q/\q< (l.length:Int)/\List.getD (bU l) q.toNat 0=s)/\l.length-g.1<p
theorem d7Z(l:Y15)(s n:Int)(j:Nat)(h:Heap)(Q:KT):dF (aS Be) env 37 dL (kR 5 (b8Z l s n)) bS [.vslice none j (l).length 3 ((l).flatMap cN),.int .i64 s,.int .i64 n] h Q=(
 aD (aM [IV.vslice none 0 l.length 3 (List.flatMap cN l),iI s,iI n]) (∃(i:Y15),(l.length=i.length/\List.flatMap cN l=List.flatMap cN i)/\((∀(x:Nd),x∈i->List.length (Nd.ks x)<=1000000/\Nd.op x≠25/\Nd.op x≠30/\Nd.op x≠31)/\i.length<=1000000)/\((∃(x:Nat),some (tH l)=some (tH l)/\some (tJ s)=some (tJ s)/\some (tK n)=some (tK n)/\some (c8V i)=some (xS l)/\some Bf=some Bf/\tI 0=tI (x:Int)/\Heap.mk PT.nil 0=Heap.mk PT.nil 0/\(x<=l.length/\List.Mem s (List.drop x (bU l)))/\True) \/ ∃(x:Nat×Y12×Nat×Heap),some (tH l)=some (tH l)/\some (tJ s)=some (tJ s)/\some (tK n)=some (tK n)/\some (c8V i)=some (xS l)/\some Bf=some (TV.v (.vslice (some x.2.2.1) x.2.1.length x.2.1.length 1 (List.map zG x.2.1)))/\tI 0=tI (x.1:Int)/\Heap.mk PT.nil 0=x.2.2.2/\((x.1<=l.length/\0<x.2.1.length/\x.2.1.length<=x.1)/\(x.2.2.2.get (x.2.2.1)=IObj.tip x.2.1.length/\x.2.2.1<x.2.2.2.next)/\∀(q:Int),q∈x.2.1->0<=q/\q< (l.length:Int)/\List.getD (bU l) q.toNat 0=s)/\True)/\(∀(x:Nat)(b:FF),x<=l.length/\s∈List.drop x (bU l)->aJ (decide ((x:Int)< (l.length:Int))) (aD (decide (0<=(x:Int)) &&decide ((x:Int)< (↑((bU l).length):Int))) (aI .i64 (List.map zG (bU l)) ((x:Int).toNat*(1:Nat)) fun p=>aJ (p==s) ((∃(g:Nat),some (tH l)=some (tH l)/\some (tJ s)=some (tJ s)/\some (tK n)=some (tK n)/\some (xS l)=some (xS l)/\some (TV.v (.vslice (some (0:Nat)) 1 1 1 [iI (x:Int)]))=some Bf/\tI (wW ((x:Int)+1))=some (b0U g)/\Heap.mk c8W ((0:Nat)+1)=Heap.mk PT.nil 0/\(b0T l s g)/\l.length-g<l.length-x) \/Hp l n s (IV.vslice (some (0:Nat)) 1 1 1 [iI (x:Int)]) (wW ((x:Int)+1)) (Heap.mk c8W ((0:Nat)+1)) (l.length-x)) ((∃(g:Nat),some (tH l)=some (tH l)/\some (tJ s)=some (tJ s)/\some (tK n)=some (tK n)/\some (xS l)=some (xS l)/\some Bf=some Bf/\tI (wW ((x:Int)+1))=some (b0U g)/\Heap.mk PT.nil 0=Heap.mk PT.nil 0/\(b0T l s g)/\l.length-g<l.length-x) \/Hp l n s IV.nilslice (wW ((x:Int)+1)) (Heap.mk PT.nil 0) (l.length-x)))) (((0:Int)<0/\(0:Int)<4611686018427387904)/\False))/\∀(x:Nat×Y12×Nat×Heap)(b:FF),((x.1<=l.length/\0<x.2.1.length/\x.2.1.length<=x.1)/\(x.2.2.2.get x.2.2.1=IObj.tip x.2.1.length/\x.2.2.1<x.2.2.2.next)/\∀(q:Int),q∈x.2.1->0<=q/\q< (l.length:Int)/\List.getD (bU l) q.toNat 0=s)->aJ (decide ((x.1:Int)< (l.length:Int))) (aD (decide (0<=(x.1:Int)) &&decide ((x.1:Int)< (↑((bU l).length):Int))) (aI .i64 (List.map zG (bU l)) ((x.1:Int).toNat*1) fun u=>aJ (u==s) (cK x.2.2.2 x.2.2.1 fun(m2:Nat)=>aD (Nat.beq m2 x.2.1.length&&Nat.ble ((x.2.1.length+1)*8) 140737488355328) ((∃(g:Nat),some (tH l)=some (tH l)/\some (tJ s)=some (tJ s)/\some (tK n)=some (tK n)/\some (xS l)=some (xS l)/\some (TV.v (.vslice (some x.2.2.1) (x.2.1.length+1) (x.2.1.length+1) 1 (List.map zG x.2.1++ [iI (x.1:Int)])))=some Bf/\tI (wW ((x.1:Int)+1))=some (b0U g)/\Heap.set x.2.2.2 (((x.2).2).1) (IObj.tip (x.2.1.length+1))=Heap.mk PT.nil 0/\(b0T l s g)/\l.length-g<l.length-x.1) \/Hp l n s (IV.vslice (some x.2.2.1) (x.2.1.length+1) ((x.2.1).length+1) 1 (List.map zG x.2.1++ [iI (x.1:Int)])) (wW ((x.1:Int)+1)) (x.2.2.2.set x.2.2.1 (IObj.tip (((x.2).1).length+1))) (l.length-x.1))) ((∃(g:Nat),some (tH l)=some (tH l)/\some (tJ s)=some (tJ s)/\some (tK n)=some (tK n)/\some (xS l)=some (xS l)/\some (TV.v (.vslice (some x.2.2.1) x.2.1.length (x.2.1.length) 1 (List.map zG x.2.1)))=some Bf/\tI (wW ((x.1:Int)+1))=some (b0U g)/\x.2.2.2=Heap.mk PT.nil 0/\(b0T l s g)/\l.length-g<l.length-x.1) \/Hp l n s (IV.vslice (some x.2.2.1) x.2.1.length x.2.1.length 1 (List.map zG x.2.1)) (wW ((x.1:Int)+1)) (x.2.2.2) (l.length-x.1)))) ((0< (x.2.1.length:Int)/\(x.2.1.length:Int)<4611686018427387904)/\aD (decide (0<=wW (wW ((↑((x.2.1).length):Int)-1)-n% (x.2.1.length:Int))) &&decide (wW (wW ((x.2.1.length:Int)-1)-n% (x.2.1.length:Int))< (↑(((x.2).1).length):Int))) (aI .i64 (List.map zG x.2.1) ((wW (wW ((x.2.1.length:Int)-1)-n% (x.2.1.length:Int))).toNat*1) fun z=>Q (.int .i64 z) h)))):=by kernel_rfl
theorem d8A: ∀xs h Q,c8U xs h Q->aO env 37 xs h Q:=by
 intro xs h Q A;unfold c8U at A;split at A
 ·rename_i Y n1 u s n;obtain⟨l,⟨rfl,rfl⟩,Z,A⟩:=A;refine aN (Ho) (d7Z l s n Y h Q) ?_;delta Hp xS tH tJ tK zG b0T Bf b0U c8V c8W tI wW iI;have K: ∀x:Nat,(x:Int).toNat=x:=AE
  obtain⟨O,T,hs⟩:=Z;have a2:(bU l).length=l.length:=C2 l;have G: ∀{i:Nat}(h:i< (bU l).length),(bU l).getD i 0=(bU l)[i]:=fun h=>by rw [AN,AA h];rfl
  refine aA (by simp only [aM,bI,cI,AT]) ⟨l,⟨rfl,rfl⟩,⟨O,T⟩,.inl ⟨0,IR,IR,IR,IR,IR,IR,IR,⟨AR _,hs⟩,trivial⟩,?_,?_⟩
  ·rintro i _ ⟨hi,hd⟩
   try dsimp only at hi hd⊢
   refine aC (fun c=>?_) (fun c=>?_)
   ·rw [decide_eq_true_eq]at c;have j:i< (bU l).length:=IM;refine aA (by simp;omega) (G6 j (by rw [AO,K]) (aC (fun u=> .inr ⟨(i+1,[(i:Int)],0,_),IR,IR,IR,IR,IR,(by rw [AB _ IM];rfl),IR,⟨⟨IS,Nat.one_pos,by dsimp only [List.length_cons,List.length_nil];omega⟩,⟨rfl,Nat.one_pos⟩,fun q D=>?_⟩,IS⟩) (fun u=> .inl ⟨i+1,IR,IR,IR,IR,IR,(by rw [AB _ IM];rfl),IR,⟨IM,?_⟩,IM⟩)))
    ·rw [BO.1 D,K,G j,beq_iff_eq.1 u];omega
    ·rw [List.drop_eq_getElem_cons j]at hd;rcases BQ.1 hd with q|q
     ·rw [beq_eq_false_iff_ne]at u;exact absurd q.symm u
     ·exact q
   ·rw [decide_eq_false_iff_not]at c;rw [List.drop_eq_nil_of_le IM]at hd
    cases hd
  ·rintro⟨i,a,X,g⟩ _ ⟨⟨hi,ha,L⟩,⟨V,z⟩,D⟩;dsimp only at hi ha L V z D⊢;refine aC (fun c=>?_) (fun c=>?_)
   ·rw [decide_eq_true_eq]at c;have j:i< (bU l).length:=IM;refine aA (by simp;omega) (G6 j (by rw [AO,K]) (aC (fun u=>aV V (aA (by simp only [AO,AF,bK,AM,true_and];omega) (.inr ⟨(i+1,a++ [(i:Int)],X,g.set X (.tip (a.length+1))),IR,IR,IR,IR,IP,(by rw [AB _ IM];rfl),IR,⟨⟨IS,IP,by simp;omega⟩,⟨by rw [aH];simp,z⟩,fun q p=>?_⟩,IS⟩))) (fun u=> .inr ⟨(i+1,a,X,g),IR,IR,IR,IR,IR,(by rw [AB _ IM];rfl),IR,⟨⟨IS,ha,IS⟩,⟨V,z⟩,D⟩,IS⟩)));rcases CB.1 p with p|p
    ·exact D q p
    ·rw [BO.1 p,K,G j,beq_iff_eq.1 u];omega
   ·have a0:=CM n (show(a.length:Int)≠0 by omega);have a1:=CI n (show(0:Int)<a.length by omega);have w1:IntKind.i64.wrap ((a.length:Int)-1)=(a.length:Int)-1:=AB _ IM;rw [w1];have w2:IntKind.i64.wrap ((a.length:Int)-1-n% (a.length:Int))=(a.length:Int)-1-n% (a.length:Int):=AB _ IM;rw [w2];have j:((a.length:Int)-1-n% (a.length:Int)).toNat<a.length:=IM;exact⟨⟨IM,IM⟩,aA (by simp;omega) (G6 j (AO _) (A _ (D _ (AG j))))⟩
 ·exact A.elim
def d4I:=aT 37 c8U Be
theorem d4J:aP env d4I:=aF d8A (Ho)
def G7(xs:Y14)(h:Heap)(K:KT):Prop:=match xs with
 | [x,y]=>vL [x,y] h K
 |_=>False
theorem b0V: ∀xs h Q,G7 xs h Q->aO env 50 xs h Q:=by
 intro xs h Q g;unfold G7 at g;split at g
 ·exact Y9 _ _ _ g
 ·exact g.elim
def G8:=aT 50 G7 d4I
theorem Q7:aP env G8:=aF b0V (d4J)
def b9A(l:Y15)(op im:Int)(ks:Y12):Inv':=eY Nat (fun x=>[(0,.v (.vslice none 0 (l).length 3 ((l).flatMap cN))),(3,.l 3 0),(5,.v (.int .i64 x))]) (fun _=>[(3,[.int .i64 op,.int .i64 im,.vslice none 0 ks.length 1 (ks.map (IV.int .i64))])]) (fun _=>Heap.empty) (fun x=>x<=l.length/\∀j,j<x-> ∀q,l[j]?=some q->(⟨op,im,ks⟩:Nd)≠q) (fun x=>l.length-x)
def Nx(xs:Y14)(h:Heap)(K:KT):Prop:=match xs with
 | [.vslice none e0 n0 3 c0,.agg [.int .i64 op,.int .i64 im,.vslice none e1 n1 1 c1]]=> ∃(l:Y15)(ks:Y12),(n0=l.length/\c0=l.flatMap cN)/\(n1=ks.length/\c1=ks.map (IV.int .i64))/\(l.length<=1000000/\∀x∈l,x.ks.length<=1000000)/\K (.bool (decide ((⟨op,im,ks⟩:Nd) ∈l))) h
 |_=>False
def Yd(op im:Int)(ks:Y12):=[iI op,iI im,IV.vslice none 0 ks.length 1 (List.map (IV.int .i64) ks)]
def b0W(l:Y15):=TV.v (.vslice none 0 l.length 3 (List.flatMap cN l))
def b0X:=TV.l 3 0
theorem c8X(l:Y15)(op im:Int)(ks:Y12)(e0 z:Nat)(h:Heap)(Q:KT):dF (aS G8) env 40 dL (kR 3 (b9A l op im ks)) bS [.vslice none e0 (l).length 3 ((l).flatMap cN),.agg [.int .i64 op,.int .i64 im,.vslice none z ks.length 1 (ks.map (IV.int .i64))]] h Q=(
 aD (aM [IV.vslice none 0 l.length 3 (List.flatMap cN l),IV.agg (Yd op im ks)]) ((∃(x:Nat),some (b0W l)=some (b0W l)/\some b0X=some b0X/\tI 0=tI (x:Int)/\some (Yd op im ks)=some (Yd op im ks)/\Heap.mk PT.nil 0=Heap.mk PT.nil 0/\(x<=l.length/\∀(j:Nat),j<x-> ∀(q:Nd),l[j]?=some q->Nd.mk op im ks≠q)/\True)/\∀(x:Nat)(b:FF),(x<=l.length/\∀(j:Nat),j<x-> ∀(q:Nd),l[j]?=some q->Nd.mk op im ks≠q)->aJ (decide ((x:Int)< (l.length:Int))) (aD (decide (0<=(x:Int)) &&decide ((x:Int)< (l.length:Int))) (aI .i64 (List.flatMap cN l) ((x:Int).toNat*3) fun D=>aI .i64 (List.flatMap cN l) ((x:Int).toNat*3+1) fun G=>aX 1 (List.flatMap cN l) ((x:Int).toNat*3+1+1) fun(L:Y10)(K A:Nat)(u:Y14)=> ∃(g p:Y12),(A=g.length/\u=List.map (IV.int .i64) g)/\(ks.length=p.length/\List.map (IV.int .i64) ks=List.map (IV.int .i64) p)/\g.length<=1000000000/\aJ (decide (Nd.mk D G g=Nd.mk op im p)) (Q (.bool true) h) (∃(i:Nat),some (b0W l)=some (b0W l)/\some b0X=some b0X/\tI (wW ((x:Int)+1))=tI (i:Int)/\some (Yd op im ks)=some (Yd op im ks)/\Heap.mk PT.nil 0=Heap.mk PT.nil 0/\(i<=l.length/\∀(j:Nat),j<i-> ∀(q:Nd),l[j]?=some q->Nd.mk op im ks≠q)/\l.length-i<l.length-x))) (Q (.bool false) h))):=by kernel_rfl
theorem c8Y: ∀xs h Q,Nx xs h Q->aO env 40 xs h Q:=by
 intro xs h Q u;unfold Nx at u;split at u
 ·rename_i e0 Y X op im L Z A;obtain⟨l,ks,⟨rfl,rfl⟩,⟨rfl,rfl⟩,O,u⟩:=u;refine aN (Q7) (c8X l op im ks e0 L h Q) ?_;delta Yd b0W b0X tI wW iI;have V: ∀x:Nat,(x:Int).toNat=x:=AE
  refine aA (by simp only [aM,bI,bT,cI,AT]) ⟨⟨0,IR,IR,IR,IR,IR,⟨AR _,fun j D=>IM⟩,trivial⟩,?_⟩;rintro i _ ⟨hi,z⟩
  try dsimp only at hi z⊢
  have K: ∀x:Nd,(⟨x.op,x.im,x.ks⟩:Nd)=x:=fun x=>by cases x;rfl
  refine aC (fun c=>?_) (fun c=>?_)
  ·rw [decide_eq_true_eq]at c;have g:i<l.length:=IM;refine aA (by simp;omega) (oR g (by rw [V]) ⟨l[i].ks,ks,⟨rfl,rfl⟩,⟨rfl,rfl⟩,by have:=O.2 _ (AG g);omega,aC (fun A=>?_) (fun A=>⟨i+1,IR,IR,?_,IR,IR,⟨g,fun j D q G=>?_⟩,by(try dsimp only);omega⟩)⟩)
   ·rw [decide_eq_true_eq,K]at A;rw [decide_eq_true (A▸AG g)]at u;exact u
   ·rw [AB _ IM];rfl
   ·rcases BC j i with p|p
    ·exact z j p q G
    ·obtain rfl:j=i:=IM;rw [decide_eq_false_iff_not,K]at A;rw [AA g,AC]at G;rw [<-G];exact fun e=>A e.symm
  ·rw [decide_eq_false_iff_not]at c;rw [decide_eq_false (fun T=>?_)]at u
   ·exact u
   ·obtain⟨j,D,e⟩:=CT.1 T;exact z j IM _ (AA D) e.symm
 ·exact u.elim
def b0Y:=aT 40 Nx G8
theorem b9B:aP env b0Y:=aF c8Y (Q7)
def b9C(b:Bool)(l:Y12):Inv':=(eY ND (fun x=>[(0,.v (.vslice none 0 (l).length 1 ((l).map (IV.int .i64)))),(1,.v (.bool b)),(6,.v (.int .i64 x.i)),(5,.v (.vslice x.io x.e x.x.length 3 (x.x.flatMap cN)))]) (fun x=>[]) (fun x=>x.g) (fun x=>x.i<=14/\OV x) (fun x=>(14-x.i)*10))
def Uz(b:Bool)(l:Y12):Inv':=(eY ND (fun x=>[(0,.v (.vslice none 0 (l).length 1 ((l).map (IV.int .i64)))),(1,.v (.bool b)),(6,.v (.int .i64 x.i)),(5,.v (.vslice x.io x.e x.x.length 3 (x.x.flatMap cN))),(7,.v (.ptr x.rd 0)),(8,.l 8 0)]) (fun x=>[(8,[.int .i64 x.op,.int .i64 x.im,.nilslice])]) (fun x=>x.g) (fun x=>(x.i<14/\x.i<l.length)/\OR x/\OI x.op x.im) (fun x=>(14-x.i)*10))
def b9D(b:Bool)(l:Y12):Inv':=(eY ND (fun x=>[(0,.v (.vslice none 0 (l).length 1 ((l).map (IV.int .i64)))),(1,.v (.bool b)),(6,.v (.int .i64 x.i)),(5,.v (.vslice x.io x.e x.x.length 3 (x.x.flatMap cN))),(7,.v (.ptr x.rd 0)),(8,.l 8 0),(9,.v (.int .i64 (ar x.op))),(11,.v (.int .i64 x.ks.length))]) (fun x=>[(8,[.int .i64 x.op,.int .i64 x.im,x.kv])]) (fun x=>x.g) (fun x=>(x.i<14/\x.i<l.length)/\OR x/\OI x.op x.im/\KV x) (fun x=>(14-x.i)*10+(3-x.ks.length)))
def b9E(b:Bool)(l:Y12):Inv':=(eY ND (fun x=>[(0,.v (.vslice none 0 (l).length 1 ((l).map (IV.int .i64)))),(1,.v (.bool b)),(6,.v (.int .i64 x.i)),(5,.v (.vslice x.io x.e x.x.length 3 (x.x.flatMap cN))),(8,.l 8 0)]) (fun x=>[(8,[.int .i64 x.op,.int .i64 x.im,x.kv])]) (fun x=>x.g) (fun x=>(x.i<14/\x.i<l.length)/\OV x/\KV x/\OI x.op 0/\(x.ks.length:Int)=ar x.op/\((x.op≠27/\aR x.im/\(x.op=1\/x.im=0)) \/ (x.op=27/\1<=x.im/\x.im<=2))) (fun x=>(14-x.i)*10))
def b9F(b:Bool)(l:Y12):Inv':= .or (eY ND (fun x=>[(0,.v (.vslice none 0 (l).length 1 ((l).map (IV.int .i64)))),(1,.v (.bool b)),(6,.v (.int .i64 x.i)),(5,.v (.vslice x.io x.e x.x.length 3 (x.x.flatMap cN))),(8,.l 8 0)]) (fun x=>[(8,[.int .i64 x.op,.int .i64 x.im,.nilslice])]) (fun x=>x.g) (fun x=>(x.i<14/\x.i<l.length)/\OV x/\FN x.x x.op x.im []/\x.ks=[]) (fun x=>(14-x.i)*10)) (eY ND (fun x=>[(0,.v (.vslice none 0 (l).length 1 ((l).map (IV.int .i64)))),(1,.v (.bool b)),(6,.v (.int .i64 x.i)),(5,.v (.vslice x.io x.e x.x.length 3 (x.x.flatMap cN))),(8,.l 8 0)]) (fun x=>[(8,[.int .i64 x.op,.int .i64 x.im,.vslice (some x.rd) x.ks.length x.ks.length 1 (x.ks.map (IV.int .i64))])]) (fun x=>x.g) (fun x=>(x.i<14/\x.i<l.length)/\OV x/\FN x.x x.op x.im x.ks) (fun x=>(14-x.i)*10))
def Bg(xs:Y14)(h:Heap)(K:KT):Prop:=match xs with
 | [.vslice none e1 n1 1 c1,.bool b]=> ∃l:Y12,(n1=l.length/\c1=l.map (IV.int .i64))/\((∀x∈l,aR x)/\l.length<=9223372036854775807)/\∀x:Y15,NW 14 x->K (.vslice none 0 (x).length 3 ((x).flatMap cN)) h
 |_=>False
def Ny:=IV.int .i64
def tL(l:Y12):=List.map Ny l
def lN(l:Y12):=TV.v (.vslice none 0 l.length 1 (tL l))
def Nz(g:ND):=TV.v (.vslice (ND.io g) (ND.e g) ((ND.x g).length) 3 (List.flatMap cN (ND.x g)))
def tM:=TV.l 8 0
def Oa(g:ND):=TV.v (.int .i64 ((ND.i g):Int))
def lO(b:Bool):=TV.v (.bool b)
def b9G(l:Y12)(g:ND):=decide (0<=((ND.i g):Int)) &&decide (((ND.i g):Int)< (l.length:Int))
def b9H(g:ND):=IV.vslice (ND.io g) (ND.e g) ((ND.x g).length) 3 (List.flatMap cN (ND.x g))
def b9I(g:ND):=TV.v (.int .i64 (wW (((ND.i g):Int)+1)))
abbrev b9J:=(0:Int)<2/\(2:Int)<4611686018427387904
abbrev Ye(l:Y12)(g:ND):=ND.i g<14/\ND.i g<l.length
def b9K(g:ND):=[iI (ND.op g),iI (ND.im g),IV.nilslice]
def c8Z(g:Int):=[iI (wW ((4:Int)+g% (19:Int))),iI 0,IV.nilslice]
def c9A(g:ND)(i:Int):=[iI (ND.op g),iI (wW (Int.tdiv i 5)% (2:Int)),ND.kv g]
def c9B(g:ND)(i:Int):=[iI (ND.op g),iI (wW (Int.tdiv i 5)% (2:Int)),ND.kv g]
def c9C(g:Y15):=(g.length<=1000000/\∀(x:Nd),x∈g->List.length (Nd.ks x)<=1000000)
def c9D(g:ND):=TV.v (.vslice (ND.io g) (ND.e g) ((ND.x g).length) 3 (List.flatMap cN (ND.x g)))
def c9E(g:ND):=TV.v (.vslice (ND.io g) (ND.e g) ((ND.x g).length) 3 (List.flatMap cN (ND.x g)))
def c9F(g:ND):=TV.v (.vslice (ND.io g) (ND.e g) ((ND.x g).length) 3 (List.flatMap cN (ND.x g)))
def c9G(l:Y12)(g:ND):=decide (0<=((ND.i g):Int)) &&decide (((ND.i g):Int)< (l.length:Int))
def b9L(g:ND):=((ND.i g):Int).toNat*1
def c9H(g:ND):=[iI (ND.op g),iI (ND.im g),ND.kv g]
def Ob(g:ND):=(14:Nat)-ND.i g
abbrev c9I(g:Y15)(i:ND):=(ND.x i).length=g.length/\List.flatMap cN (ND.x i)=List.flatMap cN g
def b0Z(b:Bool)(l:Y12)(x j:ND):Prop:= ∃(p:ND),some (lN l)=some (lN l)/\some (lO b)=some (lO b)/\some (b9I j)=some (Oa p)/\some (TV.v (b9H j))=some (Nz p)/\ND.g j=ND.g p/\(ND.i p<=14/\OV p)/\(Ob p)*10< ((14:Nat)-ND.i x)*10
def Va(M:Nat)(b:Bool)(l:Y12)(p u z:Int)(x:ND)(y0:Y14):Prop:= ∃(j:ND),some (lN l)=some (lN l)/\some (lO b)=some (lO b)/\tI ((ND.i x):Int)=some (Oa j)/\some (TV.v (.vslice (ND.io x) (ND.e x) ((ND.x x).length) 3 (List.flatMap cN (ND.x x))))=some (Nz j)/\some (TV.v (.ptr ((ND.g x).next) 0))=some (TV.v (.ptr (ND.rd j)
 0))/\some tM=some tM/\some (y0)=some (b9K j)/\Heap.push (ND.g x) (IObj.cells [IV.vslice none 1 3 1 [iI (wW (Int.tdiv p 7)),iI (wW (Int.tdiv u 101)),iI (wW (Int.tdiv z 1009))],iI 0])=ND.g j/\((Ye l j)/\OR j/\OI (ND.op j) (ND.im j))/\(Ob j)*10
 <=M
def b1A(M:Nat)(b:Bool)(l:Y12)(j:ND)(y0:Y14):Prop:= ∃(p:ND),some (lN l)=some (lN l)/\some (lO b)=some (lO b)/\tI ((ND.i j):Int)=some (Oa p)/\some (TV.v (.vslice (ND.io j) (ND.e j) ((ND.x j).length) 3 (List.flatMap cN (ND.x j))))=some (Nz p)/\some (TV.v (.ptr (ND.rd j) 0))=some (TV.v (.ptr (ND.rd p)
 0))/\some tM=some tM/\some (y0)=some (b9K p)/\ND.g j=ND.g p/\((Ye l p)/\OR p/\OI (ND.op p) (ND.im p))/\(Ob p)*10<=M
def b1B(M:Nat)(b:Bool)(l:Y12)(p:ND)(y0:Y14):Prop:= ∃(j:ND),some (lN l)=some (lN l)/\some (lO b)=some (lO b)/\tI ((ND.i p):Int)=some (Oa j)/\some (c9D p)=some (Nz j)/\some tM=some tM/\some (y0)=some [iI (ND.op j),iI (ND.im j),ND.kv j]/\ND.g p=ND.g j/\((Ye l j)/\OV j/\KV j/\OI (ND.op j)
 (0:Int)/\(↑((ND.ks j).length):Int)=ar (ND.op j)/\(ND.op j≠27/\aR (ND.im j)/\(ND.op j=1\/ND.im j=0) \/ND.op j=27/\1<=ND.im j/\ND.im j<=2))/\(Ob j)*10<=M
def Vb(M:Nat)(b:Bool)(l:Y12)(p:ND)(y0:Y14):Prop:= ∃(j:ND),some (lN l)=some (lN l)/\some (lO b)=some (lO b)/\tI ((ND.i p):Int)=some (Oa j)/\some (c9F p)=some (Nz j)/\some tM=some tM/\some (y0)=some (b9K j)/\ND.g p=ND.g j/\((Ye l j)/\OV j/\FN (ND.x j) (ND.op j) (ND.im j) []/\ND.ks j=
 [])/\(Ob j)*10<=M
def Vc(M:Nat)(b:Bool)(l:Y12)(p:ND)(y0:Y14):Prop:= ∃(j:ND),some (lN l)=some (lN l)/\some (lO b)=some (lO b)/\tI ((ND.i p):Int)=some (Oa j)/\some (c9F p)=some (Nz j)/\some tM=some tM/\some (y0)=some [iI (ND.op j),iI (ND.im j),IV.vslice (some (ND.rd j)) ((ND.ks j).length) ((ND.ks j).length)
 1 (List.map Ny (ND.ks j))]/\ND.g p=ND.g j/\((Ye l j)/\OV j/\FN (ND.x j) (ND.op j) (ND.im j) (ND.ks j))/\(Ob j)*10<=M
theorem b9M(l:Y12)(b:Bool)(e1:Nat)(h:Heap)(Q:KT):dF (aS b0Y) env 11 dL (N6 4 (b9C b l) (kR 1000014 (b9D b l))) (N6 1000010 (Uz b l) (N6 1000012 (Uz b l) (N6 1000019 (b9E b l) (kR 1000021 (b9F b l))))) [.vslice none e1 (l).length 1 ((l).map (IV.int .i64)),.bool b] h Q=(
 aD (aM [IV.vslice none 0 l.length 1 (tL l),IV.bool b]) ((∃(x:ND),some (lN l)=some (lN l)/\some (lO b)=some (lO b)/\tI 0=tI ((ND.i x):Int)/\some (TV.v (.vslice none 1 3 3 [iI 2,iI 0,IV.vslice none 0 0 1 [],iI 2,iI 1,IV.vslice none 0 0 1 [],iI 26,iI 0,IV.vslice none 0 0 1 []]))=some (TV.v (.vslice (ND.io x) (ND.e x) ((ND.x x).length) 3 (List.flatMap cN (ND.x x))))/\Heap.mk PT.nil 0=ND.g x/\(ND.i x<=14/\OV x)/\True)/\∀(x:ND)(b1:FF),ND.i x<=14/\OV x->aJ (decide (((ND.i x):Int)< (l.length:Int))) (aJ (decide (((ND.i x):Int)<14)) (aD (decide (0<=((ND.i x):Int)) &&decide (((ND.i x):Int)< (l.length:Int))) (aI .i64 (tL l) (((ND.i x):Int).toNat*1) fun n0=>aD (decide (0<=((ND.i x):Int)) &&decide (((ND.i x):Int)< (l.length:Int))) (aI .i64 (tL l) (((ND.i x):Int).toNat*1) fun n1=>aD (decide (0<=((ND.i x):Int)) &&decide (((ND.i x):Int)< (l.length:Int))) (aI .i64 (tL l) (((ND.i x):Int).toNat*1) fun n2=>aD (decide (0<=((ND.i x):Int)) &&decide (((ND.i x):Int)< (l.length:Int))) (aI .i64 (tL l) (((ND.i x):Int).toNat*1) fun n3=>((0:Int)<19/\(19:Int)<4611686018427387904)/\∃(M:Nat),aJ (!b) (aD (decide (0<=((ND.i x):Int)) &&decide (((ND.i x):Int)< (l.length:Int))) (aI .i64 (tL l) (((ND.i x):Int).toNat*1) fun n4=>((0:Int)<9/\(9:Int)<4611686018427387904)/\aJ (decide (n4% (9:Int)>5)) (aD (decide (0<=((ND.i x):Int)) &&decide (((ND.i x):Int)< (l.length:Int))) (aI .i64 (tL l) (((ND.i x):Int).toNat*1) fun n5=>((0:Int)<5/\(5:Int)<4611686018427387904)/\aD (decide ((0:Int)<=wW (Int.tdiv n5 9)% (5:Int)) &&decide (wW (Int.tdiv n5 9)% (5:Int)<5)) (aI .i64 [iI 23,iI 27,iI 28,iI 29,iI 24] ((wW (Int.tdiv n5 9)% (5:Int)).toNat*1) fun n6=>Va M b l n0 n1 n2 x [iI n6,iI 0,IV.nilslice]))) (Va M b l n0 n1 n2 x (c8Z n3)))) (Va M b l n0 n1 n2 x (c8Z n3))/\∀(z:ND)(b2:FF),(ND.i z<14/\ND.i z<l.length)/\OR z/\OI (ND.op z) (ND.im z)->((14:Nat)-ND.i z)*10<=M-> ∃(M:Nat),aD (b9G l z) (aI .i64 (tL l) (b9L z) fun n7=>((0:Int)<11/\(11:Int)< (4611686018427387904:Int))/\aJ (n7% (11:Int)==0) (aD (b9G l z) (aI .i64 (tL l) (b9L z) fun n8=>aD (b9G l z) (aI .i64 (tL l) (b9L z) fun n9=>aR n9/\∀(w:Int),aR w->b1A M b l z [iI 1,iI w,IV.nilslice]))) (b1A M b l z [iI (ND.op z),iI (ND.im z),IV.nilslice]))/\∀(A:ND)(b3:FF),(ND.i A<14/\ND.i A<l.length)/\OR A/\OI (ND.op A) (ND.im A)->((14:Nat)-ND.i A)*10<=M-> ∃(M:Nat),(∃(x:ND),some (lN l)=some (lN l)/\some (lO b)=some (lO b)/\tI ((ND.i A):Int)=tI ((ND.i x):Int)/\some (TV.v (.vslice (ND.io A) (ND.e A) ((ND.x A).length) 3 (List.flatMap cN (ND.x A))))=some (TV.v (.vslice (ND.io x) (ND.e x) ((ND.x x).length) 3 (List.flatMap cN (ND.x x))))/\some (TV.v (.ptr (ND.rd A) 0))=some (TV.v (.ptr (ND.rd x) 0))/\some tM=some tM/\tI (ar (ND.op A))=tI (ar (ND.op x))/\tI 0=tI (↑((ND.ks x).length):Int)/\some [iI (ND.op A),iI (ND.im A),IV.nilslice]=some [iI (ND.op x),iI (ND.im x),ND.kv x]/\ND.g A=ND.g x/\((ND.i x<14/\ND.i x<l.length)/\OR x/\OI (ND.op x) (ND.im x)/\KV x)/\((14:Nat)-ND.i x)*10+((3:Nat)- (ND.ks x).length)<=M)/\∀(j:ND)(b4:FF),(ND.i j<14/\ND.i j<l.length)/\OR j/\OI (ND.op j) (ND.im j)/\KV j->((14:Nat)-ND.i j)*10+((3:Nat)- (ND.ks j).length)<=M->aJ (decide ((↑((ND.ks j).length):Int)<ar (ND.op j))) (RD (ND.g j) (ND.rd j)/\∀(n:Int)(h2:Heap),aR n->RD h2 (ND.rd j)->HF (ND.rd j) (ND.g j) h2-> ∃(D:Y15),((ND.x j).length=D.length/\List.flatMap cN (ND.x j)=List.flatMap cN D)/\((∀(x:Nd),x∈D->List.length (Nd.ks x)<=1000000/\Nd.op x≠25/\Nd.op x≠30/\Nd.op x≠31)/\D.length<=1000000/\List.Mem (pN (ND.op j) (↑((ND.ks j).length):Int)) (bU D))/\∀(q:Int),(0:Int)<=q/\q< (D.length:Int)/\List.getD (bU D) q.toNat 0=pN (ND.op j) (↑((ND.ks j).length):Int)->nH h2 1 8 j.8 1 [iI q] fun(a4 Y a7:Nat)(T:Y14)(a1:Heap)=> ∃(x:ND),some (lN l)=some (lN l)/\some (lO b)=some (lO b)/\tI ((ND.i j):Int)=tI ((ND.i x):Int)/\some (c9D j)=some (TV.v (.vslice (ND.io x) (ND.e x) ((ND.x x).length) 3 (List.flatMap cN (ND.x x))))/\some (TV.v (.ptr (ND.rd j) 0))=some (TV.v (.ptr (ND.rd x) 0))/\some tM=some tM/\tI (ar (ND.op j))=tI (ar (ND.op x))/\tI (wW ((↑((ND.ks j).length):Int)+1))=some (TV.v (iI (↑((ND.ks x).length):Int)))/\some [iI (ND.op j),iI (ND.im j),IV.vslice (some a4) Y a7 1 T]=some [iI (ND.op x),iI (ND.im x),ND.kv x]/\a1=ND.g x/\((ND.i x<14/\ND.i x<l.length)/\OR x/\OI (ND.op x) (ND.im x)/\KV x)/\((14:Nat)-ND.i x)*10+((3:Nat)- (ND.ks x).length)< ((14:Nat)-ND.i j)*10+((3:Nat)- (ND.ks j).length)) (∃(M:Nat),aJ (ND.op j==27) (aD (decide (0<=((ND.i j):Int)) &&decide (((ND.i j):Int)< (l.length:Int))) (aI .i64 (tL l) (((ND.i j):Int).toNat*1) fun b0=>b9J/\b1B M b l j [iI (ND.op j),iI (wW ((1:Int)+wW (Int.tdiv b0 5)% (2:Int))),ND.kv j])) (b1B M b l j [iI (ND.op j),iI (ND.im j),ND.kv j])/\∀(u:ND)(b5:FF),(ND.i u<14/\ND.i u<l.length)/\OV u/\KV u/\OI (ND.op u) 0/\(↑((ND.ks u).length):Int)=ar (ND.op u)/\(ND.op u≠27/\aR (ND.im u)/\(ND.op u=1\/ND.im u=0) \/ND.op u=27/\1<=ND.im u/\ND.im u<=2)->((14:Nat)-ND.i u)*10<=M-> ∃(M:Nat),aJ (ND.op u==23) (aD (c9G l u) (aI .i64 (tL l) (((ND.i u):Int).toNat*1) fun K=>b9J/\((Vb M b l u (c9A u K)) \/Vc M b l u (c9A u K)))) (aJ (ND.op u==28) (aD (c9G l u) (aI .i64 (tL l) (((ND.i u):Int).toNat*1) fun L=>b9J/\((Vb M b l u (c9B u L)) \/Vc M b l u (c9B u L)))) ((Vb M b l u (c9H u)) \/Vc M b l u (c9H u)))/\(∀(p:ND)(O:FF),(ND.i p<14/\ND.i p<l.length)/\OV p/\FN (ND.x p) (ND.op p) (ND.im p) []/\ND.ks p=[]->((14:Nat)-ND.i p)*10<=M-> ∃(D:Y15)(ks:Y12),(c9I D p)/\((0:Nat)=ks.length/\[]=List.map Ny ks)/\(c9C D)/\aJ (!decide (Nd.mk (ND.op p) (ND.im p) ks∈D)) (nH (ND.g p) 3 40 (b9H p) 1 [iI (ND.op p),iI (ND.im p),IV.vslice none 0 0 1 []] fun(a5 Z a8:Nat)(V:Y14)(a2:Heap)=> ∃(G:ND),some (lN l)=some (lN l)/\some (lO b)=some (lO b)/\some (b9I p)=tI ((ND.i G):Int)/\some (TV.v (.vslice (some a5) Z a8 3 V))=some (c9E G)/\a2=ND.g G/\(ND.i G<=14/\OV G)/\((14:Nat)-ND.i G)*10< ((14:Nat)-ND.i x)*10) (b0Z b l x p))/\∀(p:ND)(O:FF),(ND.i p<14/\ND.i p<l.length)/\OV p/\FN (ND.x p) (ND.op p) (ND.im p) (ND.ks p)->((14:Nat)-ND.i p)*10<=M-> ∃(D:Y15)(ks:Y12),(c9I D p)/\((ND.ks p).length=ks.length/\List.map Ny (ND.ks p)=List.map Ny ks)/\(c9C D)/\aJ (!decide (Nd.mk (ND.op p) (ND.im p) ks∈D)) (nH (ND.g p) 3 40 (b9H p) 1 [iI (ND.op p),iI (ND.im p),IV.vslice none 0 ((ND.ks p).length) 1 (List.map Ny (ND.ks p))] fun(a6 a0 a9:Nat)(X:Y14)(a3:Heap)=> ∃(G:ND),some (lN l)=some (lN l)/\some (lO b)=some (lO b)/\some (b9I p)=tI ((ND.i G):Int)/\some (TV.v (.vslice (some a6) a0 a9 3 X))=some (c9E G)/\a3=ND.g G/\(ND.i G<=14/\OV G)/\((14:Nat)-ND.i G)*10< ((14:Nat)-ND.i x)*10) (b0Z b l x p))))))) (aD (aM [IV.vslice none 0 ((ND.x x).length) 3 (List.flatMap cN (ND.x x))]) (Q (.vslice none 0 ((ND.x x).length) 3 (List.flatMap cN (ND.x x))) h))) (aD (aM [IV.vslice none 0 ((ND.x x).length) 3 (List.flatMap cN (ND.x x))]) (Q (.vslice none 0 ((ND.x x).length) 3 (List.flatMap cN (ND.x x))) h)))):=by kernel_rfl
theorem b9N: ∀xs h Q,Bg xs h Q->aO env 11 xs h Q:=by
 intro xs h Q hk;unfold Bg at hk;split at hk
 ·rename_i e1 n1 c1 b;obtain⟨l,⟨rfl,rfl⟩,hb,hk⟩:=hk;refine aN (b9B) (b9M l b e1 h Q) ?_;delta b0Z Va b1A b1B Vb Vc lN Nz tM tL Oa lO b9G b9H b9I b9J Ye b9K c8Z c9A c9B c9C c9D c9E c9F c9G Ny b9L c9H Ob c9I tI wW iI;have tn: ∀x:Nat,(x:Int).toNat=x:=AE
  obtain⟨d3,e7⟩:=hb;have Y: ∀{i:Nat}{K:Int->Prop},i<l.length->(∀n,aR n->K n)->aD (decide ((0:Int)<=(i:Int)) &&decide ((i:Int)< (l.length:Int))) (aI .i64 (l.map (IV.int .i64)) ((i:Int).toNat*1) K):=
   fun h hk=>aA (by simp;omega) (G6 h (by rw [AO,tn]) (hk _ (d3 _ (AG h))))
  refine aA (by simp only [aM,bI,bT,AT]) ⟨⟨⟨0,O1,none,1,0,0,[],.nilslice,0,Heap.empty⟩,?_⟩,?_⟩
  ·repeat (refine And.intro (by first|rfl|exact True.intro| (rw [AB _ IM];rfl)) ?_)
   exact⟨⟨AR _,NW.init,.inl ⟨rfl,rfl⟩⟩,trivial⟩
  rintro x _ ⟨hi,a3⟩;have fin:aD (aM [.vslice none 0 x.x.length 3 (x.x.flatMap cN)]) (Q (.vslice none 0 x.x.length 3 (x.x.flatMap cN)) h):=aA (by simp only [aM,bI,cI,AT]) (hk _ (a3.1.mono hi));refine aC (fun c=>aC (fun c2=>?_) (fun _=>fin)) (fun _=>fin);rw [decide_eq_true_eq]at c c2;have hr:x.i<14/\x.i<l.length:=IM;refine Y hr.2 (fun n0 _=>Y hr.2 (fun n1 _=>Y hr.2 (fun n2 _=>Y hr.2 (fun n3 _=>⟨IM,(14-x.i)*10,?_,?_⟩))))
  ·have w3:IntKind.i64.wrap (4+n3%19)=4+n3%19:=AB _ IM;rw [w3];have o3:qQ (4+n3%19)=true:=by unfold qQ;rw [decide_eq_true_eq];omega
   have oi: ∀op,qQ op=true->OI op 0:=fun op h=>⟨h,by unfold aR;omega,.inr rfl⟩
   refine aC (fun _=>Y hr.2 (fun n4 _=>⟨IM,aC (fun _=>Y hr.2 (fun n5 _=>⟨IM,aA (by simp;omega) ?_⟩)) (fun _=>?_)⟩)) (fun _=>?_)
   ·show aI .i64 (([23,27,28,29,24]:Y12).map (IV.int .i64)) _ _;have hl:(IntKind.i64.wrap (n5.tdiv 9)%5).toNat< ([23,27,28,29,24]:Y12).length:=by simp;omega
    have ha: ∀x∈ ([23,27,28,29,24]:Y12),qQ x=true:=IN
    exact G6 hl (AO _) ⟨⟨x.i,x.x,x.io,x.e,_,0,[],.nilslice,x.g.next,_⟩,rfl,rfl,rfl,rfl,rfl,rfl,rfl,rfl,⟨hr,OR.mk1 a3 _ _ _ _ _,oi _ (ha _ (AG hl))⟩,AJ _⟩
   ·exact⟨⟨x.i,x.x,x.io,x.e,4+n3%19,0,[],.nilslice,x.g.next,_⟩,rfl,rfl,rfl,rfl,rfl,rfl,rfl,rfl,⟨hr,OR.mk1 a3 _ _ _ _ _,oi _ o3⟩,AJ _⟩
   ·exact⟨⟨x.i,x.x,x.io,x.e,4+n3%19,0,[],.nilslice,x.g.next,_⟩,rfl,rfl,rfl,rfl,rfl,rfl,rfl,rfl,⟨hr,OR.mk1 a3 _ _ _ _ _,oi _ o3⟩,AJ _⟩
  ·rintro x1 _ ⟨a1,c8,d4⟩ d8;refine⟨(14-x1.i)*10,Y a1.2 (fun n7 _=>⟨IM,aC (fun _=>Y a1.2 (fun n8 _=>Y a1.2 (fun n9 h9=>⟨h9,fun w hw=>⟨⟨x1.i,x1.x,x1.io,x1.e,1,w,[],.nilslice,x1.rd,x1.g⟩,?_⟩⟩))) (fun _=>⟨x1,?_⟩)⟩),?_⟩
   ·repeat (refine And.intro (by first|rfl|exact True.intro| (rw [AB _ IM];rfl)) ?_)
    exact⟨⟨a1,c8,⟨rfl,hw,.inl rfl⟩⟩,AJ _⟩
   ·repeat (refine And.intro (by first|rfl|exact True.intro| (rw [AB _ IM];rfl)) ?_)
    exact⟨⟨a1,c8,d4⟩,AJ _⟩
   rintro x2 _ ⟨d5,c9,a7⟩ d9;refine⟨(14-x2.i)*10+3,⟨⟨x2.i,x2.x,x2.io,x2.e,x2.op,x2.im,[],.nilslice,x2.rd,x2.g⟩,?_⟩,?_⟩
   ·repeat (refine And.intro (by first|rfl|exact True.intro| (rw [AB _ IM];rfl)) ?_)
    exact⟨⟨d5,c9,a7,KS.nil a7.1,.inl ⟨rfl,rfl⟩⟩,AJ _⟩
   rintro A _ ⟨a4,z,L,a2,a0⟩ e2;have e8:=z.1.1.1;have e4:=d1C A.op;have e6:=a2.1;refine aC (fun c3=>?_) (fun c3=>?_)
   ·rw [decide_eq_true_eq]at c3;refine⟨z.2.1,fun n h2 hn d0 hf=>⟨A.x,⟨rfl,rfl⟩,⟨z.1.1.sorts,IM,z.1.1.has _ _⟩,fun q hq=>?_⟩⟩;have b7:(A.kv= .nilslice/\A.ks=[]) \/ ∃id,A.kv= .vslice (some id) A.ks.length A.ks.length 1 (A.ks.map (IV.int .i64))/\KH A.ks id h2:=by
     rcases a0 with q| ⟨id,q1,G,X,_⟩
     ·exact .inl q
     ·exact .inr ⟨id,q1,G.hf hf X⟩
    refine lI b7 IM (fun id h3 d2 b3 b4=>⟨⟨A.i,A.x,A.io,A.e,A.op,A.im,A.ks++ [q],.vslice (some id) (A.ks++ [q]).length (A.ks++ [q]).length 1 ((A.ks++ [q]).map (IV.int .i64)),A.rd,h3⟩,?_⟩);have c0: ∀j,A.io=some j->j≠id:=fun j hj e=>by
     subst e;rcases b4 with q|q
     ·rcases z.1.2 with G| ⟨a6,G,_,X⟩
      ·rw [G.1]at hj
       cases hj
      ·rw [G]at hj
       cases hj
       have:=X.2;have:=hf.1;omega
     ·rcases a0 with⟨G,_⟩| ⟨a6,G,_,_,X⟩
      ·rw [G]at q
       cases q
      ·rw [G]at q
       cases q
       exact X _ hj rfl
    have c7:id≠A.rd:=fun e=>by
     subst e;rcases b4 with q|q
     ·have:=d0.1;omega
     ·rcases a0 with⟨G,_⟩| ⟨a6,G,_,X,_⟩
      ·rw [G]at q
       cases q
      ·rw [G]at q
       cases q
       exact X rfl
    refine⟨rfl,rfl,rfl,rfl,rfl,rfl,rfl,?_⟩;refine⟨by rw [AB _ IM];simp,?_⟩
    repeat (refine And.intro (by first|rfl|exact True.intro| (rw [AB _ IM];rfl)) ?_)
    refine⟨⟨a4,⟨⟨z.1.1,?_⟩,d0.hf b3 c7.symm,z.2.2⟩,L,a2.snoc c3 hq,.inr ⟨id,rfl,d2,c7,c0⟩⟩,by simp only [AH,AK,AY];omega⟩;rcases z.1.2 with G| ⟨a6,G,q4,X⟩
    ·exact .inl G
    ·exact .inr ⟨a6,G,q4,(X.hf hf (z.2.2 _ G)).hf b3 (c0 _ G)⟩
   ·rw [decide_eq_false_iff_not]at c3;have b6:(A.ks.length:Int)=ar A.op:=IM;refine⟨(14-A.i)*10,aC (fun c4=>Y a4.2 (fun b1 _=>⟨IM,⟨⟨A.i,A.x,A.io,A.e,A.op,1+IntKind.i64.wrap (b1.tdiv 5)%2,A.ks,A.kv,A.rd,A.g⟩,?_⟩⟩)) (fun c4=>⟨A,?_⟩),?_⟩
    ·have w4:IntKind.i64.wrap (1+IntKind.i64.wrap (b1.tdiv 5)%2)=1+IntKind.i64.wrap (b1.tdiv 5)%2:=AB _ IM;rw [w4]
     repeat (refine And.intro (by first|rfl|exact True.intro| (rw [AB _ IM];rfl)) ?_)
     refine⟨⟨a4,z.1,⟨a2,a0⟩,⟨L.1,by unfold aR;omega,.inr rfl⟩,b6,.inr ⟨beq_iff_eq.1 c4,IS,IS⟩⟩,IS⟩
    ·repeat (refine And.intro (by first|rfl|exact True.intro| (rw [AB _ IM];rfl)) ?_)
     refine⟨⟨a4,z.1,⟨a2,a0⟩,⟨L.1,by unfold aR;omega,.inr rfl⟩,b6,.inl ⟨by simpa using c4,L.2.1,L.2.2⟩⟩,IM⟩
    rintro u _ ⟨a5,a8,⟨T,b9⟩,V,O,b5⟩ e3;have b2: ∀im,FN u.x u.op im u.ks->((∃y:ND,some (TV.v (.vslice none 0 l.length 1 (l.map (IV.int .i64))))=some (TV.v (.vslice none 0 l.length 1 (l.map (IV.int .i64))))/\some (TV.v (.bool b))=some (TV.v (.bool b))/\some (TV.v (.int .i64 (u.i:Int)))=some (TV.v (.int .i64 (y.i:Int)))/\
      some (TV.v (.vslice u.io u.e u.x.length 3 (u.x.flatMap cN)))=some (TV.v (.vslice y.io y.e y.x.length 3 (y.x.flatMap cN)))/\some (TV.l 8 0)=some (TV.l 8 0)/\some [.int .i64 u.op,.int .i64 im,u.kv]=some [.int .i64 y.op,.int .i64 y.im,IV.nilslice]/\u.g=y.g/\
      ((y.i<14/\y.i<l.length)/\OV y/\FN y.x y.op y.im []/\y.ks=[])/\(14-y.i)*10<=(14-u.i)*10) \/
     ∃y:ND,some (TV.v (.vslice none 0 l.length 1 (l.map (IV.int .i64))))=some (TV.v (.vslice none 0 l.length 1 (l.map (IV.int .i64))))/\some (TV.v (.bool b))=some (TV.v (.bool b))/\some (TV.v (.int .i64 (u.i:Int)))=some (TV.v (.int .i64 (y.i:Int)))/\
      some (TV.v (.vslice u.io u.e u.x.length 3 (u.x.flatMap cN)))=some (TV.v (.vslice y.io y.e y.x.length 3 (y.x.flatMap cN)))/\some (TV.l 8 0)=some (TV.l 8 0)/\some [.int .i64 u.op,.int .i64 im,u.kv]=some [.int .i64 y.op,.int .i64 y.im,IV.vslice (some y.rd) y.ks.length y.ks.length 1 (y.ks.map (IV.int .i64))]/\u.g=y.g/\
      ((y.i<14/\y.i<l.length)/\OV y/\FN y.x y.op y.im y.ks)/\(14-y.i)*10<=(14-u.i)*10):=fun im a9=>by
      rcases b9 with⟨q1,G⟩| ⟨id,q1,G,X,q4⟩
      ·refine .inl ⟨⟨u.i,u.x,u.io,u.e,u.op,im,[],.nilslice,u.rd,u.g⟩,?_⟩;rw [q1]
       repeat (refine And.intro (by first|rfl|exact True.intro| (rw [AB _ IM];rfl)) ?_)
       exact⟨⟨a5,a8,by rw [G]at a9;exact a9,rfl⟩,AJ _⟩
      ·refine .inr ⟨⟨u.i,u.x,u.io,u.e,u.op,im,u.ks,.nilslice,id,u.g⟩,?_⟩;rw [q1]
       repeat (refine And.intro (by first|rfl|exact True.intro| (rw [AB _ IM];rfl)) ?_)
       exact⟨⟨a5,a8,a9⟩,AJ _⟩
    refine⟨(14-u.i)*10,aC (fun c5=>Y a5.2 (fun e9 _=>⟨IM,b2 _ ?_⟩)) (fun c5=>aC (fun c6=>Y a5.2 (fun f0 _=>⟨IM,b2 _ ?_⟩)) (fun c6=>b2 _ ?_)),?_,?_⟩
    ·exact V.fn T O (.inr (.inl ⟨.inl (beq_iff_eq.1 c5),IM,IM⟩))
    ·exact V.fn T O (.inr (.inl ⟨.inr (beq_iff_eq.1 c6),IM,IM⟩))
    ·rw [beq_eq_false_iff_ne]at c5 c6;rcases b5 with⟨q1,G,X⟩| ⟨q1,G,X⟩
     ·have:OI u.op u.im:=⟨V.1,G,X⟩;exact this.fn T O (.inl ⟨c5,q1,c6,rfl⟩)
     ·exact V.fn T O (.inr (.inr ⟨q1,G,X⟩))
    ·rintro D _ ⟨d6,p,Z,e5⟩ d1;have d7:=p.1.1;refine⟨D.x,([]:Y12),⟨rfl,rfl⟩,⟨rfl,rfl⟩,⟨IM,fun n hn=>(p.1.sorts n hn).1⟩,aC (fun cm=>Re (n:=⟨D.op,D.im,([]:Y12)⟩) p.2 IM (fun id h3 b0=>⟨⟨D.i+1,D.x++ [⟨D.op,D.im,([]:Y12)⟩],some id,(D.x++ [(⟨D.op,D.im,([]:Y12)⟩:Nd)]).length*3,0,0,[],.nilslice,0,h3⟩,?_⟩)) (fun _=>⟨⟨D.i+1,D.x,D.io,D.e,0,0,[],.nilslice,0,D.g⟩,?_⟩)⟩
     ·repeat (refine And.intro (by first|rfl|exact True.intro| (rw [AB _ IM];rfl)) ?_)
      exact⟨⟨IS,p.1.app IM (by simpa using cm) Z,.inr ⟨id,rfl,rfl,b0⟩⟩,IS⟩
     ·repeat (refine And.intro (by first|rfl|exact True.intro| (rw [AB _ IM];rfl)) ?_)
      exact⟨⟨IS,p.1.mono (ED _),p.2⟩,IS⟩
    ·rintro D _ ⟨d6,p,Z⟩ d1;have d7:=p.1.1;refine⟨D.x,D.ks,⟨rfl,rfl⟩,⟨rfl,rfl⟩,⟨IM,fun n hn=>(p.1.sorts n hn).1⟩,aC (fun cm=>Re (n:=⟨D.op,D.im,D.ks⟩) p.2 IM (fun id h3 b0=>⟨⟨D.i+1,D.x++ [⟨D.op,D.im,D.ks⟩],some id,(D.x++ [(⟨D.op,D.im,D.ks⟩:Nd)]).length*3,0,0,[],.nilslice,0,h3⟩,?_⟩)) (fun _=>⟨⟨D.i+1,D.x,D.io,D.e,0,0,[],.nilslice,0,D.g⟩,?_⟩)⟩
     ·repeat (refine And.intro (by first|rfl|exact True.intro| (rw [AB _ IM];rfl)) ?_)
      exact⟨⟨IS,p.1.app IM (by simpa using cm) Z,.inr ⟨id,rfl,rfl,b0⟩⟩,IS⟩
     ·repeat (refine And.intro (by first|rfl|exact True.intro| (rw [AB _ IM];rfl)) ?_)
      exact⟨⟨IS,p.1.mono (ED _),p.2⟩,IS⟩
 ·exact hk.elim
end Go.Proofs.YtkonebkblgemkaaGreat
end
section
namespace Go.Proofs.YtkonebkblgemkaaGreat
open Go.Pv Go.M15 Go.M10 Go.M29
theorem Bh(h:Heap): ∀l:Y15,(l.flatMap cN).map (mW h)=l.flatMap cN
 | []=>rfl
 |n::r=>by
  rw [CU,DE,Bh h r];rfl
theorem Bi{h:Heap}{id g len:Nat}{cs:Y14}{ks:Y12}(j:h.get id= .cells cs)(e:(cs.drop g).take (len*1)=ks.map (IV.int .i64))(l:ks.length=len)(i:g+len*1<=cs.length):mW h (.hslice id g len 1)= .vslice none 0 ks.length 1 (ks.map (IV.int .i64)):=by
 unfold mW
 simp only [j];rw [if_pos ⟨IN,i⟩,e,l]
theorem vO: ∀l:Y15,(l.flatMap cN).length=l.length*3
 | []=>rfl
 |n::r=>by
  rw [CU,AH,vO r,AK];show 3+r.length*3=_;omega
theorem Hq: ∀(l:Y15)(k:Nat),(l.flatMap cN).take (k*3)=(l.take k).flatMap cN
 | [],k=>IP
 |n::r,0=>IP
 |n::r,k+1=>by
  rw [GK,CU,CU,<-Hq r k,show(k+1)*3=(cN n).length+k*3 from by show _=3+_;omega,List.take_length_add_append]
theorem Hr: ∀(l:Y15)(k:Nat),(l.flatMap cN).drop (k*3)=(l.drop k).flatMap cN
 | [],k=>IP
 |n::r,0=>IP
 |n::r,k+1=>by
  rw [EA,CU,<-Hr r k,show(k+1)*3=(cN n).length+k*3 from by show _=3+_;omega,List.drop_length_add_append]
theorem b9O{y:Y15}{k:Nat}(g:k<y.length)(n:Nd):(y.flatMap cN).take (k*3)++cN n++(y.flatMap cN).drop (k*3+3)=(y.set k n).flatMap cN:=by
 rw [DO,if_pos g,EF,CU,Hq,show k*3+3=(k+1)*3 by omega,Hr,DM]
def Oc(xs:Y14)(h:Heap)(K:KT):Prop:=match xs with
 | [.int .i64 n,.int .i64 m]=>(0<m/\m<4611686018427387904)/\K (.int .i64 (n%m)) h
 |_=>False
theorem c9J(n m:Int)(h:Heap)(Q:KT):dF (aS G5) env 12 dL bS bS [.int .i64 n,.int .i64 m] h Q=(
 aD (!m==0) (aJ (decide (Int.tmod n m<0)) (Q (.int .i64 (wW (Int.tmod n m+m))) h) (Q (.int .i64 (Int.tmod n m)) h))):=by kernel_rfl
theorem c9K: ∀xs h Q,Oc xs h Q->aO env 12 xs h Q:=by
 intro xs h Q g;unfold Oc at g;split at g
 ·rename_i n m;refine aN (Q5) (c9J n m h Q) ?_;delta wW;obtain⟨j,g⟩:=g;have l:=FB n (HR m);have p:=Go.M13.oU n m j.1;refine aA (by simp;omega) (aC (fun i=>fI g ?_) (fun i=>fI g ?_))
  ·simp only [decide_eq_true_eq]at i;rw [AB _ IM];congr 1;omega
  ·simp only [decide_eq_false_iff_not]at i;congr 1;omega
 ·exact g.elim
def Od:=aT 12 Oc G5
theorem Vd:aP env Od:=aF c9K (Q5)
def b1C(xs:Y14)(h:Heap)(K:KT):Prop:=match xs with
 | [.vslice none e1 n1 3 c1,.int .i64 how,.int .i64 at_]=> ∃l:Y15,(n1=l.length/\c1=l.flatMap cN)/\((∀x∈l,aR x.op/\aR x.im/\x.ks.length<=1000)/\1<=l.length/\l.length<=1000)/\(aR how/\aR at_)/\∀x:Y15,D7 x->1<=x.length->K (.vslice none 0 (x).length 3 ((x).flatMap cN)) h
 |_=>False
def lU(l:Y15):=(0:Nat)+l.length
def nY(l:Y15)(g:Int):=(0:Nat)+(g% ((lU l):Int)).toNat*3+3
def pW(l:Y15)(g:Int):=(0:Nat)+(g% ((lU l):Int)).toNat*3
def fF(l:Y15):=[]++List.flatMap cN l
def vP(l:Y15)(g:Int):=decide (0<=g% ((lU l):Int)) &&decide (g% ((lU l):Int)< ((lU l):Int))
def Oe:=(0:Nat)+1
def oY(g:Nat):=(0:Nat)+g
def Bj(i j:Int)(g:Nat):=[iI i,iI j,IV.hslice Oe 0 (oY g) 1]
def vQ(l:Y15)(cs':Y14):=aM [IV.vslice none 0 (lU l) 3 cs']
def Yf:=(0:Nat)+1+1
def yW:=some IObj.dead
def Yg(g:Y14):=Heap.mk (PT.node (PT.node PT.nil (some (IObj.cells g)) PT.nil) yW PT.nil) Yf
def vR(l:Y15)(cs':Y14):=IV.vslice none 0 (lU l) 3 cs'
def xT(l:Y15)(g:Int):=Nat.ble (nY l g) ((fF l).length)
def vS(l:Y15):=(0:Nat)+(lU l)*3
def oZ(l:Y15):=(lU l)*3
def b9P(l:Y15)(g p u:Int)(h:Heap)(Q:KT)(j:Nat)(z:Y14):=aD (vP l g) (aD (xT l g) (aD (true&&Nat.ble (vS l) ((List.take (pW l g) (fF l)++(Bj p u j)++List.drop (nY l g) (fF l)).length)) (∀(cs':Y14)(i:Heap),FrzR (Yg z) (List.take (oZ l) (List.drop 0 (List.take (pW l g) (fF l)++(Bj p
 u j)++List.drop (nY l g) (fF l)))) cs' i->aD (vQ l cs') (Q (vR l cs') h))))
def b1D:=PT.node PT.nil yW PT.nil
def Q8:=Heap.mk b1D Oe
def b9Q(l:Y15)(g j p:Int)(h:Heap)(Q:KT):=aD (vP l g) (aD (xT l g) (aD (true&&Nat.ble (vS l) ((List.take (pW l g) (fF l)++ [iI j,iI p,IV.vslice none 1 0 1 []]++List.drop (nY l g) (fF l)).length)) (∀(cs':Y14)(i:Heap),FrzR Q8 (List.take (oZ l) (List.drop 0 (List.take (pW l g) (fF
 l)++ [iI j,iI p,IV.vslice none 1 0 1 []]++List.drop (nY l g) (fF l)))) cs' i->aD (vQ l cs') (Q (vR l cs') h))))
def b1E(l:Y15)(i g:Int):=List.take (pW l g) (fF l)++ [iI 3,iI (wW (Int.tdiv i 10)% (40:Int)),IV.nilslice]++List.drop (nY l g) (fF l)
def b9R(l:Y15)(g i:Int):=List.take (oZ l) (fF l)++ [iI g,iI i,IV.vslice none 0 0 1 []]
def G9(l:Y15):=(0:Nat)+l.length+1
abbrev b9S(l:Y15):=0<wW (((lU l):Int)+2)/\wW (((lU l):Int)+2)<4611686018427387904
def c9L(g:Int):=wW (wW (Int.tdiv g 10)% (300:Int)-3)
def c9M(g:Int):=wW (wW (Int.tdiv g 10)% (36:Int)-1)
def c9N(l:Y15)(g:Int):=[iI (wW (wW (Int.tdiv g 10)%wW (((lU l):Int)+2)-1))]
def c9O(l:Y15)(g j p:Int)(i:Nat):=List.take (pW l g) (fF l)++ [iI j,iI p,IV.hslice Oe 1 (((oY i):Int).toNat-1) 1]++List.drop (nY l g) (fF l)
def b1F(l:Y15)(g i j:Int):=List.take (pW l g) (b9R l i j)++ [iI i,iI j,IV.vslice none 1 0 1 []]++List.drop (nY l g) (b9R l i j)
def b1G(l:Y15)(i g j:Int):=List.take (pW l g) (fF l)++ [iI (c9M i),iI j,IV.vslice none 1 0 1 []]++List.drop (nY l g) (fF l)
def b1H(l:Y15)(i g j:Int):=List.take (pW l g) (fF l)++ [iI j,iI (c9L i),IV.vslice none 1 0 1 []]++List.drop (nY l g) (fF l)
def Ve(g:Int)(i:Nat):=wW (Int.tdiv g 10)% ((oY i):Int)
def b1I(l:Y15)(g j p:Int)(i:Nat):=List.take (pW l g) (fF l)++ [iI j,iI p,IV.hslice Yf 0 ((0:Nat)+i+1) 1]++List.drop (nY l g) (fF l)
def b1J(l:Y15)(g i j:Int):=List.take (pW l g) (fF l)++ [iI i,iI j,IV.hslice Oe 0 1 1]++List.drop (nY l g) (fF l)
def b1K(l:Y15):=true&& (Nat.ble (oZ l) ((fF l).length) &&Nat.ble ((G9 l)*40) 140737488355328)
def b1L(l:Y15)(i g p:Int)(j:Nat):=List.take (pW l g) (fF l)++ [iI (c9M i),iI p,IV.hslice Oe 0 (oY j) 1]++List.drop (nY l g) (fF l)
def b1M(l:Y15)(i g p:Int)(j:Nat):=List.take (pW l g) (fF l)++ [iI p,iI (c9L i),IV.hslice Oe 0 (oY j) 1]++List.drop (nY l g) (fF l)
def b1N(l:Y15)(g j p:Int)(i:Nat):=List.take (pW l g) (List.take (oZ l) (fF l)++(Bj j p i))++(Bj j p i)++List.drop (nY l g) (List.take (oZ l) (fF l)++(Bj j p i))
abbrev b1O:=(0:Int)<300/\(300:Int)<4611686018427387904
abbrev b1P:=(0:Int)<10/\(10:Int)<4611686018427387904
abbrev b1Q:=(0:Int)<36/\(36:Int)<4611686018427387904
abbrev b1R:=(0:Int)<40/\(40:Int)<4611686018427387904
def b1S(l:Y15)(g:Int):=decide (0<=g% ((lU l):Int)) &&decide (g% ((lU l):Int)< ((G9 l):Int))
def b1T:=(0:Nat)+1+1+1
theorem d4K(l:Y15)(i g:Int)(D:Nat)(h:Heap)(Q:KT):dF (aS Od) env 10 dL bS bS [.vslice none D (l).length 3 ((l).flatMap cN),.int .i64 i,.int .i64 g] h Q=(
 aD (aM [IV.vslice none 0 l.length 3 (List.flatMap cN l),iI i,iI g]) (aJ (Nat.beq l.length 0) (∀(cs':Y14)(j:Heap),FrzR (Heap.mk PT.nil 0) [] cs' j->aD (aM [IV.vslice none 0 0 3 cs']) (Q (.vslice none 0 0 3 cs') h)) (aD (Nat.ble ((lU l)*40) 140737488355328) (aJ (((lU l):Int)==0) (aD (true&&Nat.ble (vS l) ((fF l).length)) (∀(cs':Y14)(j:Heap),FrzR Q8 (List.take (oZ l) (List.drop 0 (fF l))) cs' j->aD (vQ l cs') (Q (vR l cs') h))) ((0< ((lU l):Int)/\((lU l):Int)<4611686018427387904)/\aD (vP l g) (aI .i64 (fF l) (pW l g) fun u=>aI .i64 (fF l) ((0:Nat)+(g% ((lU l):Int)).toNat*3+1) fun z=>aX 1 (fF l) ((0:Nat)+(g% ((lU l):Int)).toNat*3+1+1) fun(K:Y10)(G p:Nat)(A:Y14)=>aJ (Nat.beq p 0) (b1P/\aJ (i% (10:Int)==0) (b1Q/\aD (vP l g) (aD (xT l g) (aD (true&&Nat.ble (vS l) ((b1G l i g z).length)) (∀(cs':Y14)(j:Heap),FrzR Q8 (List.take (oZ l) (List.drop 0 (b1G l i g z))) cs' j->aD (vQ l cs') (Q (vR l cs') h))))) (aJ (i% (10:Int)==1) (b1O/\aD (vP l g) (aD (xT l g) (aD (true&&Nat.ble (vS l) ((b1H l i g u).length)) (∀(cs':Y14)(j:Heap),FrzR Q8 (List.take (oZ l) (List.drop 0 (b1H l i g u))) cs' j->aD (vQ l cs') (Q (vR l cs') h))))) (aJ (i% (10:Int)==2) ((b9S l)/\aD (vP l g) (aD (xT l g) (aD (true&&Nat.ble (vS l) ((b1J l g u z).length)) (∀(cs':Y14)(j:Heap),FrzR (Heap.mk (PT.node (PT.node PT.nil (some (IObj.cells (c9N l i))) PT.nil) yW PT.nil) Yf) (List.take (oZ l) (List.drop 0 (b1J l g u z))) cs' j->aD (vQ l cs') (Q (vR l cs') h))))) (aJ (i% (10:Int)==3) (b9Q l g u z h Q) (aJ (i% (10:Int)==4) (b9Q l g u z h Q) (aJ (i% (10:Int)==5) (aD (b1K l) (aD (b1S l g) (aD (Nat.ble (nY l g) ((b9R l u z).length)) (aD (true&&Nat.ble ((0:Nat)+(G9 l)*3) ((b1F l g u z).length)) (∀(cs':Y14)(j:Heap),FrzR (Heap.mk (PT.node b1D yW PT.nil) Yf) (List.take ((G9 l)*3) (List.drop 0 (b1F l g u z))) cs' j->aD (aM [IV.vslice none 0 (G9 l) 3 cs']) (Q (.vslice none 0 (G9 l) 3 cs') h)))))) (aJ (i% (10:Int)==6) (b1R/\aD (vP l g) (aD (xT l g) (aD (true&&Nat.ble (vS l) ((b1E l i g).length)) (∀(cs':Y14)(j:Heap),FrzR Q8 (List.take (oZ l) (List.drop 0 (b1E l i g))) cs' j->aD (vQ l cs') (Q (vR l cs') h))))) (b9Q l g u z h Q)))))))) (aD (Nat.ble ((oY p)*8) 140737488355328) (b1P/\aJ (i% (10:Int)==0) (b1Q/\aD (vP l g) (aD (xT l g) (aD (true&&Nat.ble (vS l) ((b1L l i g z p).length)) (∀(cs':Y14)(j:Heap),FrzR (Yg A) (List.take (oZ l) (List.drop 0 (b1L l i g z p))) cs' j->aD (vQ l cs') (Q (vR l cs') h))))) (aJ (i% (10:Int)==1) (b1O/\aD (vP l g) (aD (xT l g) (aD (true&&Nat.ble (vS l) ((b1M l i g u p).length)) (∀(cs':Y14)(j:Heap),FrzR (Yg A) (List.take (oZ l) (List.drop 0 (b1M l i g u p))) cs' j->aD (vQ l cs') (Q (vR l cs') h))))) (aJ (i% (10:Int)==2) ((b9S l)/\aD (true&& (Nat.ble ((oY p)*1) A.length&&Nat.ble (((0:Nat)+p+1)*8) 140737488355328)) (aD (vP l g) (aD (xT l g) (aD (true&&Nat.ble (vS l) ((b1I l g u z p).length)) (∀(cs':Y14)(j:Heap),FrzR (Heap.mk (PT.node b1D yW (PT.node PT.nil (some (IObj.cells (List.take ((oY p)*1) A++(c9N l i)))) PT.nil)) b1T) (List.take (oZ l) (List.drop 0 (b1I l g u z p))) cs' j->aD (vQ l cs') (Q (vR l cs') h)))))) (aJ (i% (10:Int)==3) (aJ (decide (((oY p):Int)>0)) ((0< ((oY p):Int)/\((oY p):Int)<4611686018427387904)/\(b9S l)/\aD (decide (0<=wW (Int.tdiv i 10)% ((oY p):Int)) &&decide (wW (Int.tdiv i 10)% ((oY p):Int)< ((oY p):Int))) (aD (Nat.ble ((0:Nat)+(Ve i p).toNat*1+1) A.length) (aD (vP l g) (aD (xT l g) (aD (true&&Nat.ble (vS l) ((List.take (pW l g) (fF l)++(Bj u z p)++List.drop (nY l g) (fF l)).length)) (∀(cs':Y14)(j:Heap),FrzR (Heap.mk (PT.node (PT.node PT.nil (some (IObj.cells (List.take ((0:Nat)+(Ve i p).toNat*1) A++ [iI (wW (wW (Int.tdiv g 3)%wW (((lU l):Int)+2)- (1:Int)))]++List.drop ((0:Nat)+(Ve i p).toNat*1+1) A))) PT.nil) yW PT.nil) Yf) (List.take (oZ l) (List.drop 0 (List.take (pW l g) (fF l)++(Bj u z p)++List.drop (nY l g) (fF l)))) cs' j->aD (vQ l cs') (Q (vR l cs') h))))))) (b9P l g u z h Q p A)) (aJ (i% (10:Int)==4) (aJ (decide (((oY p):Int)>0)) (aD (true&& (decide (1<=((oY p):Int)) &&decide (((oY p):Int)<=((oY p):Int)))) (aD (vP l g) (aD (xT l g) (aD (true&&Nat.ble (vS l) ((c9O l g u z p).length)) (∀(cs':Y14)(j:Heap),FrzR (Yg A) (List.take (oZ l) (List.drop 0 (c9O l g u z p))) cs' j->aD (vQ l cs') (Q (vR l cs') h)))))) (b9P l g u z h Q p A)) (aJ (i% (10:Int)==5) (aD (b1K l) (aD (b1S l g) (aD (Nat.ble (nY l g) ((List.take (oZ l) (fF l)++(Bj u z p)).length)) (aD (true&&Nat.ble ((0:Nat)+(G9 l)*3) ((b1N l g u z p).length)) (∀(cs':Y14)(j:Heap),FrzR (Heap.mk (PT.node (PT.node PT.nil (some (IObj.cells A)) PT.nil) yW b1D) b1T) (List.take ((G9 l)*3) (List.drop 0 (b1N l g u z p))) cs' j->aD (aM [IV.vslice none 0 (G9 l) 3 cs']) (Q (.vslice none 0 (G9 l) 3 cs') h)))))) (aJ (i% (10:Int)==6) (b1R/\aD (vP l g) (aD (xT l g) (aD (true&&Nat.ble (vS l) ((b1E l i g).length)) (∀(cs':Y14)(j:Heap),FrzR (Yg A) (List.take (oZ l) (List.drop 0 (b1E l i g))) cs' j->aD (vQ l cs') (Q (vR l cs') h))))) (b9P l g u z h Q p A))))))))))))))):=by kernel_rfl
theorem d4L: ∀xs h Q,b1C xs h Q->aO env 10 xs h Q:=by
 intro xs h Q V;unfold b1C at V;split at V
 ·rename_i e1 n1 c1 a2 A;obtain⟨l,⟨rfl,rfl⟩,hb,hi,V⟩:=V;refine aN (Vd) (d4K l a2 A e1 h Q) ?_;delta lU nY b9P b9Q pW fF vP Bj b1E b9R vQ Yg vR G9 b9S c9L c9M xT vS b1D oZ Oe c9N Yf oY c9O b1F b1G b1H Ve b1I b1J b1K b1L b1M b1N b1O b1P b1Q b1R b1S yW Q8 b1T wW iI;have tn: ∀x:Nat,(x:Int).toNat=x:=AE
  obtain⟨hn,b4,b5⟩:=hb;obtain⟨hh,ha⟩:=hi;have hL:(0:Int)< (l.length:Int):=IM;have b9:=CM A (b:=(l.length:Int)) IM;have c2:=CI A hL;simp only [BT,DY,CZ,AO,BN];obtain⟨k,L⟩: ∃k:Nat,A% (l.length:Int)=(k:Int):=⟨(A% (l.length:Int)).toNat,IM⟩
  simp only [L,tn];have a0:k<l.length:=IM;have fin: ∀(p:Heap)(D:Y14)(len:Nat)(y:Y15)(a b:Int)(v:IV)(ks:Y12),D.map (mW p)=y.flatMap cN->y.length=len->l.length<=len->len<=2000->(∀n∈y,aR n.op/\aR n.im/\n.ks.length<=1000000)->mW p v= .vslice none 0 ks.length 1 (ks.map (IV.int .i64))->aR a->aR b->ks.length<=1000000->
   aD (decide ((0:Int)<=(k:Int)) &&decide ((k:Int)< (len:Int))) (aD (Nat.ble (k*3+3) D.length) (aD (Nat.ble (len*3) (D.take (k*3)++ [IV.int .i64 a,IV.int .i64 b,v]++D.drop (k*3+3)).length) (∀(cs':Y14)(Z:Heap),FrzR p ((D.take (k*3)++ [IV.int .i64 a,IV.int .i64 b,v]++D.drop (k*3+3)).take (len*3)) cs' Z->aD (aM [.vslice none 0 len 3 cs']) (Q (.vslice none 0 len 3 cs') h)))):=by
   intro p D len y a b v ks hD hy b6 b7 a9 hv ia ib ik;have b1:D.length=len*3:=by
    have:=congrArg List.length hD;rw [BF,vO,hy]at this;exact this
   refine aA (by simp;omega) (aA (by rw [AM];omega) (aA (by rw [AM];simp;omega) ?_));intro cs' Z hf;have e:cs'=(y.set k ⟨a,b,ks⟩).flatMap cN:=by
    cases hf
    rw [AP (by simp;omega),DE,DE,EQ,FE,hD,<-b9O IM]
    congr 2
    show [IV.int .i64 a,IV.int .i64 b,mW p v]=_;rw [hv];rfl
   rw [e];have a7:(y.set k ⟨a,b,ks⟩).length=len:=by rw [FK,hy]
   have:=V (y.set k ⟨a,b,ks⟩) ⟨fun n a6=>by
    rcases HI a6 with q|q
    ·exact a9 n q
    ·rw [q];exact⟨ia,ib,ik⟩,IM⟩ IM
   rw [a7]at this;exact aA (by simp only [aM,bI,cI,AT]) this
  have a1: ∀n∈l,aR n.op/\aR n.im/\n.ks.length<=1000000:=fun n hm=>by
   have:=hn n hm;exact⟨this.1,this.2.1,IM⟩
  have g:=fun(p:Heap)(a b:Int)(v:IV)(ks:Y12)=>fin p (l.flatMap cN) l.length l a b v ks (Bh p l) rfl (AJ _) IM a1
  obtain⟨z,i,b3⟩:=hn _ (AG a0);have b2:cN l[k]=[IV.int .i64 l[k].op,IV.int .i64 l[k].im,.vslice none 0 l[k].ks.length 1 (l[k].ks.map (IV.int .i64))]:=rfl;have G:=fun(p:Heap)(v u:IV)(hv:mW p v= .vslice none 0 l[k].ks.length 1 (l[k].ks.map (IV.int .i64)))(hu:mW p u= .vslice none 0 l[k].ks.length 1 (l[k].ks.map (IV.int .i64)))=>fin p ((l.flatMap cN).take (l.length*3)++ [IV.int .i64 l[k].op,IV.int .i64 l[k].im,v]) (l.length+1) (l++ [l[k]]) l[k].op l[k].im u l[k].ks (by
   rw [AP (by rw [vO];omega),DE,Bh,EF]
   congr 1
   show [IV.int .i64 _,IV.int .i64 _,mW p v]=cN l[k]++ [];rw [hv,DK];rfl) IP IM IM (fun n hm=>by
   rcases CB.1 hm with q|q
   ·exact a1 n q
   ·rw [BO.1 q];exact⟨z,i,IM⟩) hu z i IM
  have O: ∀(x m:Int),0<m->0<=x%m/\x%m<m:=fun x m hm=>⟨CM x IM,CI x hm⟩
  generalize hX:IntKind.i64.wrap (Int.tdiv a2 10)=X;generalize hY:IntKind.i64.wrap (Int.tdiv A 3)=Y;have c3:=O X 36 IN;have b0:=O X 300 IN;have c5:=O X 40 IN;have a8:IntKind.i64.wrap ((l.length:Int)+2)=((l.length+2:Nat):Int):=by rw [AB _ IM];rfl
  simp only [a8];have xl:=O X ((l.length+2:Nat):Int) IM;have yl:=O Y ((l.length+2:Nat):Int) IM;have a3:aR (IntKind.i64.wrap (X%36-1)):=by rw [AB _ IM];unfold aR;omega
  have K:aR (IntKind.i64.wrap (X%300-3)):=by rw [AB _ IM];unfold aR;omega
  have a4:aR (X%40):=by unfold aR;omega
  have qx:aR 3:=by unfold aR;decide
  refine aA (by simp only [aM,bI,cI,AT]) (aC (fun c=>absurd (bK.1 c) IM) (fun _=>aA (by rw [AM];omega) (aC (fun c=>absurd (beq_iff_eq.1 c) IM) (fun _=>⟨⟨hL,IM⟩,aA (by simp;omega) (oR a0 rfl (aC (fun c0=>?_) (fun c0=>?_)))⟩))))
  ·have L:l[k].ks=[]:=BZ (bK.1 c0);have v1: ∀p:Heap,mW p (.vslice none 1 0 1 [])= .vslice none 0 ([]:Y12).length 1 (([]:Y12).map (IV.int .i64)):=fun p=>rfl
   refine⟨IN,aC (fun _=>⟨IN,g _ _ _ _ [] (v1 _) a3 i IN⟩) (fun _=>aC (fun _=>⟨IN,g _ _ _ _ [] (v1 _) z K IN⟩) (fun _=>aC (fun _=>⟨⟨IM,IM⟩,g _ _ _ _ [IntKind.i64.wrap (X% ((l.length+2:Nat):Int)-1)] rfl z i (by show 1<=1000000;omega)⟩) (fun _=>aC (fun _=>g _ _ _ _ [] (v1 _) z i IN) (fun _=>aC (fun _=>g _ _ _ _ [] (v1 _) z i IN) (fun _=>aC (fun _=>aA (by simp only [AF,AM,vO];omega) ?_) (fun _=>aC (fun _=>⟨IN,g _ _ _ _ [] rfl qx a4 IN⟩) (fun _=>g _ _ _ _ [] (v1 _) z i IN)))))))⟩;have v2: ∀(p:Heap)(e:Nat),mW p (.vslice none e 0 1 [])= .vslice none 0 l[k].ks.length 1 (l[k].ks.map (IV.int .i64)):=fun p e=>by rw [L];rfl
   exact G _ _ _ (v2 _ 0) (v2 _ 1)
  ·have h0:l[k].ks.length≠0:=fun q=>by rw [q]at c0;cases c0
   have T: ∀p:Heap,p.get 1= .cells (l[k].ks.map (IV.int .i64))->mW p (.hslice 1 0 l[k].ks.length 1)= .vslice none 0 l[k].ks.length 1 (l[k].ks.map (IV.int .i64)):=fun p hg=>Bi hg (by rw [CZ,AP IP]) rfl IP
   have kl:l[k].ks.length<=1000000:=IM;obtain⟨j,hj⟩: ∃j:Nat,X% (l[k].ks.length:Int)=(j:Int):=⟨(X% (l[k].ks.length:Int)).toNat,by have:=O X (l[k].ks.length:Int) IM;omega⟩
   have a5:j<l[k].ks.length:=by have:=O X (l[k].ks.length:Int) IM;omega
   simp only [hj,tn];refine aA (by rw [AM];omega) ⟨IN,aC (fun _=>⟨IN,g _ _ _ _ l[k].ks (T _ rfl) a3 i kl⟩) (fun _=>aC (fun _=>⟨IN,g _ _ _ _ l[k].ks (T _ rfl) z K kl⟩) (fun _=>aC (fun _=>⟨⟨IM,IM⟩,aA (by simp;omega) (g _ _ _ _ (l[k].ks++ [IntKind.i64.wrap (X% ((l.length+2:Nat):Int)-1)]) (Bi rfl ?_ IP IP) z i (by simp;omega))⟩) (fun _=>aC (fun _=>aC (fun _=>⟨⟨IM,IM⟩,⟨IM,IM⟩,aA (by simp;omega) (aA (by rw [AM];simp;omega) (g _ _ _ _ (l[k].ks.set j (IntKind.i64.wrap (Y% ((l.length+2:Nat):Int)-1))) (Bi rfl ?_ IP (by simp;omega)) z i (by simp;omega)))⟩) (fun _=>g _ _ _ _ l[k].ks (T _ rfl) z i kl)) (fun _=>aC (fun _=>aC (fun _=>aA (by simp;omega) (g _ _ _ _ (l[k].ks.drop 1) (Bi rfl ?_ IP (by simp;omega)) z i (by simp;omega))) (fun _=>g _ _ _ _ l[k].ks (T _ rfl) z i kl)) (fun _=>aC (fun _=>aA (by simp only [AF,AM,vO];omega) (G _ _ _ (T _ rfl) (T _ rfl))) (fun _=>aC (fun _=>⟨IN,g _ _ _ _ [] rfl qx a4 IN⟩) (fun _=>g _ _ _ _ l[k].ks (T _ rfl) z i kl)))))))⟩
   ·rw [CZ,AP IP,AP IP,DE];rfl
   ·rw [CZ,AP (by simp;omega),a1P a5]
   ·rw [AP IP,FE]
 ·exact V.elim
def b1U:=aT 10 b1C Od
theorem b1V:aP env b1U:=aF d4L (Vd)
def c9P(l m:Y15):Inv':=eY Nat (fun i=>[(0,.v (.vslice none 0 (l).length 3 ((l).flatMap cN))),(1,.v (.vslice none 0 (m).length 3 ((m).flatMap cN))),(5,.v (.int .i64 i))]) (fun _=>[]) (fun _=>Heap.empty)
 (fun i=>(l.length=m.length/\i<=l.length)/\∀j,j<i->l[j]?=m[j]?) (fun i=>l.length-i)
def xU(xs:Y14)(h:Heap)(K:KT):Prop:=match xs with
 | [.vslice none e1 n1 3 c1,.vslice none e2 n2 3 c2]=> ∃l m:Y15,(n1=l.length/\c1=l.flatMap cN)/\(n2=m.length/\c2=m.flatMap cN)/\((∀x∈l,x.ks.length<=1000000000)/\l.length<=1000000000)/\K (.bool (decide (l=m))) h
 |_=>False
def b1W(l:Y15):=TV.v (.vslice none 0 l.length 3 (List.flatMap cN l))
def b1X(m:Y15):=TV.v (.vslice none 0 m.length 3 (List.flatMap cN m))
def c9Q(l m:Y15)(x:Nat):=((l.length=m.length/\x<=l.length)/\∀(j:Nat),j<x->l[j]?=m[j]?)
def c9R(x:Nat):=(x:Int).toNat*3+1+1
theorem Yh(l m:Y15)(A D:Nat)(h:Heap)(Q:KT):dF (aS b1U) env 18 dL (kR 5 (c9P l m)) bS [.vslice none A (l).length 3 ((l).flatMap cN),.vslice none D (m).length 3 ((m).flatMap cN)] h Q=(
 aD (aM [IV.vslice none 0 l.length 3 (List.flatMap cN l),IV.vslice none 0 m.length 3 (List.flatMap cN m)]) (aJ ((l.length:Int) !=(m.length:Int)) (Q (.bool false) h) ((∃(x:Nat),some (b1W l)=some (b1W l)/\some (b1X m)=some (b1X m)/\tI 0=tI (x:Int)/\Heap.mk PT.nil 0=Heap.mk PT.nil 0/\(c9Q l m x)/\True)/\∀(x:Nat)(b:FF),(c9Q l m x)->aJ (decide ((x:Int)< (l.length:Int))) (aD (decide ((0:Int)<=(x:Int)) &&decide ((x:Int)< (l.length:Int))) (aI .i64 (List.flatMap cN l) ((x:Int).toNat*3) fun K=>aI .i64 (List.flatMap cN l) ((x:Int).toNat*3+1) fun L=>aX 1 (List.flatMap cN l) (c9R x) fun(Y:Y10)(V G:Nat)(z:Y14)=>aD (decide (0<=(x:Int)) &&decide ((x:Int)< (m.length:Int))) (aI .i64 (List.flatMap cN m) ((x:Int).toNat*3) fun O=>aI .i64 (List.flatMap cN m) ((x:Int).toNat*(3:Nat)+1) fun T=>aX 1 (List.flatMap cN m) (c9R x) fun(Z:Y10)(X u:Nat)(p:Y14)=> ∃(ks i:Y12),(G=ks.length/\z=List.map (IV.int .i64) ks)/\(u=i.length/\p=List.map (IV.int .i64) i)/\ks.length<=1000000000/\aJ (!decide (Nd.mk K L ks=Nd.mk O T i)) (Q (.bool false) h) (∃(g:Nat),some (b1W l)=some (b1W l)/\some (b1X m)=some (b1X m)/\tI (wW ((x:Int)+1))=tI (g:Int)/\Heap.mk PT.nil 0=Heap.mk PT.nil 0/\((l.length=m.length/\g<=l.length)/\∀(j:Nat),j<g->l[j]?=m[j]?)/\l.length-g<l.length-x)))) (Q (.bool true) h)))):=by kernel_rfl
theorem Yi: ∀xs h Q,xU xs h Q->aO env 18 xs h Q:=by
 intro xs h Q g;unfold xU at g;split at g
 ·rename_i G Z z K n2 Y;obtain⟨l,m,⟨rfl,rfl⟩,⟨rfl,rfl⟩,L,g⟩:=g;refine aN (b1V) (Yh l m G K h Q) ?_;delta b1W b1X c9Q c9R tI wW;have X: ∀x:Nat,(x:Int).toNat=x:=AE
  refine aA (by simp only [aM,bI,cI,AT]) (aC (fun c=>?_) (fun c=>?_))
  ·rw [decide_eq_false (fun e=>by subst e;simp at c)]at g;exact g
  rw [bne_eq_false_iff_eq]at c;have D:l.length=m.length:=IM;have V:l≠m->Q (.bool false) h:=fun e=>by
   rw [decide_eq_false e]at g;exact g
  refine⟨⟨0,rfl,rfl,rfl,rfl,⟨⟨D,AR _⟩,fun j O=>IM⟩,trivial⟩,?_⟩;rintro i _ ⟨⟨T,hi⟩,ha⟩
  try dsimp only at hi ha⊢
  refine aC (fun c=>?_) (fun c=>?_)
  ·rw [decide_eq_true_eq]at c;have p:i<l.length:=IM;have u:i<m.length:=IM;simp only [X];have A: ∀x:Nd,(⟨x.op,x.im,x.ks⟩:Nd)=x:=fun x=>by cases x;rfl
   refine aA (by simp;omega) (oR p rfl (aA (by simp;omega) (oR u rfl ⟨l[i].ks,m[i].ks,⟨rfl,rfl⟩,⟨rfl,rfl⟩,L.1 _ (AG p),aC (fun z=>V (fun e=>?_)) (fun z=>⟨i+1,IR,IR,?_,IR,⟨⟨D,p⟩,fun j O=>?_⟩,by(try dsimp only);omega⟩)⟩)))
   ·subst e;simp at z
   ·rw [AB _ IM];rfl
   ·rcases BC j i with q|q
    ·exact ha j q
    ·obtain rfl:j=i:=IM;rw [CV,decide_eq_true_eq,A,A]at z;rw [AA p,AA u,z]
  ·rw [decide_eq_false_iff_not]at c;have e:l=m:=DL fun j=>by
    rcases BC j i with q|q
    ·exact ha j q
    ·rw [BG IM,BG IM]
   rw [decide_eq_true e]at g;exact g
 ·exact g.elim
def Q9:=aT 18 xU b1U
theorem Of:aP env Q9:=aF Yi (b1V)
def Bk(xs:Y14)(h:Heap)(K:KT):Prop:=match xs with
 | [x,y]=>Bg [x,y] h K
 |_=>False
theorem b9T: ∀xs h Q,Bk xs h Q->aO env 11 xs h Q:=by
 intro xs h Q g;unfold Bk at g;split at g
 ·exact b9N _ _ _ g
 ·exact g.elim
def Bl:=aT 11 Bk Q9
theorem Hs:aP env Bl:=aF b9T (Of)
def d4M:List (Y11):=[[40,97,100,100,32],[40,108,111,97,100,46,48,32],[40,110,101,101,100,46,49,32],[40,115,101,108,32],[40,108,111,111,112,46,50,32],[40,102,105,110,46,48,32],[40,102,105,110,46,49,32],[40,99,97,108,108,46,48,32],[40,111,117,116,32],[40,110,101,103,32],[40,114,101,116,32],[112,48],[112,49],[112,54],[118,50,46,48],[118,50,46,49],[118,49,46,49,54],[115,116,97,114,116],[55],[45,51],[48,55],[41],[41],[41],[32],[32],[40],[40,115,116,97,114,116,41],[40,110,101,101,100,46,48,32],[120],[40,115,116,111,114,101,46,57,32]]
theorem b1Y: ∀s∈d4M,s.length<=9:=IN
def d4N(cs:Y14):Prop:=cs.length=31/\∀v∈cs,∃s:Y11,v= .str s/\s.length<=9
def pcI(l:Y12):Inv':=eY (Nat×Y14×Y11) (fun x=>[(0,.v (.vslice none 0 (l).length 1 ((l).map (IV.int .i64)))),(3,.v (.vslice none 1 31 1 x.2.1)),(4,.v (.str x.2.2)),(5,.v (.int .i64 (x.1:Int)))]) (fun _=>[]) (fun _=>Heap.empty)
 (fun x=>(x.1<=l.length/\x.1<=24/\x.2.2.length<=9*x.1)/\d4N x.2.1) (fun x=>24-x.1)
def b1Z(xs:Y14)(h:Heap)(K:KT):Prop:=match xs with
 | [.vslice none e1 n1 1 c1]=> ∃l:Y12,(n1=l.length/\c1=l.map (IV.int .i64))/\((∀x∈l,aR x)/\l.length<=9223372036854775807)/\∀s:Y11,s.length<=300->K (.str s) h
 |_=>False
def b2A(l:Y12):=TV.v (.vslice none 0 l.length 1 (List.map (IV.int .i64) l))
abbrev c9S(l:Y12)(x:Nat×Y14×Y11):=x.1<=l.length/\x.1<=24/\x.2.2.length<=9*x.1
theorem d4O(l:Y12)(p:Nat)(h:Heap)(Q:KT):dF (aS Bl) env 15 dL (kR 5 (pcI l)) bS [.vslice none p (l).length 1 ((l).map (IV.int .i64))] h Q=(
 aD (aM [IV.vslice none 0 l.length 1 (List.map (IV.int .i64) l)]) ((∃(x:Nat×Y14×Y11),some (b2A l)=some (b2A l)/\some (TV.v (.vslice none 1 31 1 [IV.str [(40:UInt8),(97:UInt8),(100:UInt8),(100:UInt8),(32:UInt8)],IV.str [40,108,111,97,100,46,48,32],IV.str [40,110,101,101,100,46,49,32],IV.str [(40:UInt8),(115:UInt8),(101:UInt8),(108:UInt8),(32:UInt8)],IV.str [40,108,111,111,112,46,50,32],IV.str [40,102,105,110,46,48,32],IV.str [(40:UInt8),(102:UInt8),(105:UInt8),(110:UInt8),(46:UInt8),(49:UInt8),(32:UInt8)],IV.str [40,99,97,108,108,46,48,32],IV.str [40,111,117,116,32],IV.str [(40:UInt8),(110:UInt8),(101:UInt8),(103:UInt8),(32:UInt8)],IV.str [40,114,101,116,32],IV.str [112,48],IV.str [112,49],IV.str [112,54],IV.str [(118:UInt8),(50:UInt8),(46:UInt8),(48:UInt8)],IV.str [118,50,46,49],IV.str [118,49,46,49,54],IV.str [115,116,97,114,116],IV.str [55],IV.str [45,51],IV.str [48,55],IV.str [41],IV.str [41],IV.str [41],IV.str [32],IV.str [32],IV.str [40],IV.str [40,115,116,97,114,116,41],IV.str [(40:UInt8),(110:UInt8),(101:UInt8),(101:UInt8),(100:UInt8),(46:UInt8),(48:UInt8),(32:UInt8)],IV.str [120],IV.str [40,115,116,111,114,101,46,57,32]]))=some (TV.v (.vslice none 1 31 1 x.2.1))/\some (TV.v (.str []))=some (TV.v (.str x.2.2))/\tI 0=tI (x.1:Int)/\Heap.mk PT.nil 0=Heap.mk PT.nil 0/\((c9S l x)/\List.length x.2.1=31/\∀(v:IV),v∈x.2.1-> ∃(s:Y11),v=IV.str s/\s.length<=9)/\True)/\∀(x:Nat×Y14×Y11)(b:FF),(c9S l x)/\d4N x.2.1->aJ (decide ((x.1:Int)< (l.length:Int))) (aJ (decide ((x.1:Int)<24)) (aD (decide (0<=(x.1:Int)) &&decide ((x.1:Int)< (l.length:Int))) (aI .i64 (List.map (IV.int .i64) l) ((x.1:Int).toNat*1) fun i=>((0:Int)<31/\(31:Int)<4611686018427387904)/\aD (decide (0<=i% (31:Int)) &&decide (i% (31:Int)<31)) (bL x.2.1 ((i% (31:Int)).toNat*1) fun(j:Y11)=>aD (Nat.ble (x.2.2.length+j.length) 9223372036854775807) (∃(g:Nat×Y14×Y11),some (b2A l)=some (b2A l)/\some (TV.v (.vslice none 1 31 1 x.2.1))=some (TV.v (.vslice none 1 31 1 g.2.1))/\some (TV.v (.str (x.2.2++j)))=some (TV.v (.str g.2.2))/\tI (wW ((x.1:Int)+1))=tI (g.1:Int)/\Heap.mk PT.nil 0=Heap.mk PT.nil 0/\((g.1<=l.length/\Prod.fst g<=24/\g.2.2.length<=9*g.1)/\g.2.1.length=31/\∀(v:IV),v∈g.2.1-> ∃(s:Y11),v=IV.str s/\s.length<=9)/\(24:Nat)-g.1<24-x.1)))) (Q (.str x.2.2) h)) (Q (.str x.2.2) h))):=by kernel_rfl
theorem d4P: ∀xs h Q,b1Z xs h Q->aO env 15 xs h Q:=by
 intro xs h Q g;unfold b1Z at g;split at g
 ·rename_i K n1 c1;obtain⟨l,⟨rfl,rfl⟩,L,g⟩:=g;refine aN (Hs) (d4O l K h Q) ?_;delta b2A c9S tI wW;have Z: ∀x:Nat,(x:Int).toNat=x:=AE
  obtain⟨hi,hl⟩:=L;refine aA (by simp only [aM,bI,bT,AT]) ⟨⟨(0,_,[]),IR,IR,IR,IR,IR,⟨⟨AR _,AR _,AR _⟩,⟨rfl,fun v Y=>?_⟩⟩,trivial⟩,?_⟩
  ·obtain⟨s,hs,rfl⟩:=EI.1 (show v∈d4M.map IV.str from Y);exact⟨s,rfl,b1Y s hs⟩
  rintro⟨i,cs,s⟩ _ ⟨⟨u,z,A⟩,p⟩;dsimp only at u z A p⊢;refine dA (fun c=>dA (fun G=>?_) (fun G=>g s IM)) (fun c=>g s IM);have j:i<l.length:=IM;have O:=CM (l[i]) (b:=31) IN;have T:=CI (l[i]) (b:=31) IN;have D:(l[i]%31).toNat<cs.length:=by rw [p.1];omega
  obtain⟨t,V,X⟩:=p.2 _ (AG D);refine aA (by simp;omega) (fT j (by rw [AO,Z]) ⟨⟨IN,IN⟩,aA (by simp;omega) (dG (by rw [AO,AA D,V]) (aA (by rw [AM];omega) ⟨(i+1,cs,s++t),IR,IR,IR,?_,IR,⟨⟨j,IS,by dsimp only;rw [AH];omega⟩,p⟩,IS⟩))⟩);rw [AB _ IM];rfl
 ·exact g.elim
def c1S:=aT 15 b1Z Bl
theorem c9T:aP env c1S:=aF d4P (Hs)
end Go.Proofs.YtkonebkblgemkaaGreat
end
end
