/-
  Texts of this proof, one after the other.
  Conditions: none.
-/
import Derived.Test.YtkonebkblgemkaaGreatW9
set_option linter.unusedVariables false
set_option linter.unusedSimpArgs false
set_option maxRecDepth 100000
set_option maxHeartbeats 4000000
noncomputable section
variable{i j m b:Nat}{x y z u v:Int}{h g:Go.Pv.Heap}{c d l:List Go.Pv.IV}{A B C:List Go.M15.Nd}{K L:Y12}{p s t:Go.Pv.IV}{F:List Go.M10.E}{D:Go.Pv.Meta}{V W:List Go.Value}{T U:Go.TypeId}{o:Bool}{X Y:Go.Value}{G:Go.M10.BSt}{O:Go.Oper}{N:Y10}{H:Array Go.Value}
section
namespace Go.Proofs.YtkonebkblgemkaaGreat
open Go.Pv Go.M15 Go.M10
theorem sE{l:Y15}{i o:Nat}{K:Y10->Nat->Nat->Y14->Prop}(h:i<l.length)(u:o=i*3+2)(p:K none 0 l[i].ks.length (l[i].ks.map (IV.int .i64))):aX 1 (l.flatMap cN) o K:=by
 subst u;have g:=Qx (j:=2) h IM;unfold aX
 simp only [g];exact p
theorem W4: ∀{l:Y15}{n:Nat},(l.flatMap cN).take (n*3)=(l.take n).flatMap cN
 | [],n=>IP
 |x::l,0=>IP
 |x::l,n+1=>by
  rw [CU,GK,CU,FA,show(n+1)*3- (cN x).length=n*3 by show(n+1)*3-3=_;omega,W4,AP (by show 3<=_;omega)]
theorem fT{k:IntKind}{l:Y12}{i o:Nat}{K:Int->Prop}(h:i<l.length)(j:o=i)(g:K l[i]):aI k (l.map (IV.int k)) o K:=by
 subst j;exact cT h g
def Ly(xs:Y14)(h:Heap)(K:KT):Prop:=match xs with
 | [.int .i64 n,.int .i64 m]=>(0<m/\m<4611686018427387904)/\K (.int .i64 (n%m)) h
 |_=>False
theorem c4O(n m:Int)(h:Heap)(Q:KT):dF (aS noC) env 12 dL bS bS [.int .i64 n,.int .i64 m] h Q=(
 aD (!m==0) (aJ (decide (Int.tmod n m<0)) (Q (.int .i64 (wW (Int.tmod n m+m))) h) (Q (.int .i64 (Int.tmod n m)) h))):=by kernel_rfl
theorem c4P: ∀xs h Q,Ly xs h Q->aO env 12 xs h Q:=by
 intro xs h Q g;unfold Ly at g;split at g
 ·rename_i n m;refine aN (jR env) (c4O n m h Q) ?_;delta wW;obtain⟨j,g⟩:=g;have l:=FB n (HR m);have p:=Go.M13.oU n m j.1;refine aA (by simp;omega) (aC (fun i=>fI g ?_) (fun i=>fI g ?_))
  ·simp only [decide_eq_true_eq]at i;rw [AB _ IM];congr 1;omega
  ·simp only [decide_eq_false_iff_not]at i;congr 1;omega
 ·exact g.elim
def Lz:=aT 12 Ly noC
theorem Sv:aP env Lz:=aF c4P (jR env)
def W5(xs:Y14)(h:Heap)(K:KT):Prop:=match xs with
 | [.int .i64 op]=>K (.tuple [.int .i64 (ar op),.bool (jW op)]) h
 |_=>False
def c4Q(op:Int)(h:Heap)(Q:KT):=aJ (op==23) (Q (.tuple [.int .i64 2,IV.bool true]) h) (aJ (op==27) (Q (.tuple [.int .i64 2,IV.bool true]) h) (aJ (op==29) (Q (.tuple [.int .i64 2,IV.bool true]) h) (aJ (op==22) (Q (.tuple [.int .i64 3,IV.bool true]) h) (aJ (op==28) (Q (.tuple [.int .i64 3,IV.bool true]) h) (aJ (op
 ==30) (Q (.tuple [.int .i64 (-1),IV.bool true]) h) (aJ (op==31) (Q (.tuple [.int .i64 (-1),IV.bool true]) h) (Q (.tuple [.int .i64 0,IV.bool false]) h)))))))
def a4D:=IV.tuple [.int .i64 0,IV.bool true]
def a4E:=IV.tuple [.int .i64 1,IV.bool true]
theorem c4R(op:Int)(h:Heap)(Q:KT):dF (aS Lz) env 36 dL bS bS [.int .i64 op] h Q=(
 aJ (op==1) (Q a4D h) (aJ (op==2) (Q a4D h) (aJ (op==3) (Q a4D h) (aJ (op==26) (Q a4D h) (aJ (op==20) (Q a4E h) (aJ (op==21) (Q a4E h) (aJ (op==24) (Q a4E h) (aJ (op==25) (Q a4E h) (aJ (decide (op>=4)) (aJ (decide (op<=19)) (Q (.tuple [.int .i64 2,IV.bool true]) h) (c4Q op h Q)) (c4Q op h Q)))))))))):=by kernel_rfl
theorem a4F: ∀xs h Q,W5 xs h Q->aO env 36 xs h Q:=by
 intro xs h Q g;unfold W5 at g;split at g
 ·rename_i op;refine aN (Sv) (c4R op h Q) ?_;delta c4Q a4D a4E
  repeat' (first|refine aA ?_ ?_|refine aC (fun _=>?_) (fun _=>?_)|refine And.intro ?_ ?_)
  all_goals first|assumption|omega| (refine fI g ?_;simp only [IV.agg.injEq,IV.tuple.injEq,IV.int.injEq,IV.bool.injEq,BS,true_and,and_true];grind [ar,jW])
 ·exact g.elim
def Ma:=aT 36 W5 Lz
theorem Sw:aP env Ma:=aF a4F (Sv)
def W6(xs:Y14)(h:Heap)(K:KT):Prop:=match xs with
 | [.int .i64 op]=>K (.int .i64 (pS op)) h
 |_=>False
theorem b6A(op:Int)(h:Heap)(Q:KT):dF (aS Ma) env 207 dL bS bS [.int .i64 op] h Q=(
 aJ (op==2) (Q (.int .i64 5) h) (aJ (op==3) (Q (.int .i64 255) h) (aJ (op==23) (Q (.int .i64 3) h) (aJ (op==28) (Q (.int .i64 3) h) (aJ (op==27) (Q (.int .i64 1000016) h) (aJ (op==30) (Q (.int .i64 7) h) (aJ (op==31) (Q (.int .i64 15) h) (aJ (op==25) (Q (.int .i64 15) h) (Q (.int .i64 (-1)) h))))))))):=by kernel_rfl
theorem b6B: ∀xs h Q,W6 xs h Q->aO env 207 xs h Q:=by
 intro xs h Q g;unfold W6 at g;split at g
 ·rename_i op;refine aN (Sw) (b6A op h Q) ?_
  repeat' (first|refine aA ?_ ?_|refine aC (fun _=>?_) (fun _=>?_)|refine And.intro ?_ ?_)
  all_goals first|assumption|omega| (refine fI g ?_;simp only [IV.agg.injEq,IV.tuple.injEq,IV.int.injEq,IV.bool.injEq,BS,true_and,and_true];grind [pS])
 ·exact g.elim
def W7:=aT 207 W6 Ma
theorem Ew:aP env W7:=aF b6B (Sw)
def Mb(xs:Y14)(h:Heap)(K:KT):Prop:=match xs with
 | [.int .i64 op,.int .i64 n]=>K (.bool (dY op n)) h
 |_=>False
theorem c4S(op n:Int)(h:Heap)(Q:KT):dF (aS W7) env 165 dL bS bS [.int .i64 op,.int .i64 n] h Q=(
 aJ (op==1) (Q (.bool true) h) (aJ (decide (pS op<0)) (Q (.bool (n==0)) h) (aJ (decide (n>=0)) (aJ (decide (n<=pS op)) (aJ (op !=27) (Q (.bool true) h) (Q (.bool (decide (n>0))) h)) (Q (.bool false) h)) (Q (.bool false) h)))):=by kernel_rfl
theorem c4T: ∀xs h Q,Mb xs h Q->aO env 165 xs h Q:=by
 intro xs h Q g;unfold Mb at g;split at g
 ·rename_i op n;refine aN (Ew) (c4S op n h Q) ?_
  repeat' (first|refine aA ?_ ?_|refine aC (fun _=>?_) (fun _=>?_)|refine And.intro ?_ ?_)
  all_goals first|assumption|omega| (refine fI g ?_;simp only [IV.agg.injEq,IV.tuple.injEq,IV.int.injEq,IV.bool.injEq,BS,true_and,and_true];grind [dY])
 ·exact g.elim
def Mc:=aT 165 Mb W7
theorem Sx:aP env Mc:=aF c4T (Ew)
def W8(xs:Y14)(h:Heap)(K:KT):Prop:=match xs with
 | [.bool b,.int .i64 n]=>K (.int .i64 (if b=true then n else 0)) h
 |_=>False
theorem b6C(b:Bool)(n:Int)(h:Heap)(Q:KT):dF (aS Mc) env 188 dL bS bS [.bool b,.int .i64 n] h Q=(
 aJ b (Q (.int .i64 n) h) (Q (.int .i64 0) h)):=by kernel_rfl
theorem b6D: ∀xs h Q,W8 xs h Q->aO env 188 xs h Q:=by
 intro xs h Q g;unfold W8 at g;split at g
 ·rename_i b n;refine aN (Sx) (b6C b n h Q) ?_;refine aC (fun c=>?_) (fun c=>?_)
  ·rw [if_pos c]at g;exact g
  ·rw [if_neg (by rw [c];exact CG)]at g;exact g
 ·exact g.elim
def W9:=aT 188 W8 Mc
theorem Ey:aP env W9:=aF b6D (Sx)
def d2M(k:Y12):Inv':=eY Nat (fun i=>[(0,.v (.vslice none 0 (k).length 1 ((k).map (IV.int .i64)))),(3,.v (.int .i64 i))]) (fun _=>[]) (fun _=>Heap.empty)
 (fun i=>i<=k.length/\(k.drop i).all (fun x=>decide (x=1))=k.all (fun x=>decide (x=1))) (fun i=>k.length-i)
def a4G(xs:Y14)(h:Heap)(K:KT):Prop:=match xs with
 | [.vslice none e1 n1 1 c1]=> ∃k:Y12,(n1=k.length/\c1=k.map (IV.int .i64))/\k.length<=1000000000/\K (.bool (k.all fun x=>decide (x=1))) h
 |_=>False
theorem d2N(k:Y12)(i:Nat)(h:Heap)(Q:KT):dF (aS W9) env 189 dL (kR 3 (d2M k)) bS [.vslice none i (k).length 1 ((k).map (IV.int .i64))] h Q=(
 aD (aM [IV.vslice none 0 k.length 1 (List.map (IV.int .i64) k)]) ((∃(x:Nat),some (TV.v (.vslice none 0 k.length 1 (List.map (IV.int .i64) k)))=some (TV.v (.vslice none 0 k.length 1 (List.map (IV.int .i64) k)))/\tI 0=tI (x:Int)/\Heap.mk PT.nil 0=Heap.mk PT.nil 0/\(x<=k.length/\(List.all (List.drop x k) fun x=>decide (x=1))=List.all k fun x=>decide (x=1))/\True)/\∀(x:Nat)(b:FF),(x<=k.length/\(List.all (List.drop x k) fun x=>decide (x=1))=List.all k fun x=>decide (x=1))->aJ (decide ((x:Int)< (k.length:Int))) (aD (decide (0<=(x:Int)) &&decide ((x:Int)< (k.length:Int))) (aI .i64 (List.map (IV.int .i64) k) ((x:Int).toNat*1) fun j=>aJ (j !=1) (Q (.bool false) h) (∃(g:Nat),some (TV.v (.vslice none 0 k.length 1 (List.map (IV.int .i64) k)))=some (TV.v (.vslice none 0 k.length 1 (List.map (IV.int .i64) k)))/\tI (wW ((x:Int)+1))=tI (g:Int)/\Heap.mk PT.nil 0=Heap.mk PT.nil 0/\(g<=k.length/\(List.all (List.drop g k) fun x=>decide (x=1))=List.all k fun x=>decide (x=1))/\k.length-g<k.length-x))) (Q (.bool true) h))):=by kernel_rfl
theorem d2O: ∀xs h Q,a4G xs h Q->aO env 189 xs h Q:=by
 intro xs h Q g;unfold a4G at g;split at g
 ·rename_i p A l;obtain⟨k,⟨rfl,rfl⟩,z,g⟩:=g;refine aN (Ey) (d2N k p h Q) ?_;delta tI wW;have u: ∀x:Nat,(x:Int).toNat=x:=AE
  refine aA (by simp only [aM,bI,bT,AT]) ⟨⟨0,IR,IR,IR,⟨AR _,rfl⟩,trivial⟩,?_⟩;rintro i _ ⟨hi,ha⟩
  try dsimp only at hi ha⊢
  refine aC (fun c=>?_) (fun c=>?_)
  ·rw [decide_eq_true_eq]at c;have j:i<k.length:=IM;simp only [u];rw [AO];rw [List.drop_eq_getElem_cons j,EP]at ha;refine aA (by simp;omega) (cT j (aC (fun l=>?_) (fun l=>⟨i+1,IR,?_,IR,⟨j,?_⟩,by(try dsimp only);omega⟩)))
   ·rw [decide_eq_false (bne_iff_ne.1 l),EV]at ha;rw [<-ha]at g;exact g
   ·rw [AB _ IM];rfl
   ·rw [bne_eq_false_iff_eq]at l;rw [decide_eq_true l,BN]at ha;exact ha
  ·rw [decide_eq_false_iff_not]at c;rw [List.drop_eq_nil_of_le IM]at ha;rw [<-ha]at g;exact g
 ·exact g.elim
def a4I:=aT 189 a4G W9
theorem a4J:aP env a4I:=aF d2O (Ey)
def Md(xs:Y14)(h:Heap)(K:KT):Prop:=match xs with
 | [.vslice none e0 n0 3 c0,.agg [.int .i64 op,.int .i64 im,.vslice none e1 n1 1 c1],.vslice none e2 n2 1 c2]=> ∃(l:Y15)(ks k:Y12),(n0=l.length/\c0=l.flatMap cN)/\(n1=ks.length/\c1=ks.map (IV.int .i64))/\(n2=k.length/\c2=k.map (IV.int .i64))/\((op≠25/\op≠30/\op≠31)/\ks.length=k.length/\k.length<=1000000000)/\K (.int .i64 (dW op im k)) h
 |_=>False
def cU(k:Y12):=List.map (IV.int .i64) k
def qW(k:Y12):=Int.tdiv (k.length:Int) 2
def a4K(k:Y12)(h:Heap)(Q:KT):=aD (decide (0<=wW (wW (qW k)+2)) && (decide (wW (wW (qW k)+2)<=(k.length:Int)) &&decide ((k.length:Int)<=(k.length:Int)))) (∃(g:Y12),((k.length:Int).toNat- (wW (wW (qW k)+2)).toNat=g.length/\List.take (((k.length:Int).toNat-Int.toNat
 (wW (wW (qW k)+2)))*1) (List.drop ((wW (wW (qW k)+2)).toNat*1) (cU k))=List.map (IV.int .i64) g)/\g.length<=1000000000/\Q (.int .i64 (if(List.all g fun x=>decide (x=1))=true then(3:Int)else(0:Int))) h)
def cV:=iI 0
def vF(k:Y12):=wW (qW k)+1
def iU(k:Y12):=true&&decide (0< (k.length:Int))
def lK(k:Y12):=true&&decide (1< (k.length:Int))
def a4L(k:Y12)(h:Heap)(Q:KT):=aD (true&& (decide (1<=(k.length:Int)) &&decide ((k.length:Int)<=(k.length:Int)))) (∃(g:Y12),((k.length:Int).toNat-1=g.length/\List.take (((k.length:Int).toNat-1)*1) (List.drop 1 (cU k))=List.map (IV.int .i64) g)/\g.length<=1000000000/\Q
 (.int .i64 (if(List.all g fun x=>decide (x=1))=true then(2:Int)else(0:Int))) h)
def a4M(k:Y12)(h:Heap)(Q:KT):=(∃(g:Y12),(k.length=g.length/\List.map (IV.int .i64) k=List.map (IV.int .i64) g)/\g.length<=1000000000/\Q (.int .i64 (if(List.all g fun x=>decide (x=1))=true then(1:Int)else(0:Int))) h)
abbrev a4N(k g:Y12):=(wW (vF k)).toNat-1=g.length/\List.take (((wW (vF k)).toNat-1)*1) (List.drop 1 (cU k))=List.map (IV.int .i64) g
def Fa(k:Y12):=true&&decide (2< (k.length:Int))
def a4O(k:Y12):=true&& (decide (1<=wW (vF k)) &&decide (wW (vF k)<=(k.length:Int)))
def a4P(k:Y12):=decide (0<=wW (vF k)) &&decide (wW (vF k)< (k.length:Int))
def a4Q(im:Int):=iI (wW ((if(im==0)=true then(1:Int)else(0:Int))+1))
def Fb:=iI 2
theorem c4U(l:Y15)(op im:Int)(ks k:Y12)(e0 e1 e2:Nat)(h:Heap)(Q:KT):dF (aS a4I) env 122 dL bS bS [.vslice none e0 (l).length 3 ((l).flatMap cN),.agg [.int .i64 op,.int .i64 im,.vslice none e1 ks.length 1 (ks.map (IV.int .i64))],.vslice none e2 (k).length 1 ((k).map (IV.int .i64))] h Q=(
 aD (aM [IV.vslice none 0 l.length 3 (List.flatMap cN l),IV.agg [.int .i64 op,iI im,IV.vslice none 0 ks.length 1 (List.map (IV.int .i64) ks)],IV.vslice none 0 k.length 1 (cU k)]) (aJ (!jW op) (Q cV h) (aJ (decide (ar op>=0)) (aJ ((ks.length:Int) !=ar op) (Q cV h) (aJ (!dY op im) (Q cV h) (aJ (op==3) (aJ (Int.tmod im 16==0) (Q Fb h) (Q (.int .i64 1) h)) (aJ (op==26) (Q Fb h) (aJ (op==(22:Int)) (aD (iU k) (aI .i64 (cU k) 0 fun n0=>aJ (n0 !=1) (Q cV h) (aD (lK k) (aI .i64 (cU k) 1 fun n1=>aD (Fa k) (aI .i64 (cU k) 2 fun n2=>aJ (n1 !=n2) (Q cV h) (aD (lK k) (aI .i64 (cU k) 1 fun n3=>aJ (n3==3) (Q cV h) (aD (lK k) (aI .i64 (cU k) 1 fun n4=>Q (.int .i64 n4) h))))))))) (aJ (op==23) (aD (iU k) (aI .i64 (cU k) 0 fun n5=>aJ (n5==2) (aD (lK k) (aI .i64 (cU k) 1 fun n6=>Q (.int .i64 (if(n6==1)=true then(1:Int)else(0:Int))) h)) (Q cV h))) (aJ (op==24) (aD (iU k) (aI .i64 (cU k) 0 fun n7=>Q (.int .i64 (if(n7==2)=true then(1:Int)else(0:Int))) h)) (aJ (op==25) (aD (iU k) (aI .i64 (cU k) 0 fun n8=>aJ (n8 !=3) (Q cV h) (aD (true&&decide (0< (ks.length:Int))) (aI .i64 (List.map (IV.int .i64) ks) 0 fun n9=>aD (decide (0<=n9) &&decide (n9< (l.length:Int))) (aX 1 (List.flatMap cN l) (n9.toNat*3+2) fun(c1:Y10)(b9 j:Nat)(b6:Y14)=>aJ (decide (im>=wW (Int.tdiv (j:Int) 2))) (Q cV h) (Q (a4Q im) h)))))) (aJ (op==27) (aD (iU k) (aI .i64 (cU k) 0 fun u=>aJ (u==2) (aD (lK k) (aI .i64 (cU k) 1 fun z=>Q (.int .i64 (if(z==1)=true then(2:Int)else(0:Int))) h)) (Q cV h))) (aJ (op==29) (aD (iU k) (aI .i64 (cU k) 0 fun A=>aJ (A==2) (aD (lK k) (aI .i64 (cU k) 1 fun D=>Q (.int .i64 (if(D==1)=true then(2:Int)else(0:Int))) h)) (Q cV h))) (aJ (op==28) (aD (iU k) (aI .i64 (cU k) 0 fun G=>aJ (G==2) (aD (lK k) (aI .i64 (cU k) 1 fun K=>aJ (K==1) (aD (Fa k) (aI .i64 (cU k) 2 fun L=>Q (.int .i64 (if(L==1)=true then(2:Int)else(0:Int))) h)) (Q cV h))) (Q cV h))) (aJ (op==30) (aJ (decide ((k.length:Int)>=1)) (aJ (decide ((k.length:Int)<=7)) (aD (iU k) (aI .i64 (cU k) 0 fun O=>aJ (O==2) (a4L k h Q) (Q cV h))) (Q cV h)) (Q cV h)) (aJ (op==31) (aJ (Int.tmod (k.length:Int) 2==1) (aJ (decide (wW (qW k)>=1)) (aJ (decide (wW (qW k)<=16)) (aD (iU k) (aI .i64 (cU k) 0 fun T=>aJ (T==2) (aD (a4O k) (∃(g:Y12),(a4N k g)/\g.length<=1000000000/\aJ (List.all g fun x=>decide (x=1)) (aD (a4P k) (aI .i64 (cU k) ((wW (vF k)).toNat*1) fun V=>aJ (V==2) (a4K k h Q) (Q cV h))) (Q cV h))) (Q cV h))) (Q cV h)) (Q cV h)) (Q cV h)) (a4M k h Q)))))))))))))) (aJ (!dY op im) (Q cV h) (aJ (op==3) (aJ (Int.tmod im 16==0) (Q Fb h) (Q (.int .i64 1) h)) (aJ (op==26) (Q Fb h) (aJ (op==22) (aD (iU k) (aI .i64 (cU k) 0 fun X=>aJ (X !=1) (Q cV h) (aD (lK k) (aI .i64 (cU k) 1 fun Y=>aD (Fa k) (aI .i64 (cU k) 2 fun Z=>aJ (Y !=Z) (Q cV h) (aD (lK k) (aI .i64 (cU k) 1 fun a0=>aJ (a0==3) (Q cV h) (aD (lK k) (aI .i64 (cU k) 1 fun(a1:Int)=>Q (.int .i64 a1) h))))))))) (aJ (op==23) (aD (iU k) (aI .i64 (cU k) 0 fun a2=>aJ (a2==2) (aD (lK k) (aI .i64 (cU k) 1 fun a3=>Q (.int .i64 (if(a3==1)=true then(1:Int)else(0:Int))) h)) (Q cV h))) (aJ (op==24) (aD (iU k) (aI .i64 (cU k) 0 fun a4=>Q (.int .i64 (if(a4==2)=true then(1:Int)else(0:Int))) h)) (aJ (op==25) (aD (iU k) (aI .i64 (cU k) 0 fun(a5:Int)=>aJ (a5 !=3) (Q cV h) (aD (true&&decide (0< (ks.length:Int))) (aI .i64 (List.map (IV.int .i64) ks) 0 fun i=>aD (decide (0<=i) &&decide (i< (l.length:Int))) (aX 1 (List.flatMap cN l) (i.toNat*3+2) fun(c2:Y10)(c0 p:Nat)(b7:Y14)=>aJ (decide (im>=wW (Int.tdiv (p:Int) 2))) (Q cV h) (Q (a4Q im) h)))))) (aJ (op==27) (aD (iU k) (aI .i64 (cU k) 0 fun(a6:Int)=>aJ (a6==2) (aD (lK k) (aI .i64 (cU k) 1 fun a7=>Q (.int .i64 (if(a7==1)=true then(2:Int)else(0:Int))) h)) (Q cV h))) (aJ (op==29) (aD (iU k) (aI .i64 (cU k) 0 fun(a8:Int)=>aJ (a8==2) (aD (lK k) (aI .i64 (cU k) 1 fun a9=>Q (.int .i64 (if(a9==1)=true then(2:Int)else(0:Int))) h)) (Q cV h))) (aJ (op==28) (aD (iU k) (aI .i64 (cU k) 0 fun b0=>aJ (b0==2) (aD (lK k) (aI .i64 (cU k) 1 fun b1=>aJ (b1==1) (aD (Fa k) (aI .i64 (cU k) 2 fun b2=>Q (.int .i64 (if(b2==1)=true then(2:Int)else(0:Int))) h)) (Q cV h))) (Q cV h))) (aJ (op==30) (aJ (decide ((k.length:Int)>=1)) (aJ (decide ((k.length:Int)<=7)) (aD (iU k) (aI .i64 (cU k) 0 fun b3=>aJ (b3==2) (a4L k h Q) (Q cV h))) (Q cV h)) (Q cV h)) (aJ (op==(31:Int)) (aJ (Int.tmod (k.length:Int) 2==1) (aJ (decide (wW (qW k)>=1)) (aJ (decide (wW (qW k)<=16)) (aD (iU k) (aI .i64 (cU k) 0 fun b4=>aJ (b4==2) (aD (a4O k) (∃(g:Y12),(a4N k g)/\g.length<=1000000000/\aJ (List.all g fun x=>decide (x=1)) (aD (a4P k) (aI .i64 (cU k) ((wW (vF k)).toNat*1) fun b5=>aJ (b5==2) (a4K k h Q) (Q cV h))) (Q cV h))) (Q cV h))) (Q cV h)) (Q cV h)) (Q cV h)) (a4M k h Q)))))))))))))))):=by kernel_rfl
theorem a4R: ∀xs h Q,Md xs h Q->aO env 122 xs h Q:=by
 intro xs h Q g;unfold Md at g;split at g
 ·rename_i e0 n0 D op im e1 n1 G e2 n2 u;obtain⟨l,ks,k,⟨rfl,rfl⟩,⟨rfl,rfl⟩,⟨rfl,rfl⟩,hb,g⟩:=g;refine aN (a4J) (c4U l op im ks k e0 e1 e2 h Q) ?_;delta a4K cV vF cU iU lK a4L a4M a4N Fa a4O a4P a4Q qW Fb wW iI;obtain⟨j,A,a0⟩:=hb;refine aA (by simp only [aM,bI,bT,cI,AT]) (aC (fun c=>?_) (fun D=>?_))
  ·unfold dW at g;rw [if_pos (.inl (by simpa using c))]at g;exact g
  rw [CV]at D;have hz:((k.length:Int)≠ar op\/dY op im=false)->Q (.int .i64 0) h:=fun e=>by
   unfold dW at g;rw [if_pos (.inr e)]at g;exact g
  have Z:op≠30->op≠31->0<=ar op:=by unfold ar;repeat' split<;>omega
  refine aC (fun _=>?_) (fun c=>by rw [decide_eq_false_iff_not]at c;exact absurd (Z j.2.1 j.2.2) IM);refine aC (fun c=>hz (.inl (by rw [<-A];exact bne_iff_ne.1 c))) (fun G=>aC (fun c=>hz (.inr (by simpa using c))) (fun u=>?_));rw [bne_eq_false_iff_eq,A]at G;rw [CV]at u;rw [N9 j D G u]at g;have i: ∀{o:Int},(op==o)=false-> ¬op=o:=fun c=>by simpa using c
  refine aC (fun c=>?_) (fun c3=>?_)
  ·have e:=beq_iff_eq.1 c;subst e;rw [if_pos rfl]at g;have hi:0<=im:=by
    unfold dY at u;rw [decide_eq_true_eq]at u;have:pS 3=255:=IN;omega
   rw [CP hi];refine aC (fun d=>?_) (fun d=>?_)
   ·rw [if_pos (beq_iff_eq.1 d)]at g;exact g
   ·rw [if_neg (by simpa using d)]at g;exact g
  rw [if_neg (i c3)]at g;refine aC (fun c=>?_) (fun T=>?_)
  ·have e:=beq_iff_eq.1 c;rw [if_pos e]at g;exact g
  rw [if_neg (i T)]at g;refine aC (fun c=>?_) (fun K=>?_)
  ·have e:=beq_iff_eq.1 c;subst e;rw [if_pos rfl]at g;have z:ar 22=3:=IN;have p:k.length=3:=IM
   match k,p with
   | [a,b,c],_=>
    repeat' (first|refine aA IP ?_|refine cT IP ?_|refine aC (fun _=>?_) (fun _=>?_))
    all_goals
     refine fI g ?_;simp only [IV.int.injEq,true_and]
     simp_all
  rw [if_neg (i K)]at g;refine aC (fun c=>?_) (fun L=>?_)
  ·have e:=beq_iff_eq.1 c;subst e;rw [if_pos rfl]at g;have z:ar 23=2:=IN;have p:k.length=2:=IM
   match k,p with
   | [a,b],_=>
    repeat' (first|refine aA IP ?_|refine cT IP ?_|refine aC (fun _=>?_) (fun _=>?_))
    all_goals
     refine fI g ?_;simp only [IV.int.injEq,true_and]
     simp_all
  rw [if_neg (i L)]at g;refine aC (fun c=>?_) (fun O=>?_)
  ·have e:=beq_iff_eq.1 c;subst e;rw [if_pos rfl]at g;have z:ar 24=1:=IN;have p:k.length=1:=IM
   match k,p with
   | [a],_=>
    repeat' (first|refine aA IP ?_|refine cT IP ?_|refine aC (fun _=>?_) (fun _=>?_))
    all_goals
     refine fI g ?_;simp only [IV.int.injEq,true_and]
     simp_all
  rw [if_neg (i O)]at g;refine aC (fun c=>absurd (beq_iff_eq.1 c) j.1) (fun _=>aC (fun c=>?_) (fun V=>aC (fun c=>?_) (fun Y=>?_)))
  ·have e:=beq_iff_eq.1 c;subst e;rw [if_pos (.inl rfl)]at g;have z:ar 27=2:=IN;have p:k.length=2:=IM
   match k,p with
   | [a,b],_=>
    repeat' (first|refine aA IP ?_|refine cT IP ?_|refine aC (fun _=>?_) (fun _=>?_))
    all_goals
     refine fI g ?_;simp only [IV.int.injEq,true_and]
     simp_all
  ·have e:=beq_iff_eq.1 c;subst e;rw [if_pos (.inr rfl)]at g;have z:ar 29=2:=IN;have p:k.length=2:=IM
   match k,p with
   | [a,b],_=>
    repeat' (first|refine aA IP ?_|refine cT IP ?_|refine aC (fun _=>?_) (fun _=>?_))
    all_goals
     refine fI g ?_;simp only [IV.int.injEq,true_and]
     simp_all
  rw [if_neg (fun e=>e.elim (i V) (i Y))]at g;refine aC (fun c=>?_) (fun X=>?_)
  ·have e:=beq_iff_eq.1 c;subst e;rw [if_pos rfl]at g;have z:ar 28=3:=IN;have p:k.length=3:=IM
   match k,p with
   | [a,b,c],_=>
    repeat' (first|refine aA IP ?_|refine cT IP ?_|refine aC (fun _=>?_) (fun _=>?_))
    all_goals
     refine fI g ?_;simp only [IV.int.injEq,true_and]
     simp_all
  rw [if_neg (i X)]at g;exact aC (fun c=>absurd (beq_iff_eq.1 c) j.2.1) (fun _=>aC (fun c=>absurd (beq_iff_eq.1 c) j.2.2) (fun _=>⟨k,⟨rfl,rfl⟩,a0,g⟩))
 ·exact g.elim
def Me:=aT 122 Md a4I
theorem Sy:aP env Me:=aF a4R (a4J)
def E1(xs:Y14)(h:Heap)(K:KT):Prop:=match xs with
 | [.vslice none e0 n0 3 c0,.agg [.int .i64 31,.int .i64 im,.vslice none e1 n1 1 c1],.vslice none e2 n2 1 c2]=> ∃(l:Y15)(ks k:Y12),(n0=l.length/\c0=l.flatMap cN)/\(n1=ks.length/\c1=ks.map (IV.int .i64))/\(n2=k.length/\c2=k.map (IV.int .i64))/\(ks.length=k.length/\k.length<=1000000/\l.length<=1000000/\(∀q∈ks,0<=q/\q<l.length)/\(k=[3]->eK l ⟨31,im,ks⟩%2=1)/\∀n∈l,n.ks.length<=1000000)/\K (.int .i64 (bC (eK l ⟨31,im,ks⟩) 31 im k)) h
 |_=>False
def Fc(k:Y12):=Int.tdiv (k.length:Int) 2
def yR(k:Y12):=wW (Fc k)+1
def yS:=iI 0
def P2(k:Y12):=wW (Fc k)+2
def vG:=IV.int .i64
theorem a4S(l:Y15)(im:Int)(ks k:Y12)(e0 j p:Nat)(h:Heap)(Q:KT):dF (aS Me) env 122 dL bS bS [.vslice none e0 (l).length 3 ((l).flatMap cN),.agg [.int .i64 31,.int .i64 im,.vslice none j ks.length 1 (ks.map (IV.int .i64))],.vslice none p (k).length 1 ((k).map (IV.int .i64))] h Q=(
 aD (aM [IV.vslice none 0 l.length 3 (List.flatMap cN l),IV.agg [.int .i64 31,iI im,IV.vslice none 0 ks.length 1 (List.map vG ks)],IV.vslice none 0 k.length 1 (List.map vG k)]) (aJ (!dY 31 im) (Q yS h) (aJ (Int.tmod (k.length:Int) 2==1) (aJ (decide (wW (Fc k)>=1)) (aJ (decide (wW (Fc k)<=16)) (aD (true&&decide (0< (k.length:Int))) (aI .i64 (List.map vG k) 0 fun u=>aJ (u==2) (aD (true&& (decide (1<=wW (yR k)) &&decide (wW (yR k)<=(k.length:Int)))) (∃(g:Y12),((wW (yR k)).toNat-1=g.length/\List.take (((wW (yR k)).toNat-1)*1) (List.drop 1 (List.map vG k))=List.map vG g)/\g.length<=1000000000/\aJ (List.all g fun x=>decide (x=1)) (aD (decide (0<=wW (yR k)) &&decide (wW (yR k)< (k.length:Int))) (aI .i64 (List.map vG k) ((wW (yR k)).toNat*1) fun z=>aJ (z==2) (aD (decide (0<=wW (P2 k)) && (decide (wW (P2 k)<=(k.length:Int)) &&decide ((k.length:Int)<=(k.length:Int)))) (∃(i:Y12),((k.length:Int).toNat- (wW (P2 k)).toNat=i.length/\List.take (((k.length:Int).toNat- (wW (P2 k)).toNat)*1) (List.drop ((wW (P2 k)).toNat*1) (List.map vG k))=List.map vG i)/\i.length<=1000000000/\Q (.int .i64 (if(List.all i fun x=>decide (x=1))=true then(3:Int)else(0:Int))) h)) (Q yS h))) (Q yS h))) (Q yS h))) (Q yS h)) (Q yS h)) (Q yS h)))):=by kernel_rfl
theorem Fd: ∀xs h Q,E1 xs h Q->aO env 122 xs h Q:=by
 intro xs h Q g;unfold E1 at g;split at g
 ·rename_i e0 n0 c0 im Z n1 K e2 n2 L;obtain⟨l,ks,k,⟨rfl,rfl⟩,⟨rfl,rfl⟩,⟨rfl,rfl⟩,hb,g⟩:=g;refine aN (Sy) (a4S l im ks k e0 Z e2 h Q) ?_;delta Fc yR yS P2 vG wW iI;have tn: ∀x:Nat,(x:Int).toNat=x:=AE
  obtain⟨a0,a1,a2,a3,T,_⟩:=hb;have j: ¬ (qS k=true/\dY 31 im=true)->Q (.int .i64 0) h:=fun e=>by
   unfold bC at g;rw [if_pos rfl,if_neg e]at g;exact g
  have ht:IntKind.i64.wrap (Int.tdiv (k.length:Int) 2)=((k.length/2:Nat):Int):=by
   rw [EB IM,AB _ IM];omega
  have hm:Int.tmod (k.length:Int) 2=((k.length%2:Nat):Int):=by
   rw [CP IM];omega
  have i:=fun q:qS k=true=>c3A q
  have p:=fun q:qS k=true=>nO q
  rw [ht,hm];generalize hM:k.length/2=M at*
  have w1:IntKind.i64.wrap ((M:Int)+1)=((M+1:Nat):Int):=by rw [AB _ IM];rfl
  have w2:IntKind.i64.wrap ((M:Int)+2)=((M+2:Nat):Int):=by rw [AB _ IM];rfl
  rw [w1,w2];simp only [tn,AO];refine aA (by simp only [aM,bI,bT,cI,AT]) (aC (fun c=>j (fun e=>by rw [e.2]at c;cases c)) (fun Y=>aC (fun K=>?_) (fun c=>j (fun e=>?_))))
  case refine_2=>
   rw [beq_eq_false_iff_ne]at c;have:=(p e.1).1;omega
  rw [beq_iff_eq]at K;refine aC (fun L=>?_) (fun c=>j (fun e=>by rw [decide_eq_false_iff_not]at c;have:=p e.1;omega));refine aC (fun V=>?_) (fun c=>j (fun e=>by rw [decide_eq_false_iff_not]at c;have:=p e.1;omega));rw [decide_eq_true_eq]at L V;have u:k.length=2*M+1:=IM;have D:0<k.length:=IM;have G:M+1<k.length:=IM;refine aA (by simp;omega) (fT D rfl (aC (fun c4=>?_) (fun c=>j (fun e=>?_))))
  case refine_2=>
   rw [beq_eq_false_iff_ne]at c;have:=(i e.1).1;rw [AA D,AC]at this;exact c this
  rw [beq_iff_eq]at c4;refine aA (by simp;omega) ⟨(k.drop 1).take M,⟨by rw [AW,CD];omega,by rw [show M+1-1=M by omega,EQ,FE]⟩,by rw [AW];omega,aC (fun X=>?_) (fun c=>j (fun e=>by rw [(i e.1).2.1]at c;cases c))⟩;refine aA (by simp;omega) (fT G rfl (aC (fun O=>?_) (fun c=>j (fun e=>?_))))
  case refine_2=>
   rw [beq_eq_false_iff_ne]at c;have:=(i e.1).2.2.1;rw [AA G,AC]at this;exact c this
  rw [beq_iff_eq]at O;refine aA (by simp;omega) ⟨k.drop (M+2),⟨by rw [CD],by rw [AP IP,FE]⟩,by rw [CD];omega,?_⟩;split
  ·rename_i z;have A:qS k=true:=b4P u IM IM (by rw [AA D,c4]) X (by rw [AA G,O]) z;unfold bC at g;rw [if_pos rfl,if_pos ⟨A,by simpa using Y⟩]at g;exact g
  ·rename_i z;exact j (fun e=>z (i e.1).2.2.2)
 ·exact g.elim
def E2:=aT 122 E1 Me
theorem P3:aP env E2:=aF Fd (Sy)
def E3(xs:Y14)(h:Heap)(K:KT):Prop:=match xs with
 | [.vslice none e0 n0 3 c0,.agg [.int .i64 25,.int .i64 im,.vslice none e1 n1 1 c1],.vslice none e2 n2 1 c2]=> ∃(l:Y15)(ks k:Y12),(n0=l.length/\c0=l.flatMap cN)/\(n1=ks.length/\c1=ks.map (IV.int .i64))/\(n2=k.length/\c2=k.map (IV.int .i64))/\(ks.length=k.length/\k.length<=1000000/\l.length<=1000000/\(∀q∈ks,0<=q/\q<l.length)/\(k=[3]->eK l ⟨25,im,ks⟩%2=1)/\∀n∈l,n.ks.length<=1000000)/\K (.int .i64 (bC (eK l ⟨25,im,ks⟩) 25 im k)) h
 |_=>False
theorem a4T(l:Y15)(im:Int)(ks k:Y12)(e0 i j:Nat)(h:Heap)(Q:KT):dF (aS E2) env 122 dL bS bS [.vslice none e0 (l).length 3 ((l).flatMap cN),.agg [.int .i64 25,.int .i64 im,.vslice none i ks.length 1 (ks.map (IV.int .i64))],.vslice none j (k).length 1 ((k).map (IV.int .i64))] h Q=(
 aD (aM [IV.vslice none 0 l.length 3 (List.flatMap cN l),IV.agg [.int .i64 25,iI im,IV.vslice none 0 ks.length 1 (List.map (IV.int .i64) ks)],IV.vslice none 0 k.length 1 (List.map (IV.int .i64) k)]) (aJ ((ks.length:Int) !=1) (Q (.int .i64 0) h) (aJ (!dY 25 im) (Q (.int .i64 0) h) (aD (true&&decide (0< (k.length:Int))) (aI .i64 (List.map (IV.int .i64) k) 0 fun u=>aJ (u !=3) (Q (.int .i64 0) h) (aD (true&&decide (0< (ks.length:Int))) (aI .i64 (List.map (IV.int .i64) ks) 0 fun g=>aD (decide (0<=g) &&decide (g< (l.length:Int))) (aX 1 (List.flatMap cN l) (g.toNat*3+2) fun(D:Y10)(A p:Nat)(z:Y14)=>aJ (decide (im>=wW (Int.tdiv (p:Int) 2))) (Q (.int .i64 0) h) (Q (.int .i64 (wW ((if(im==0)=true then(1:Int)else(0:Int))+1))) h))))))))):=by kernel_rfl
theorem Fe: ∀xs h Q,E3 xs h Q->aO env 122 xs h Q:=by
 intro xs h Q g;unfold E3 at g;split at g
 ·rename_i e0 n0 G im X n1 u Y n2 K;obtain⟨l,ks,k,⟨rfl,rfl⟩,⟨rfl,rfl⟩,⟨rfl,rfl⟩,hb,g⟩:=g;refine aN (P3) (a4T l im ks k e0 X Y h Q) ?_;delta wW iI;have tn: ∀x:Nat,(x:Int).toNat=x:=AE
  obtain⟨p,a0,a1,L,A,z⟩:=hb;have D: ¬ (k=[3]/\0<=im/\im<=15/\2*im+3<=(eK l ⟨25,im,ks⟩:Int))->Q (.int .i64 0) h:=fun e=>by
   unfold bC at g;rw [if_neg IN,if_neg IN,if_pos rfl,if_neg e]at g;exact g
  have V:dY 25 im=true ↔ (0<=im/\im<=15):=by
   have:pS 25=15:=IN;unfold dY
   rw [decide_eq_true_eq,this];omega
  refine aA (by simp only [aM,bI,bT,cI,AT]) (aC (fun c=>D (fun e=>?_)) (fun G=>aC (fun c=>D (fun e=>?_)) (fun u=>?_)))
  ·rw [e.1]at p;rw [bne_iff_ne,p]at c;exact c rfl
  ·rw [V.2 ⟨e.2.1,e.2.2.1⟩]at c
   cases c
  rw [bne_eq_false_iff_eq]at G;rw [CV]at u;rw [V]at u
  match ks,k,p,G with
  | [q],[s],_,_=>
   have hq:=L q BJ;refine aA IP (cT (l:=[s]) (i:=0) IP (aC (fun c=>D (fun e=>?_)) (fun K=>?_)))
   ·rw [bne_iff_ne]at c;have:=e.1;rw [BS]at this;exact c this.1
   rw [bne_eq_false_iff_eq]at K;have hs:s=3:=K;subst hs;have ho:=A rfl;have j:q.toNat<l.length:=IM;have T:eK l ⟨25,im,[q]⟩=(l[q.toNat]).ks.length:=by
    show(l.getD q.toNat default).ks.length=_;rw [AN,AA j];rfl
   rw [T]at ho D;refine aA IP (cT (l:=[q]) (i:=0) IP (aA (by simp;omega) (sE j rfl (aC (fun c=>D (fun e=>?_)) (fun O=>?_)))))
   ·rw [decide_eq_true_eq,EB IM]at c;have Z:=z _ (AG j);rw [AB _ IM]at c;omega
   ·rw [decide_eq_false_iff_not,EB IM]at O;have Z:=z _ (AG j);rw [AB _ IM]at O;unfold bC at g;rw [if_neg IN,if_neg IN,if_pos rfl,if_pos ⟨rfl,u.1,u.2,by rw [T];omega⟩]at g;refine fI g ?_
    congr 1
    by_cases e:im=0
    ·subst e;rfl
    ·rw [if_neg e,if_neg (by simpa using e)];rfl
 ·exact g.elim
def E4:=aT 122 E3 E2
theorem P4:aP env E4:=aF Fe (P3)
def E5(xs:Y14)(h:Heap)(K:KT):Prop:=match xs with
 | [.vslice none e0 n0 3 c0,.agg [.int .i64 30,.int .i64 im,.vslice none e1 n1 1 c1],.vslice none e2 n2 1 c2]=> ∃(l:Y15)(ks k:Y12),(n0=l.length/\c0=l.flatMap cN)/\(n1=ks.length/\c1=ks.map (IV.int .i64))/\(n2=k.length/\c2=k.map (IV.int .i64))/\(ks.length=k.length/\k.length<=1000000/\l.length<=1000000/\(∀q∈ks,0<=q/\q<l.length)/\(k=[3]->eK l ⟨30,im,ks⟩%2=1)/\∀n∈l,n.ks.length<=1000000)/\K (.int .i64 (bC (eK l ⟨30,im,ks⟩) 30 im k)) h
 |_=>False
theorem a4U(l:Y15)(im:Int)(ks k:Y12)(e0 i j:Nat)(h:Heap)(Q:KT):dF (aS E4) env 122 dL bS bS [.vslice none e0 (l).length 3 ((l).flatMap cN),.agg [.int .i64 30,.int .i64 im,.vslice none i ks.length 1 (ks.map (IV.int .i64))],.vslice none j (k).length 1 ((k).map (IV.int .i64))] h Q=(
 aD (aM [IV.vslice none 0 l.length 3 (List.flatMap cN l),IV.agg [.int .i64 30,iI im,IV.vslice none 0 ks.length 1 (List.map (IV.int .i64) ks)],IV.vslice none 0 k.length 1 (List.map (IV.int .i64) k)]) (aJ (!dY 30 im) (Q (.int .i64 0) h) (aJ (decide ((k.length:Int)>=1)) (aJ (decide ((k.length:Int)<=7)) (aD (true&&decide (0< (k.length:Int))) (aI .i64 (List.map (IV.int .i64) k) 0 fun p=>aJ (p==2) (aD (true&& (decide (1<=(k.length:Int)) &&decide ((k.length:Int)<=(k.length:Int)))) (∃(g:Y12),((k.length:Int).toNat-1=g.length/\List.take (((k.length:Int).toNat-1)*1) (List.drop 1 (List.map (IV.int .i64) k))=List.map (IV.int .i64) g)/\g.length<=1000000000/\Q (.int .i64 (if(List.all g fun x=>decide (x=1))=true then(2:Int)else(0:Int))) h)) (Q (.int .i64 0) h))) (Q (.int .i64 0) h)) (Q (.int .i64 0) h)))):=by kernel_rfl
theorem Ff: ∀xs h Q,E5 xs h Q->aO env 122 xs h Q:=by
 intro xs h Q g;unfold E5 at g;split at g
 ·rename_i e0 n0 Z im D n1 c1 G n2 j;obtain⟨l,ks,k,⟨rfl,rfl⟩,⟨rfl,rfl⟩,⟨rfl,rfl⟩,O,g⟩:=g;refine aN (P4) (a4U l im ks k e0 D G h Q) ?_;delta iI;have tn: ∀x:Nat,(x:Int).toNat=x:=AE
  obtain⟨T,V,X,Y,z,L⟩:=O;have p: ¬ (qT k=true/\dY 30 im=true)->Q (.int .i64 0) h:=fun e=>by
   unfold bC at g;rw [if_neg IN,if_pos rfl,if_neg e]at g;exact g
  refine aA (by simp only [aM,bI,bT,cI,AT]) (aC (fun c=>p (fun e=>by rw [e.2]at c;cases c)) (fun u=>?_));rw [CV]at u
  cases k with
  |nil=>exact dA (fun c=>absurd c IP) (fun _=>p (fun e=>by cases e.1))
  |cons a r=>
   have i:(a::r).length=r.length+1:=AK;refine dA (fun _=>dA (fun A=>aA (by rw [BN,decide_eq_true_eq,i];omega) (bY (n:=a) rfl (aC (fun j=>aA (by simp only [BN,AF,decide_eq_true_eq,i];omega) ⟨r,⟨by rw [AE,i];omega,?_⟩,IM,?_⟩) (fun j=>p (fun e=>?_))))) (fun A=>p (fun e=>?_))) (fun c=>absurd c (by rw [i];omega))
   ·rw [AE,i,CF,EA,CZ,AP (by rw [BF];omega)]
   ·rw [beq_iff_eq]at j;have K:r.length<=6:=IM
    by_cases ca:(r.all fun x=>decide (x=1))=true
    ·rw [if_pos ca];unfold bC at g;rw [if_neg IN,if_pos rfl,if_pos ⟨by simp only [qT,AF,decide_eq_true_eq];exact⟨K,j,ca⟩,u⟩]at g;exact g
    ·rw [if_neg ca];refine p (fun e=>ca ?_);have:=e.1;simp only [qT,AF]at this;exact this.2.2
   ·rw [beq_eq_false_iff_ne]at j;have:=e.1;simp only [qT,AF,decide_eq_true_eq]at this;exact j this.2.1
   ·have:=e.1;simp only [qT,AF,decide_eq_true_eq]at this;omega
 ·exact g.elim
def Fg:=aT 122 E5 E4
theorem Xm:aP env Fg:=aF Ff (P4)
def X0(xs:Y14)(h:Heap)(K:KT):Prop:=match xs with
 | [.vslice none e0 n0 3 c0,.agg [.int .i64 op,.int .i64 im,.vslice none e1 n1 1 c1],.vslice none e2 n2 1 c2]=> ∃(l:Y15)(ks k:Y12),(n0=l.length/\c0=l.flatMap cN)/\(n1=ks.length/\c1=ks.map (IV.int .i64))/\(n2=k.length/\c2=k.map (IV.int .i64))/\(True/\ks.length=k.length/\k.length<=1000000/\l.length<=1000000/\(∀q∈ks,0<=q/\q<l.length)/\(k=[3]->eK l ⟨op,im,ks⟩%2=1)/\∀n∈l,n.ks.length<=1000000)/\K (.int .i64 (bC (eK l ⟨op,im,ks⟩) op im k)) h
 |_=>False
theorem b6E: ∀xs h Q,X0 xs h Q->aO env 122 xs h Q:=by
 intro xs h Q g;unfold X0 at g;split at g
 ·rename_i e0 D j op im z G p A K u;obtain⟨l,ks,k,⟨rfl,rfl⟩,⟨rfl,rfl⟩,⟨rfl,rfl⟩,⟨_,i⟩,g⟩:=g
  by_cases o31:op=31
  ·subst o31;exact Fd _ _ _ ⟨l,ks,k,⟨rfl,rfl⟩,⟨rfl,rfl⟩,⟨rfl,rfl⟩,i,g⟩
  by_cases o25:op=25
  ·subst o25;exact Fe _ _ _ ⟨l,ks,k,⟨rfl,rfl⟩,⟨rfl,rfl⟩,⟨rfl,rfl⟩,i,g⟩
  by_cases h30:op=30
  ·subst h30;exact Ff _ _ _ ⟨l,ks,k,⟨rfl,rfl⟩,⟨rfl,rfl⟩,⟨rfl,rfl⟩,i,g⟩
  unfold bC at g;rw [if_neg o31,if_neg h30,if_neg o25]at g;exact a4R _ _ _ ⟨l,ks,k,⟨rfl,rfl⟩,⟨rfl,rfl⟩,⟨rfl,rfl⟩,⟨⟨o25,h30,o31⟩,i.1,IM⟩,g⟩
 ·exact g.elim
def X1:=aT 122 X0 Fg
theorem Fh:aP env X1:=aF b6E (Xm)
def d2P(l:Y15):Inv':= .or
 (eY Heap (fun _=>[(0,.v (.vslice none 0 (l).length 3 ((l).flatMap cN))),(4,.v (.int .i64 0)),(3,.v .nilslice)]) (fun _=>[]) (fun x=>x) (fun _=>True) (fun _=>l.length))
 (eY (Nat×Nat×Heap) (fun x=>[(0,.v (.vslice none 0 (l).length 3 ((l).flatMap cN))),(4,.v (.int .i64 x.1)),(3,.v (.vslice (some x.2.1) x.1 x.1 1 ((aK (l.take x.1)).map (IV.int .i64))))]) (fun _=>[]) (fun x=>x.2.2) (fun x=>SO l x.1 x.2.1 x.2.2) (fun x=>l.length-x.1))
def d2Q(l:Y15):Inv':= .or
 (eY Heap (fun _=>[(0,.v (.vslice none 0 (l).length 3 ((l).flatMap cN))),(4,.v (.int .i64 0)),(3,.v .nilslice),(5,.v .nilslice),(6,.v (.bool true)),(7,.v (.int .i64 0))]) (fun _=>[]) (fun x=>x) (fun _=>0<l.length) (fun _=>l.length*1000002+dS l 0 0))
 (.or
 (eY (Nat×Nat×Heap) (fun x=>[(0,.v (.vslice none 0 (l).length 3 ((l).flatMap cN))),(4,.v (.int .i64 x.1)),(3,.v (.vslice (some x.2.1) x.1 x.1 1 ((aK (l.take x.1)).map (IV.int .i64)))),(5,.v .nilslice),(6,.v (.bool true)),(7,.v (.int .i64 0))]) (fun _=>[]) (fun x=>x.2.2) (fun x=>x.1<l.length/\SO l x.1 x.2.1 x.2.2) (fun x=>(l.length-x.1)*1000002+dS l x.1 0))
 (eY (Nat×Nat×Heap×Nat×Y12×Nat) (fun x=>[(0,.v (.vslice none 0 (l).length 3 ((l).flatMap cN))),(4,.v (.int .i64 x.1)),(3,.v (.vslice (some x.2.1) x.1 x.1 1 ((aK (l.take x.1)).map (IV.int .i64)))),(5,.v (.vslice (some x.2.2.2.2.2) x.2.2.2.2.1.length x.2.2.2.2.1.length 1 (x.2.2.2.2.1.map (IV.int .i64)))),(6,.v (.bool true)),(7,.v (.int .i64 x.2.2.2.1))]) (fun _=>[]) (fun x=>x.2.2.1)
  (fun x=>x.1<l.length/\SO l x.1 x.2.1 x.2.2.1/\sO l x.1 x.2.2.2.1 x.2.2.2.2.1/\SK x.2.2.2.2.1 x.2.1 x.2.2.2.2.2 x.2.2.1) (fun x=>(l.length-x.1)*1000002+dS l x.1 x.2.2.2.1)))
def Mf(xs:Y14)(h:Heap)(K:KT):Prop:=match xs with
 | [.vslice none e1 n1 3 c1]=> ∃l:Y15,(n1=l.length/\c1=l.flatMap cN)/\((∀x∈l,x.ks.length<=1000000/\True)/\l.length<=1000000)/\K (.vslice none 0 (aK l).length 1 ((aK l).map (IV.int .i64))) h
 |_=>False
def gP(l:Y15):=List.flatMap cN l
def eT(l:Y15):=l.length
def mQ(l:Y15):=TV.v (.vslice none 0 (eT l) 3 (gP l))
def cF:=IV.int .i64
def gQ:=[iI 0]
def vH:=TV.v (.int .i64 0)
def Mg(g:Y15)(ks:Y12):=(∀(q:Int),q∈ks->0<=q/\q< (g.length:Int))
abbrev Mh(l g:Y15):=l.length=g.length/\List.flatMap cN l=List.flatMap cN g
def oW:=IObj.tip 1
def Mi(l:Y15):=true&&decide (0< ((eT l):Int))
def xK:=TV.v (.bool true)
def vI:=TV.v IV.nilslice
abbrev a4V(k:Y12):=(0:Nat)=k.length/\[]=List.map cF k
def gE(l:Y15)(y0:Int)(g:IV)(i:Heap)(j:Nat):Prop:= ∃(p:Heap),some (mQ l)=some (mQ l)/\tI (y0)=some vH/\some (TV.v (g))=some vI/\i=p/\True/\l.length<j
def gF(l:Y15)(y0:Int)(i:IV)(j:Heap)(p:Nat):Prop:= ∃(g:Nat×Nat×Heap),some (mQ l)=some (mQ l)/\tI (y0)=tI (g.1:Int)/\some (TV.v (i))=some (TV.v (.vslice (some g.2.1) g.1 g.1 1 (List.map cF (aK (List.take g.1 l)))))/\j=g.2.2/\((0<g.1/\g.1<=l.length)/\Heap.get g.2.2 g.2.1=IObj.tip g.1/\g.2.1<Heap.next
 g.2.2)/\l.length-g.1<p
def a4W(M:Nat)(l:Y15)(y0:Int)(g:IV)(i:Heap):Prop:= ∃(j:Heap),some (mQ l)=some (mQ l)/\tI (y0)=some vH/\some (TV.v (g))=some vI/\some vI=some vI/\some xK=some xK/\some vH=some vH/\i=j/\Nat.le 1 (eT l)/\l.length*1000002+dS l 0 0<=M
def Fi(l:Y15)(y0 j:Int)(g i:IV)(p:Heap)(u:Nat):Prop:= ∃(z:Heap),some (mQ l)=some (mQ l)/\tI (y0)=some vH/\some (TV.v (g))=some vI/\some (TV.v (i))=some vI/\some xK=some xK/\tI (j)=some vH/\p=z/\Nat.le 1 (eT l)/\l.length*1000002+dS l 0 0<u
def a4X(M:Nat)(l:Y15)(y0:Int)(i:IV)(j:Heap):Prop:= ∃(g:Nat×Nat×Heap),some (mQ l)=some (mQ l)/\tI (y0)=tI (g.1:Int)/\some (TV.v (i))=some (TV.v (.vslice (some g.2.1) g.1 g.1 1 (List.map cF (aK (List.take g.1 l)))))/\some vI=some vI/\some xK=some xK/\some vH=some vH/\j=g.2.2/\(g.1<l.length
 /\SO l g.1 g.2.1 g.2.2)/\(l.length-g.1)*1000002+dS l g.1 0<=M
def Fj(l:Y15)(y0 p:Int)(i j:IV)(u:Heap)(z:Nat):Prop:= ∃(g:Nat×Nat×Heap),some (mQ l)=some (mQ l)/\tI (y0)=tI (g.1:Int)/\some (TV.v (i))=some (TV.v (.vslice (some g.2.1) g.1 g.1 1 (List.map cF (aK (List.take g.1 l)))))/\some (TV.v (j))=some vI/\some xK=some xK/\tI (p)=some vH/\u=g.2.2/\(g.1<l.length
 /\SO l g.1 g.2.1 g.2.2)/\(l.length-g.1)*1000002+dS l g.1 0<z
def a4Y(M:Nat)(l:Y15)(y0:Int)(i:IV)(j:Heap):Prop:= ∃(g:Nat×Nat×Heap×Nat×Y12×Nat),some (mQ l)=some (mQ l)/\tI (y0)=tI (g.1:Int)/\some (TV.v (i))=some (TV.v (.vslice (some g.2.1) g.1 g.1 1 (List.map cF (aK (List.take g.1 l)))))/\some vI=some (TV.v (.vslice (some g.2.2.2.2.2) g.2.2.2.2.1.length g.2.2.2.2.1.length
 1 (List.map cF g.2.2.2.2.1)))/\some xK=some xK/\some vH=tI (g.2.2.2.1:Int)/\j=g.2.2.1/\(g.1<l.length/\SO l g.1 g.2.1 g.2.2.1/\sO l g.1 g.2.2.2.1 g.2.2.2.2.1/\SK g.2.2.2.2.1 g.2.1 g.2.2.2.2.2 g.2.2.1)/\(l.length-g.1)*1000002+dS l g.1 g.2.2.2.1<=M
def Fk(l:Y15)(y0 p:Int)(i j:IV)(u:Heap)(z:Nat):Prop:= ∃(g:Nat×Nat×Heap×Nat×Y12×Nat),some (mQ l)=some (mQ l)/\tI (y0)=tI (g.1:Int)/\some (TV.v (i))=some (TV.v (.vslice (some g.2.1) g.1 g.1 1 (List.map cF (aK (List.take g.1 l)))))/\some (TV.v (j))=some (TV.v (.vslice (some g.2.2.2.2.2) g.2.2.2.2.1.length
 g.2.2.2.2.1.length 1 (List.map cF g.2.2.2.2.1)))/\some xK=some xK/\tI (p)=tI (g.2.2.2.1:Int)/\u=g.2.2.1/\(g.1<l.length/\SO l g.1 g.2.1 g.2.2.1/\sO l g.1 g.2.2.2.1 g.2.2.2.2.1/\SK g.2.2.2.2.1 g.2.1 g.2.2.2.2.2 g.2.2.1)/\(l.length-g.1)*1000002+dS l g.1
 g.2.2.2.1<z
theorem c4V(l:Y15)(e1:Nat)(h:Heap)(Q:KT):dF (aS X1) env 63 dL (N6 4 (d2P l) (kR 1000009 (d2Q l))) bS [.vslice none e1 (l).length 3 ((l).flatMap cN)] h Q=(
 aD (aM [IV.vslice none 0 (eT l) 3 (gP l)]) (((∃(x:Heap),some (mQ l)=some (mQ l)/\some vH=some vH/\some vI=some vI/\Heap.mk PT.nil 0=x/\True/\True) \/ ∃(x:Nat×Nat×Heap),some (mQ l)=some (mQ l)/\some vH=tI (x.1:Int)/\some vI=some (TV.v (.vslice (some x.2.1) x.1 x.1 1 (List.map cF (aK (List.take x.1 l)))))/\Heap.mk PT.nil 0=x.2.2/\((0<x.1/\x.1<=l.length)/\Heap.get x.2.2 x.2.1=IObj.tip x.1/\x.2.1<x.2.2.next)/\True)/\(∀(x:Heap)(b:FF),True->aJ (decide (0< ((eT l):Int))) (∃(M:Nat),((a4W M l 0 IV.nilslice x) \/ (a4X M l 0 IV.nilslice x) \/a4Y M l 0 IV.nilslice x)/\(∀(x:Heap)(b:FF),0<l.length->l.length*1000002+dS l 0 0<=M->aD (Mi l) (aX 1 (gP l) 2 fun(i0:Y10)(e1 l2:Nat)(c3:Y14)=>aJ (decide ((0:Int)< (l2:Int))) (aD (Mi l) (aX 1 (gP l) 2 fun(i4:Y10)(e5 l6:Nat)(c7:Y14)=>aD (true&&decide (0< (l6:Int))) (aI .i64 c7 0 fun n8=>aJ (decide (n8<0)) ((gE l 1 (IV.vslice (some (x.next)) 1 1 1 gQ) (x.push oW) (eT l)) \/gF l 1 (IV.vslice (some (x.next)) 1 1 1 gQ) (x.push oW) (eT l)) (aJ (decide (n8>=0)) ((gE l 1 (IV.vslice (some (x.next)) 1 1 1 gQ) (x.push oW) (eT l)) \/gF l 1 (IV.vslice (some (x.next)) 1 1 1 gQ) (x.push oW) (eT l)) False)))) (aD (Mi l) (aI .i64 (gP l) 0 fun n9=>aI .i64 (gP l) 1 fun G=>aX 1 (gP l) 2 fun(i5:Y10)(g8 c8:Nat)(b5:Y14)=> ∃(i:Y15)(ks k:Y12),(Mh l i)/\(c8=ks.length/\b5=List.map cF ks)/\(a4V k)/\(True/\ks.length=k.length/\k.length<=1000000/\i.length<=(1000000:Nat)/\(Mg i ks)/\(k=[(3:Int)]->eK i (Nd.mk n9 G ks)% (2:Nat)=1)/\∀(n:Nd),n∈i->List.length (Nd.ks n)<=1000000)/\((gE l 1 (IV.vslice (some (x.next)) 1 1 1 [iI (bC (eK i (Nd.mk n9 G ks)) n9 G k)]) (x.push oW) (eT l)) \/gF l 1 (IV.vslice (some (x.next)) 1 1 1 [iI (bC (eK i (Nd.mk n9 G ks)) n9 G k)]) (x.push oW) (eT l))))))/\(∀(x:Nat×Nat×Heap)(b:FF),x.1<l.length/\SO l (x.1) x.2.1 x.2.2->(l.length-x.1)*1000002+dS l x.1 0<=M->aD (decide (0<=(x.1:Int)) &&decide ((x.1:Int)< ((eT l):Int))) (aX 1 (gP l) ((x.1:Int).toNat*(3:Nat)+2) fun(i6:Y10)(g9 c9:Nat)(g3:Y14)=>aJ (decide (0< (c9:Int))) (aD (decide (0<=(x.1:Int)) &&decide ((x.1:Int)< ((eT l):Int))) (aX 1 (gP l) ((x.1:Int).toNat*3+(2:Nat)) fun(i7:Y10)(h0 d0:Nat)(b6:Y14)=>aD (true&&decide (0< (d0:Int))) (aI .i64 b6 0 fun z=>aJ (decide (z<0)) (cK x.2.2 x.2.1 fun(e4:Nat)=>aD (Nat.beq e4 (x.1) &&Nat.ble ((x.1+1)*8) 140737488355328) ((gE l (wW ((x.1:Int)+1)) (IV.vslice (some x.2.1) (x.1+1) (x.1+1) 1 (List.map cF (aK (List.take x.1 l))++gQ)) (x.2.2.set x.2.1 (IObj.tip (x.1+1))) (eT l)) \/gF l (wW ((x.1:Int)+1)) (IV.vslice (some x.2.1) (x.1+1) (x.1+1) 1 (List.map cF (aK (List.take x.1 l))++gQ)) (x.2.2.set x.2.1 (IObj.tip (x.1+1))) (eT l))) (aJ (decide (z>=(x.1:Int))) (cK x.2.2 x.2.1 fun(e6:Nat)=>aD (Nat.beq e6 x.1&&Nat.ble ((x.1+1)*8) 140737488355328) ((gE l (wW ((x.1:Int)+1)) (IV.vslice (some x.2.1) (x.1+1) (x.1+1) 1 (List.map cF (aK (List.take x.1 l))++gQ)) (x.2.2.set x.2.1 (IObj.tip (x.1+1))) (eT l)) \/gF l (wW ((x.1:Int)+1)) (IV.vslice (some x.2.1) (x.1+1) (x.1+1) 1 (List.map cF (aK (List.take x.1 l))++gQ)) (x.2.2.set x.2.1 (IObj.tip (x.1+1))) (eT l))) (aD (decide (0<=z) &&decide (z< (x.1:Int))) (aI .i64 (List.map cF (aK (List.take x.1 l))) (z.toNat*1) fun f8=>aJ (f8==0) (cK x.2.2 x.2.1 fun(e7:Nat)=>aD (Nat.beq e7 x.1&&Nat.ble ((x.1+1)*8) 140737488355328) ((gE l (wW ((x.1:Int)+(1:Int))) (IV.vslice (some x.2.1) (x.1+1) (x.1+1) 1 (List.map cF (aK (List.take x.1 l))++gQ)) (x.2.2.set x.2.1 (IObj.tip (x.1+1))) (eT l)) \/gF l (wW ((x.1:Int)+1)) (IV.vslice (some x.2.1) (x.1+1) (x.1+1) 1 (List.map cF (aK (List.take x.1 l))++gQ)) (x.2.2.set x.2.1 (IObj.tip (x.1+1))) (eT l))) (aD (decide (0<=z) &&decide (z< (x.1:Int))) (aI .i64 (List.map cF (aK (List.take x.1 l))) (z.toNat*1) fun a1=>(Fi l (x.1:Int) 1 (IV.vslice (some x.2.1) x.1 (x.1) 1 (List.map cF (aK (List.take x.1 l)))) (IV.vslice (some (x.2.2.next)) 1 1 1 [iI a1]) (x.2.2.push oW) ((l.length-x.1)*1000002+dS l x.1 0)) \/ (Fj l (x.1:Int) 1 (IV.vslice (some x.2.1) x.1 x.1 1 (List.map cF (aK (List.take x.1 l)))) (IV.vslice (some (x.2.2.next)) 1 1 1 [iI a1]) ((x.2.2).push oW) ((l.length-x.1)*1000002+dS l x.1 0)) \/Fk l (x.1:Int) 1 (IV.vslice (some x.2.1) x.1 x.1 1 (List.map cF (aK (List.take x.1 l)))) (IV.vslice (some (x.2.2.next)) 1 1 1 [iI a1]) (x.2.2.push oW) ((l.length-x.1)*1000002+dS l x.1 0))))))))) (aD (decide (0<=(x.1:Int)) &&decide ((x.1:Int)< ((eT l):Int))) (aI .i64 (gP l) ((x.1:Int).toNat*3) fun L=>aI .i64 (gP l) ((x.1:Int).toNat*3+1) fun O=>aX 1 (gP l) ((x.1:Int).toNat*3+1+1) fun(i8:Y10)(h1 d1:Nat)(b7:Y14)=> ∃(i:Y15)(ks k:Y12),(Mh l i)/\(d1=ks.length/\b7=List.map cF ks)/\(a4V k)/\(True/\ks.length=k.length/\k.length<=1000000/\i.length<=1000000/\(Mg i ks)/\(k=[(3:Int)]->eK i (Nd.mk L O ks)% (2:Nat)=1)/\∀(n:Nd),n∈i->List.length (Nd.ks n)<=1000000)/\cK x.2.2 x.2.1 fun(e8:Nat)=>aD (Nat.beq e8 x.1&&Nat.ble ((x.1+1)*(8:Nat)) 140737488355328) ((gE l (wW ((x.1:Int)+1)) (IV.vslice (some x.2.1) (x.1+1) (x.1+1) 1 (List.map cF (aK (List.take x.1 l))++ [iI (bC (eK i (Nd.mk L O ks)) L O k)])) (x.2.2.set x.2.1 (IObj.tip (x.1+1))) (eT l)) \/gF l (wW ((x.1:Int)+1)) (IV.vslice (some x.2.1) (x.1+1) (x.1+1) 1 (List.map cF (aK (List.take x.1 l))++ [iI (bC (eK i (Nd.mk L O ks)) L O k)])) (x.2.2.set x.2.1 (IObj.tip (x.1+1))) (eT l))))))/\∀(x:Nat×Nat×Heap×Nat×Y12×Nat)(b:FF),x.1<l.length/\SO l x.1 x.2.1 x.2.2.1/\sO l x.1 x.2.2.2.1 x.2.2.2.2.1/\SK x.2.2.2.2.1 ((x.2).1) x.2.2.2.2.2 x.2.2.1->(l.length-x.1)*1000002+dS l x.1 x.2.2.2.1<=M->aD (decide (0<=(x.1:Int)) &&decide ((x.1:Int)< ((eT l):Int))) (aX 1 (gP l) ((x.1:Int).toNat*3+2) fun(i9:Y10)(h2 d2:Nat)(g4:Y14)=>aJ (decide ((x.2.2.2.1:Int)< (d2:Int))) (aD (decide (0<=(x.1:Int)) &&decide ((x.1:Int)< ((eT l):Int))) (aX 1 (gP l) ((x.1:Int).toNat*3+2) fun(j0:Y10)(h3 d3:Nat)(b9:Y14)=>aD (decide (0<=(x.2.2.2.1:Int)) &&decide ((↑((x.2.2.2).1):Int)< (d3:Int))) (aI .i64 b9 ((x.2.2.2.1:Int).toNat*1) fun A=>aJ (decide (A<0)) (cK x.2.2.1 x.2.1 fun(e9:Nat)=>aD (Nat.beq e9 x.1&&Nat.ble ((x.1+1)*8) 140737488355328) ((gE l (wW ((x.1:Int)+1)) (IV.vslice (some x.2.1) (x.1+1) (x.1+1) 1 (List.map cF (aK (List.take (x.1) l))++gQ)) (x.2.2.1.set x.2.1 (IObj.tip (x.1+1))) (eT l)) \/gF l (wW ((x.1:Int)+1)) (IV.vslice (some x.2.1) (x.1+1) (x.1+1) 1 (List.map cF (aK (List.take x.1 l))++gQ)) (x.2.2.1.set x.2.1 (IObj.tip (x.1+1))) (eT l))) (aJ (decide (A>=(x.1:Int))) (cK x.2.2.1 x.2.1 fun(f0:Nat)=>aD (Nat.beq f0 x.1&&Nat.ble ((x.1+1)*8) 140737488355328) ((gE l (wW ((x.1:Int)+1)) (IV.vslice (some x.2.1) (x.1+1) (x.1+1) 1 (List.map cF (aK (List.take x.1 l))++gQ)) (x.2.2.1.set x.2.1 (IObj.tip (x.1+1))) (eT l)) \/gF l (wW ((x.1:Int)+1)) (IV.vslice (some x.2.1) (x.1+(1:Nat)) (x.1+1) 1 (List.map cF (aK (List.take x.1 l))++gQ)) (x.2.2.1.set x.2.1 (IObj.tip (x.1+1))) (eT l))) (aD (decide (0<=A) &&decide (A< (x.1:Int))) (aI .i64 (List.map cF (aK (List.take x.1 l))) (A.toNat*1) fun f9=>aJ (f9==0) (cK x.2.2.1 x.2.1 fun(f1:Nat)=>aD (Nat.beq f1 x.1&&Nat.ble ((x.1+1)*8) 140737488355328) ((gE l (wW ((x.1:Int)+1)) (IV.vslice (some x.2.1) (x.1+1) (x.1+1) 1 (List.map cF (aK (List.take x.1 l))++gQ)) (x.2.2.1.set ((x.2).1) (IObj.tip (x.1+1))) (eT l)) \/gF l (wW ((x.1:Int)+1)) (IV.vslice (some x.2.1) (x.1+1) (x.1+1) 1 (List.map cF (aK (List.take x.1 l))++gQ)) ((x.2.2.1).set x.2.1 (IObj.tip (x.1+1))) (eT l))) (aD (decide (0<=A) &&decide (A< (x.1:Int))) (aI .i64 (List.map cF (aK (List.take x.1 l))) (A.toNat*1) fun a2=>cK (x.2.2.1) x.2.2.2.2.2 fun(f2:Nat)=>aD (Nat.beq f2 x.2.2.2.2.1.length&&Nat.ble ((x.2.2.2.2.1.length+1)*8) 140737488355328) ((Fi l (x.1:Int) (wW ((x.2.2.2.1:Int)+1)) (IV.vslice (some x.2.1) x.1 x.1 1 (List.map cF (aK (List.take x.1 l)))) (IV.vslice (some ((x.2.2.2.2).2)) (x.2.2.2.2.1.length+1) (x.2.2.2.2.1.length+1) 1 (List.map cF x.2.2.2.2.1++ [iI a2])) (x.2.2.1.set x.2.2.2.2.2 (IObj.tip (x.2.2.2.2.1.length+1))) ((l.length-x.1)*1000002+dS l x.1 (((x.2.2).2).1))) \/ (Fj l (x.1:Int) (wW ((x.2.2.2.1:Int)+1)) (IV.vslice (some x.2.1) x.1 x.1 1 (List.map cF (aK (List.take x.1 l)))) (IV.vslice (some (x.2.2.2.2.2)) (x.2.2.2.2.1.length+1) (x.2.2.2.2.1.length+1) 1 (List.map cF x.2.2.2.2.1++ [iI a2])) (x.2.2.1.set x.2.2.2.2.2 (IObj.tip (x.2.2.2.2.1.length+1))) ((l.length-x.1)*1000002+dS l x.1 ((x.2.2.2).1))) \/Fk l (x.1:Int) (wW ((x.2.2.2.1:Int)+1)) (IV.vslice (some x.2.1) x.1 x.1 1 (List.map cF (aK (List.take x.1 l)))) (IV.vslice (some x.2.2.2.2.2) (x.2.2.2.2.1.length+1) (x.2.2.2.2.1.length+1) 1 (List.map cF x.2.2.2.2.1++ [iI a2])) (x.2.2.1.set x.2.2.2.2.2 (IObj.tip (x.2.2.2.2.1.length+1))) ((l.length-x.1)*1000002+dS l x.1 (x.2.2.2.1))))))))))) (aD (decide (0<=(x.1:Int)) &&decide ((x.1:Int)< ((eT l):Int))) (aI .i64 (gP l) ((x.1:Int).toNat*3) fun T=>aI .i64 (gP l) ((x.1:Int).toNat*(3:Nat)+1) fun V=>aX 1 (gP l) ((x.1:Int).toNat*3+1+1) fun(j1:Y10)(h4 d4:Nat)(c0:Y14)=> ∃(i:Y15)(ks k:Y12),(Mh l i)/\(d4=ks.length/\c0=List.map cF ks)/\(x.2.2.2.2.1.length=k.length/\List.map cF x.2.2.2.2.1=List.map cF k)/\(True/\ks.length=k.length/\k.length<=1000000/\i.length<=1000000/\(Mg i ks)/\(k=[(3:Int)]->eK i (Nd.mk T V ks)% (2:Nat)=1)/\∀(n:Nd),n∈i->List.length (Nd.ks n)<=1000000)/\cK x.2.2.1 x.2.1 fun(f3:Nat)=>aD (Nat.beq f3 x.1&&Nat.ble ((x.1+1)*(8:Nat)) 140737488355328) ((gE l (wW ((x.1:Int)+1)) (IV.vslice (some x.2.1) (x.1+1) (x.1+1) 1 (List.map cF (aK (List.take x.1 l))++ [iI (bC (eK i (Nd.mk T V ks)) T V k)])) (x.2.2.1.set x.2.1 (IObj.tip (x.1+1))) (eT l)) \/gF l (wW ((x.1:Int)+1)) (IV.vslice (some x.2.1) (x.1+1) (x.1+(1:Nat)) 1 (List.map cF (aK (List.take x.1 l))++ [iI (bC (eK i (Nd.mk T V ks)) T V k)])) (x.2.2.1.set x.2.1 (IObj.tip (x.1+1))) (eT l)))))) (Q (.vslice none 0 0 1 []) h))/\∀(x:Nat×Nat×Heap)(b:FF),SO l x.1 x.2.1 x.2.2->aJ (decide ((x.1:Int)< ((eT l):Int))) (∃(M:Nat),((a4W M l (x.1:Int) (IV.vslice (some x.2.1) x.1 x.1 1 (List.map cF (aK (List.take x.1 l)))) x.2.2) \/ (a4X M l (x.1:Int) (IV.vslice (some x.2.1) x.1 x.1 1 (List.map cF (aK (List.take x.1 l)))) x.2.2) \/a4Y M l ((x.1):Int) (IV.vslice (some x.2.1) x.1 x.1 1 (List.map cF (aK (List.take x.1 l)))) x.2.2)/\(∀(g:Heap)(b:FF),0<l.length->l.length*1000002+dS l 0 0<=M->aD (Mi l) (aX 1 (gP l) 2 fun(j2:Y10)(h5 d5:Nat)(g5:Y14)=>aJ (decide (0< (d5:Int))) (aD (Mi l) (aX 1 (gP l) 2 fun(j3:Y10)(h6 d6:Nat)(c1:Y14)=>aD (true&&decide (0< (d6:Int))) (aI .i64 c1 0 fun b4=>aJ (decide (b4<0)) ((gE l 1 (IV.vslice (some (g.next)) 1 1 1 gQ) (g.push oW) (l.length-x.1)) \/gF l 1 (IV.vslice (some (g.next)) 1 1 1 gQ) (g.push oW) (l.length-x.1)) (aJ (decide (b4>=0)) ((gE l 1 (IV.vslice (some (g.next)) 1 1 1 gQ) (g.push oW) (l.length-x.1)) \/gF l 1 (IV.vslice (some (g.next)) 1 1 1 gQ) (g.push oW) (l.length-x.1)) False)))) (aD (Mi l) (aI .i64 (gP l) 0 fun X=>aI .i64 (gP l) 1 fun Y=>aX 1 (gP l) 2 fun(j4:Y10)(h7 d7:Nat)(c2:Y14)=> ∃(i:Y15)(ks k:Y12),(Mh l i)/\(d7=ks.length/\c2=List.map cF ks)/\(a4V k)/\(True/\ks.length=k.length/\k.length<=1000000/\i.length<=1000000/\(Mg i ks)/\(k=[(3:Int)]->eK i (Nd.mk X Y ks)% (2:Nat)=1)/\∀(n:Nd),n∈i->List.length (Nd.ks n)<=1000000)/\((gE l 1 (IV.vslice (some (g.next)) 1 1 1 [iI (bC (eK i (Nd.mk X Y ks)) X Y k)]) (g.push oW) (l.length-x.1)) \/gF l 1 (IV.vslice (some (g.next)) 1 1 1 [iI (bC (eK i (Nd.mk X Y ks)) X Y k)]) (g.push oW) (l.length-x.1))))))/\(∀(g:Nat×Nat×Heap)(b:FF),g.1<l.length/\SO l g.1 ((g.2).1) g.2.2->(l.length-g.1)*1000002+dS l g.1 0<=M->aD (decide (0<=(g.1:Int)) &&decide ((g.1:Int)< ((eT l):Int))) (aX 1 (gP l) ((g.1:Int).toNat*3+(2:Nat)) fun(j5:Y10)(h8 d8:Nat)(g6:Y14)=>aJ (decide (0< (d8:Int))) (aD (decide (0<=(g.1:Int)) &&decide ((g.1:Int)< ((eT l):Int))) (aX 1 (gP l) ((g.1:Int).toNat*3+2) fun(j6:Y10)(h9 d9:Nat)(c5:Y14)=>aD (true&&decide (0< (d9:Int))) (aI .i64 c5 0 fun D=>aJ (decide (D<0)) (cK g.2.2 g.2.1 fun(f4:Nat)=>aD (Nat.beq f4 g.1&&Nat.ble ((g.1+1)*8) 140737488355328) ((gE l (wW ((g.1:Int)+1)) (IV.vslice (some g.2.1) (g.1+1) (g.1+1) 1 (List.map cF (aK (List.take (g.1) l))++gQ)) (g.2.2.set g.2.1 (IObj.tip (g.1+1))) (l.length-x.1)) \/gF l (wW ((g.1:Int)+1)) (IV.vslice (some g.2.1) (g.1+1) (g.1+1) 1 (List.map cF (aK (List.take g.1 l))++gQ)) (g.2.2.set g.2.1 (IObj.tip (g.1+1))) (l.length-x.1))) (aJ (decide (D>=(g.1:Int))) (cK g.2.2 (g.2.1) fun(f5:Nat)=>aD (Nat.beq f5 g.1&&Nat.ble ((g.1+1)*8) 140737488355328) ((gE l (wW ((g.1:Int)+1)) (IV.vslice (some g.2.1) (g.1+1) (g.1+1) 1 (List.map cF (aK (List.take g.1 l))++gQ)) (g.2.2.set g.2.1 (IObj.tip (g.1+1))) (l.length-x.1)) \/gF l (wW ((g.1:Int)+1)) (IV.vslice (some g.2.1) (g.1+1) (g.1+1) 1 (List.map cF (aK (List.take g.1 l))++gQ)) (g.2.2.set g.2.1 (IObj.tip (g.1+1))) (l.length-x.1))) (aD (decide (0<=D) &&decide (D< (g.1:Int))) (aI .i64 (List.map cF (aK (List.take g.1 l))) (D.toNat*1) fun g0=>aJ (g0==0) (cK g.2.2 g.2.1 fun(f6:Nat)=>aD (Nat.beq f6 (g.1) &&Nat.ble ((g.1+1)*8) 140737488355328) ((gE l (wW ((g.1:Int)+1)) (IV.vslice (some g.2.1) (g.1+1) (g.1+1) 1 (List.map cF (aK (List.take (g.1) l))++gQ)) (g.2.2.set g.2.1 (IObj.tip (g.1+1))) (l.length-x.1)) \/gF l (wW ((g.1:Int)+1)) (IV.vslice (some g.2.1) (g.1+1) (g.1+1) 1 (List.map cF (aK (List.take g.1 l))++gQ)) (g.2.2.set g.2.1 (IObj.tip (g.1+1))) (l.length-x.1))) (aD (decide (0<=D) &&decide (D< (g.1:Int))) (aI .i64 (List.map cF (aK (List.take g.1 l))) (D.toNat*1) fun a3=>(Fi l (g.1:Int) 1 (IV.vslice (some g.2.1) g.1 g.1 1 (List.map cF (aK (List.take g.1 l)))) (IV.vslice (some (g.2.2.next)) 1 1 1 [iI a3]) (g.2.2.push oW) ((l.length-g.1)*1000002+dS l g.1 0)) \/ (Fj l (g.1:Int) 1 (IV.vslice (some (g.2.1)) g.1 g.1 1 (List.map cF (aK (List.take g.1 l)))) (IV.vslice (some (g.2.2.next)) 1 1 1 [iI a3]) (g.2.2.push oW) ((l.length-g.1)*(1000002:Nat)+dS l g.1 0)) \/Fk l (g.1:Int) 1 (IV.vslice (some g.2.1) g.1 g.1 1 (List.map cF (aK (List.take g.1 l)))) (IV.vslice (some (g.2.2.next)) 1 1 1 [iI a3]) (g.2.2.push oW) ((l.length-g.1)*1000002+dS l g.1 0))))))))) (aD (decide (0<=(g.1:Int)) &&decide ((g.1:Int)< ((eT l):Int))) (aI .i64 (gP l) ((g.1:Int).toNat*3) fun Z=>aI .i64 (gP l) ((g.1:Int).toNat*3+1) fun a0=>aX 1 (gP l) ((g.1:Int).toNat*3+1+1) fun(j7:Y10)(i1 e2:Nat)(c6:Y14)=> ∃(i:Y15)(ks k:Y12),(Mh l i)/\(e2=ks.length/\c6=List.map cF ks)/\(a4V k)/\(True/\ks.length=k.length/\k.length<=1000000/\i.length<=1000000/\(Mg i ks)/\(k=[(3:Int)]->eK i (Nd.mk Z a0 ks)% (2:Nat)=1)/\∀(n:Nd),n∈i->List.length (Nd.ks n)<=1000000)/\cK g.2.2 g.2.1 fun(f7:Nat)=>aD (Nat.beq f7 g.1&&Nat.ble ((g.1+1)*8) 140737488355328) ((gE l (wW ((g.1:Int)+1)) (IV.vslice (some g.2.1) (g.1+1) (g.1+1) 1 (List.map cF (aK (List.take g.1 l))++ [iI (bC (eK i (Nd.mk Z a0 ks)) Z a0 k)])) (g.2.2.set g.2.1 (IObj.tip (g.1+1))) (l.length-x.1)) \/gF l (wW ((g.1:Int)+1)) (IV.vslice (some g.2.1) (g.1+1) (g.1+1) 1 (List.map cF (aK (List.take g.1 l))++ [iI (bC (eK i (Nd.mk Z a0 ks)) Z a0 k)])) (g.2.2.set g.2.1 (IObj.tip (g.1+1))) (l.length-x.1))))))/\∀(g:Nat×Nat×Heap×Nat×Y12×Nat)(b:FF),g.1<l.length/\SO l g.1 g.2.1 g.2.2.1/\sO l g.1 g.2.2.2.1 g.2.2.2.2.1/\SK (g.2.2.2.2.1) g.2.1 g.2.2.2.2.2 g.2.2.1->(l.length-g.1)*1000002+dS l g.1 g.2.2.2.1<=M->aD (decide (0<=(g.1:Int)) &&decide ((g.1:Int)< ((eT l):Int))) (aX 1 (gP l) ((g.1:Int).toNat*3+2) fun(j8:Y10)(i2 e3:Nat)(g7:Y14)=>aJ (decide ((↑((((g.2).2).2).1):Int)< (e3:Int))) (aD (decide (0<=(g.1:Int)) &&decide ((g.1:Int)< ((eT l):Int))) (aX 1 (gP l) ((g.1:Int).toNat*3+2) fun(j9:Y10)(i3 a6:Nat)(a4:Y14)=>aD (decide (0<=(g.2.2.2.1:Int)) &&decide ((g.2.2.2.1:Int)< (a6:Int))) (aI .i64 a4 ((g.2.2.2.1:Int).toNat*1) fun j=>aJ (decide (j< (0:Int))) (cK g.2.2.1 g.2.1 fun(a8:Nat)=>aD (Nat.beq a8 g.1&&Nat.ble ((g.1+1)*8) 140737488355328) ((gE l (wW ((g.1:Int)+1)) (IV.vslice (some g.2.1) (g.1+1) (g.1+1) 1 (List.map cF (aK (List.take g.1 l))++gQ)) (g.2.2.1.set g.2.1 (IObj.tip (g.1+1))) (l.length-x.1)) \/gF l (wW ((g.1:Int)+1)) (IV.vslice (some g.2.1) (g.1+1) (g.1+1) 1 (List.map cF (aK (List.take g.1 l))++gQ)) (g.2.2.1.set ((g.2).1) (IObj.tip (g.1+1))) (l.length-x.1))) (aJ (decide (j>=(g.1:Int))) (cK g.2.2.1 g.2.1 fun(a9:Nat)=>aD (Nat.beq a9 g.1&&Nat.ble ((g.1+1)*8) 140737488355328) ((gE l (wW ((g.1:Int)+1)) (IV.vslice (some g.2.1) (g.1+1) (g.1+1) 1 (List.map cF (aK (List.take g.1 l))++gQ)) (g.2.2.1.set g.2.1 (IObj.tip (g.1+1))) (l.length-x.1)) \/gF l (wW ((g.1:Int)+1)) (IV.vslice (some g.2.1) (g.1+1) (g.1+1) 1 (List.map cF (aK (List.take g.1 l))++gQ)) (g.2.2.1.set g.2.1 (IObj.tip (g.1+1))) (l.length-x.1))) (aD (decide (0<=j) &&decide (j< (g.1:Int))) (aI .i64 (List.map cF (aK (List.take g.1 l))) (j.toNat*1) fun b3=>aJ (b3==0) (cK g.2.2.1 g.2.1 fun(b0:Nat)=>aD (Nat.beq b0 g.1&&Nat.ble ((g.1+1)*8) 140737488355328) ((gE l (wW ((g.1:Int)+1)) (IV.vslice (some g.2.1) (g.1+1) (g.1+1) 1 (List.map cF (aK (List.take g.1 l))++gQ)) (g.2.2.1.set (g.2.1) (IObj.tip (g.1+1))) (l.length-x.1)) \/gF l (wW ((g.1:Int)+1)) (IV.vslice (some g.2.1) (g.1+1) (g.1+1) 1 (List.map cF (aK (List.take g.1 l))++gQ)) (g.2.2.1.set g.2.1 (IObj.tip (g.1+1))) (l.length-x.1))) (aD (decide (0<=j) &&decide (j< (g.1:Int))) (aI .i64 (List.map cF (aK (List.take g.1 l))) (j.toNat*1) fun K=>cK g.2.2.1 g.2.2.2.2.2 fun(b1:Nat)=>aD (Nat.beq b1 g.2.2.2.2.1.length&&Nat.ble ((g.2.2.2.2.1.length+1)*8) 140737488355328) ((Fi l (g.1:Int) (wW ((g.2.2.2.1:Int)+1)) (IV.vslice (some g.2.1) g.1 g.1 1 (List.map cF (aK (List.take g.1 l)))) (IV.vslice (some g.2.2.2.2.2) (g.2.2.2.2.1.length+1) ((((((g.2).2).2).2).1).length+1) 1 (List.map cF g.2.2.2.2.1++ [iI K])) (g.2.2.1.set g.2.2.2.2.2 (IObj.tip (((((g.2.2).2).2).1).length+1))) ((l.length-g.1)*1000002+dS l g.1 g.2.2.2.1)) \/ (Fj l (g.1:Int) (wW ((g.2.2.2.1:Int)+1)) (IV.vslice (some g.2.1) g.1 g.1 1 (List.map cF (aK (List.take g.1 l)))) (IV.vslice (some g.2.2.2.2.2) (g.2.2.2.2.1.length+1) (g.2.2.2.2.1.length+1) 1 (List.map cF g.2.2.2.2.1++ [iI K])) (g.2.2.1.set g.2.2.2.2.2 (IObj.tip (g.2.2.2.2.1.length+1))) ((l.length-g.1)*1000002+dS l g.1 g.2.2.2.1)) \/Fk l (g.1:Int) (wW ((↑(((g.2.2).2).1):Int)+1)) (IV.vslice (some g.2.1) g.1 g.1 1 (List.map cF (aK (List.take g.1 l)))) (IV.vslice (some g.2.2.2.2.2) (((((g.2.2).2).2).1).length+1) (g.2.2.2.2.1.length+1) 1 (List.map cF g.2.2.2.2.1++ [iI K])) (g.2.2.1.set (((g.2.2.2).2).2) (IObj.tip (g.2.2.2.2.1.length+1))) ((l.length-g.1)*1000002+dS l g.1 g.2.2.2.1)))))))))) (aD (decide (0<=(g.1:Int)) &&decide ((g.1:Int)< ((eT l):Int))) (aI .i64 (gP l) ((g.1:Int).toNat*3) fun p=>aI .i64 (gP l) ((g.1:Int).toNat*3+1) fun u=>aX 1 (gP l) ((g.1:Int).toNat*3+1+1) fun(g2:Y10)(g1 a7:Nat)(a5:Y14)=> ∃(i:Y15)(ks k:Y12),(Mh l i)/\(a7=ks.length/\a5=List.map cF ks)/\((((((g.2).2).2).2).1).length=k.length/\List.map cF g.2.2.2.2.1=List.map cF k)/\(True/\ks.length=k.length/\k.length<=1000000/\i.length<=1000000/\(Mg i ks)/\(k=[(3:Int)]->eK i (Nd.mk p u ks)% (2:Nat)=1)/\∀(n:Nd),n∈i->List.length (Nd.ks n)<=1000000)/\cK g.2.2.1 g.2.1 fun(b2:Nat)=>aD (Nat.beq b2 g.1&&Nat.ble ((g.1+1)*8) 140737488355328) ((gE l (wW ((g.1:Int)+1)) (IV.vslice (some g.2.1) (g.1+1) (g.1+1) 1 (List.map cF (aK (List.take g.1 l))++ [iI (bC (eK i (Nd.mk p u ks)) p u k)])) ((g.2.2.1).set g.2.1 (IObj.tip (g.1+1))) (l.length-x.1)) \/gF l (wW ((g.1:Int)+1)) (IV.vslice (some g.2.1) (g.1+1) (g.1+1) 1 (List.map cF (aK (List.take g.1 l))++ [iI (bC (eK i (Nd.mk p u ks)) p u k)])) (g.2.2.1.set g.2.1 (IObj.tip (g.1+1))) (l.length-x.1)))))) (aD (aM [IV.vslice none 0 x.1 1 (List.map cF (aK (List.take x.1 l)))]) (Q (.vslice none 0 x.1 1 (List.map cF (aK (List.take x.1 l)))) h)))):=by kernel_rfl
theorem a4Z: ∀xs h Q,Mf xs h Q->aO env 63 xs h Q:=by
 intro xs h Q hk;unfold Mf at hk;split at hk
 ·rename_i e1 n1 T;obtain⟨l,⟨rfl,rfl⟩,hb,hk⟩:=hk;refine aN (Fh) (c4V l e1 h Q) ?_;delta gE gF a4W Fi a4X Fj a4Y Fk mQ cF gQ vH Mg gP Mh oW eT Mi xK vI a4V tI wW iI;have tn: ∀x:Nat,(x:Int).toNat=x:=AE
  obtain⟨G,a1⟩:=hb;have a2: ∀{i:Nat}(h:i<l.length),l[i].ks.length<=1000000:=fun h=>(G _ (AG h)).1
  have b4: ∀i,dS l i 0<=1000000:=fun i=>by
   rcases BC i l.length with q|q
   ·rw [eZ q];have:=a2 q;omega
   ·unfold dS
    rw [BG q];exact AR _
  refine aA (by simp only [aM,bI,cI,AT]) ⟨.inl ⟨Heap.empty,IR,IR,IR,IR,trivial,trivial⟩,?_,?_⟩
  ·rintro g _ _;refine aC (fun c=>?_) (fun c=>?_)
   ·rw [decide_eq_true_eq]at c;have a4:0<l.length:=IM;refine⟨l.length*1000002+dS l 0 0,.inl ⟨g,IR,IR,IR,IR,IR,IR,IR,a4,AJ _⟩,?_,?_,?_⟩
    ·rintro g _ z hM;refine aA (by simp;omega) (sE z rfl (aC (fun T=>?_) (fun T=>?_)))
     ·rw [decide_eq_true_eq]at T;have Z:0<l[0].ks.length:=IM;have hm:l[0].ks[0] ∈l[0].ks:=AG Z;refine aA (by simp;omega) (sE z rfl (aA (by simp;omega) (fT Z rfl (aC (fun A=>?_) (fun A=>aC (fun V=>?_) (fun V=>?_))))))
      ·rw [decide_eq_true_eq]at A;exact(.inr ⟨(1,g.next,g.push (.tip 1)),IR,IR,(by rw [bW z,cD hm (jD A)];rfl),IR,⟨⟨Nat.one_pos,z⟩,aU,AQ _⟩,IS⟩)
      ·rw [decide_eq_true_eq]at V;exact(.inr ⟨(1,g.next,g.push (.tip 1)),IR,IR,(by rw [bW z,cD hm (jE (by show(0:Int)<=_;omega))];rfl),IR,⟨⟨Nat.one_pos,z⟩,aU,AQ _⟩,IS⟩)
      ·rw [decide_eq_false_iff_not]at A V;omega
     ·rw [decide_eq_false_iff_not]at T;have D:=(sO.zero z).lst z IM;refine aA (by simp;omega) (oR (i:=0) (o:=0) z rfl ⟨l,l[0].ks,[],⟨rfl,rfl⟩,⟨rfl,rfl⟩,⟨rfl,rfl⟩,⟨(G _ (AG z)).2,D.2.1.symm,IP,a1,D.2.2.1,D.2.2.2,fun n hn=>(G n hn).1⟩,?_⟩);exact(.inr ⟨(1,g.next,g.push (.tip 1)),IR,IR,(by rw [bW z,show cP (l.take 0) (aK (l.take 0)) l[0]=bC (eK l l[0]) l[0].op l[0].im []from D.1];rfl),IR,⟨⟨Nat.one_pos,z⟩,aU,AQ _⟩,IS⟩)
    ·rintro⟨i,id,g⟩ _ ⟨hi,⟨⟨K,L⟩,u,p⟩⟩ hM;dsimp only at hi K L u p hM⊢;have a9:(aK (l.take i)).length=i:=by rw [bR,AW];omega
     have a8:=a2 hi;simp only [eZ hi]at hM;refine aA (by simp;omega) (sE hi (by rw [tn]) (aC (fun T=>?_) (fun T=>?_)))
     ·rw [decide_eq_true_eq]at T;have Z:0<l[i].ks.length:=IM;have hm:l[i].ks[0] ∈l[i].ks:=AG Z;refine aA (by simp;omega) (sE hi (by rw [tn]) (aA (by simp;omega) (fT Z rfl (aC (fun A=>?_) (fun A=>aC (fun V=>?_) (fun V=>?_))))))
      ·rw [decide_eq_true_eq]at A;exact aV u (aA (by simp only [AO,AF,bK,AM,true_and];omega) (.inr ⟨(i+1,id,g.set id (.tip (i+1))),IR,(by rw [AB _ IM];rfl),(by rw [bW hi,cD hm (jD A)];simp),IR,⟨⟨CN _,hi⟩,aH,p⟩,IS⟩))
      ·rw [decide_eq_true_eq]at V;exact aV u (aA (by simp only [AO,AF,bK,AM,true_and];omega) (.inr ⟨(i+1,id,g.set id (.tip (i+1))),IR,(by rw [AB _ IM];rfl),(by rw [bW hi,cD hm (jE IM)];simp),IR,⟨⟨CN _,hi⟩,aH,p⟩,IS⟩))
      rw [decide_eq_false_iff_not]at A V;have X:(l[i].ks[0]).toNat< (aK (l.take i)).length:=IM;refine aA (by simp;omega) (fT X (AO _) (aC (fun c4=>?_) (fun c4=>?_)))
      ·rw [beq_iff_eq]at c4;exact aV u (aA (by simp only [AO,AF,bK,AM,true_and];omega) (.inr ⟨(i+1,id,g.set id (.tip (i+1))),IR,(by rw [AB _ IM];rfl),(by rw [bW hi,cD hm (jF X c4)];simp),IR,⟨⟨CN _,hi⟩,aH,p⟩,IS⟩))
      rw [beq_eq_false_iff_ne]at c4;obtain⟨k1,k2⟩:=iH IM X c4;have hs:=(sO.zero hi).step hi Z k1;rw [k2]at hs;refine aA (by simp;omega) (fT X (AO _) (.inr (.inr ⟨(i,id,g.push (.tip 1),1,[(aK (l.take i))[(l[i].ks[0]).toNat]],g.next),IR,IR,IR,IR,IR,IR,IR,⟨hi,⟨⟨K,L⟩,by rw [aL p];exact u,BM p⟩,hs,⟨Nat.one_pos,aU,AQ _,IS⟩⟩,?_⟩)));dsimp only;rw [eZ hi,eZ hi];omega
     ·rw [decide_eq_false_iff_not]at T;have D:=(sO.zero hi).lst hi IM;refine aA (by simp;omega) (oR hi (by rw [tn]) ⟨l,l[i].ks,[],⟨rfl,rfl⟩,⟨rfl,rfl⟩,⟨rfl,rfl⟩,⟨(G _ (AG hi)).2,D.2.1.symm,IP,a1,D.2.2.1,D.2.2.2,fun n hn=>(G n hn).1⟩,?_⟩);exact aV u (aA (by simp only [AO,AF,bK,AM,true_and];omega) (.inr ⟨(i+1,id,g.set id (.tip (i+1))),IR,(by rw [AB _ IM];rfl),(by rw [bW hi,D.1];simp),IR,⟨⟨CN _,hi⟩,aH,p⟩,IS⟩))
    ·rintro⟨i,id,g,j,k,a5⟩ _ ⟨hi,⟨⟨K,L⟩,u,p⟩,Y,⟨a7,a3,a0,O⟩⟩ hM;dsimp only at hi K L u p Y a7 a3 a0 O hM⊢;have a9:(aK (l.take i)).length=i:=by rw [bR,AW];omega
     have a8:=a2 hi;have b3:k.length=j:=by obtain⟨n,_,h2,_⟩:=Y;exact h2.2
     simp only [eZ hi]at hM;refine aA (by simp;omega) (sE hi (by rw [tn]) (aC (fun T=>?_) (fun T=>?_)))
     ·rw [decide_eq_true_eq]at T;have Z:j<l[i].ks.length:=IM;have hm:l[i].ks[j] ∈l[i].ks:=AG Z;refine aA (by simp;omega) (sE hi (by rw [tn]) (aA (by simp;omega) (fT Z (by rw [AO,tn]) (aC (fun A=>?_) (fun A=>aC (fun V=>?_) (fun V=>?_))))))
      ·rw [decide_eq_true_eq]at A;exact aV u (aA (by simp only [AO,AF,bK,AM,true_and];omega) (.inr ⟨(i+1,id,g.set id (.tip (i+1))),IR,(by rw [AB _ IM];rfl),(by rw [bW hi,cD hm (jD A)];simp),IR,⟨⟨CN _,hi⟩,aH,p⟩,IS⟩))
      ·rw [decide_eq_true_eq]at V;exact aV u (aA (by simp only [AO,AF,bK,AM,true_and];omega) (.inr ⟨(i+1,id,g.set id (.tip (i+1))),IR,(by rw [AB _ IM];rfl),(by rw [bW hi,cD hm (jE IM)];simp),IR,⟨⟨CN _,hi⟩,aH,p⟩,IS⟩))
      rw [decide_eq_false_iff_not]at A V;have X:(l[i].ks[j]).toNat< (aK (l.take i)).length:=IM;refine aA (by simp;omega) (fT X (AO _) (aC (fun c4=>?_) (fun c4=>?_)))
      ·rw [beq_iff_eq]at c4;exact aV u (aA (by simp only [AO,AF,bK,AM,true_and];omega) (.inr ⟨(i+1,id,g.set id (.tip (i+1))),IR,(by rw [AB _ IM];rfl),(by rw [bW hi,cD hm (jF X c4)];simp),IR,⟨⟨CN _,hi⟩,aH,p⟩,IS⟩))
      rw [beq_eq_false_iff_ne]at c4;obtain⟨k1,k2⟩:=iH IM X c4;have hs:=Y.step hi Z k1;rw [k2]at hs;refine aA (by simp;omega) (fT X (AO _) (aV a3 (aA (by simp only [AO,AF,bK,AM,true_and];omega) (.inr (.inr ⟨(i,id,g.set a5 (.tip (k.length+1)),j+1,k++ [(aK (l.take i))[(l[i].ks[j]).toNat]],a5),IR,IR,IR,?_,IR,?_,IR,⟨hi,⟨⟨K,L⟩,by rw [aG O.symm];exact u,p⟩,hs,⟨IP,by rw [aH];simp,a0,O⟩⟩,?_⟩)))))
      ·simp
      ·rw [AB _ IM];rfl
      ·dsimp only;rw [eZ hi,eZ hi];omega
     ·rw [decide_eq_false_iff_not]at T;have D:=Y.lst hi IM;refine aA (by simp;omega) (oR hi (by rw [tn]) ⟨l,l[i].ks,k,⟨rfl,rfl⟩,⟨rfl,rfl⟩,⟨rfl,rfl⟩,⟨(G _ (AG hi)).2,D.2.1.symm,IM,a1,D.2.2.1,D.2.2.2,fun n hn=>(G n hn).1⟩,?_⟩);exact aV u (aA (by simp only [AO,AF,bK,AM,true_and];omega) (.inr ⟨(i+1,id,g.set id (.tip (i+1))),IR,(by rw [AB _ IM];rfl),(by rw [bW hi,D.1];simp),IR,⟨⟨CN _,hi⟩,aH,p⟩,IS⟩))
   ·rw [decide_eq_false_iff_not]at c;have:l=[]:=BZ IM;subst this;exact hk
  ·rintro⟨i0,b5,g0⟩ _ ⟨⟨b0,b1⟩,b2,a6⟩;dsimp only at b0 b1 b2 a6⊢;have b6:=b4 i0;refine aC (fun c=>?_) (fun c=>?_)
   ·rw [decide_eq_true_eq]at c;have a4:i0<l.length:=IM;refine⟨(l.length-i0)*1000002+dS l i0 0,.inr (.inl ⟨(i0,b5,g0),IR,IR,IR,IR,IR,IR,IR,⟨a4,⟨⟨b0,b1⟩,b2,a6⟩⟩,AJ _⟩),?_,?_,?_⟩
    ·rintro g _ z hM;exfalso;omega
    ·rintro⟨i,id,g⟩ _ ⟨hi,⟨⟨K,L⟩,u,p⟩⟩ hM;dsimp only at hi K L u p hM⊢;have a9:(aK (l.take i)).length=i:=by rw [bR,AW];omega
     have a8:=a2 hi;simp only [eZ hi]at hM;refine aA (by simp;omega) (sE hi (by rw [tn]) (aC (fun T=>?_) (fun T=>?_)))
     ·rw [decide_eq_true_eq]at T;have Z:0<l[i].ks.length:=IM;have hm:l[i].ks[0] ∈l[i].ks:=AG Z;refine aA (by simp;omega) (sE hi (by rw [tn]) (aA (by simp;omega) (fT Z rfl (aC (fun A=>?_) (fun A=>aC (fun V=>?_) (fun V=>?_))))))
      ·rw [decide_eq_true_eq]at A;exact aV u (aA (by simp only [AO,AF,bK,AM,true_and];omega) (.inr ⟨(i+1,id,g.set id (.tip (i+1))),IR,(by rw [AB _ IM];rfl),(by rw [bW hi,cD hm (jD A)];simp),IR,⟨⟨CN _,hi⟩,aH,p⟩,IS⟩))
      ·rw [decide_eq_true_eq]at V;exact aV u (aA (by simp only [AO,AF,bK,AM,true_and];omega) (.inr ⟨(i+1,id,g.set id (.tip (i+1))),IR,(by rw [AB _ IM];rfl),(by rw [bW hi,cD hm (jE IM)];simp),IR,⟨⟨CN _,hi⟩,aH,p⟩,IS⟩))
      rw [decide_eq_false_iff_not]at A V;have X:(l[i].ks[0]).toNat< (aK (l.take i)).length:=IM;refine aA (by simp;omega) (fT X (AO _) (aC (fun c4=>?_) (fun c4=>?_)))
      ·rw [beq_iff_eq]at c4;exact aV u (aA (by simp only [AO,AF,bK,AM,true_and];omega) (.inr ⟨(i+1,id,g.set id (.tip (i+1))),IR,(by rw [AB _ IM];rfl),(by rw [bW hi,cD hm (jF X c4)];simp),IR,⟨⟨CN _,hi⟩,aH,p⟩,IS⟩))
      rw [beq_eq_false_iff_ne]at c4;obtain⟨k1,k2⟩:=iH IM X c4;have hs:=(sO.zero hi).step hi Z k1;rw [k2]at hs;refine aA (by simp;omega) (fT X (AO _) (.inr (.inr ⟨(i,id,g.push (.tip 1),1,[(aK (l.take i))[(l[i].ks[0]).toNat]],g.next),IR,IR,IR,IR,IR,IR,IR,⟨hi,⟨⟨K,L⟩,by rw [aL p];exact u,BM p⟩,hs,⟨Nat.one_pos,aU,AQ _,IS⟩⟩,?_⟩)));dsimp only;rw [eZ hi,eZ hi];omega
     ·rw [decide_eq_false_iff_not]at T;have D:=(sO.zero hi).lst hi IM;refine aA (by simp;omega) (oR hi (by rw [tn]) ⟨l,l[i].ks,[],⟨rfl,rfl⟩,⟨rfl,rfl⟩,⟨rfl,rfl⟩,⟨(G _ (AG hi)).2,D.2.1.symm,IP,a1,D.2.2.1,D.2.2.2,fun n hn=>(G n hn).1⟩,?_⟩);exact aV u (aA (by simp only [AO,AF,bK,AM,true_and];omega) (.inr ⟨(i+1,id,g.set id (.tip (i+1))),IR,(by rw [AB _ IM];rfl),(by rw [bW hi,D.1];simp),IR,⟨⟨CN _,hi⟩,aH,p⟩,IS⟩))
    ·rintro⟨i,id,g,j,k,a5⟩ _ ⟨hi,⟨⟨K,L⟩,u,p⟩,Y,⟨a7,a3,a0,O⟩⟩ hM;dsimp only at hi K L u p Y a7 a3 a0 O hM⊢;have a9:(aK (l.take i)).length=i:=by rw [bR,AW];omega
     have a8:=a2 hi;have b3:k.length=j:=by obtain⟨n,_,h2,_⟩:=Y;exact h2.2
     simp only [eZ hi]at hM;refine aA (by simp;omega) (sE hi (by rw [tn]) (aC (fun T=>?_) (fun T=>?_)))
     ·rw [decide_eq_true_eq]at T;have Z:j<l[i].ks.length:=IM;have hm:l[i].ks[j] ∈l[i].ks:=AG Z;refine aA (by simp;omega) (sE hi (by rw [tn]) (aA (by simp;omega) (fT Z (by rw [AO,tn]) (aC (fun A=>?_) (fun A=>aC (fun V=>?_) (fun V=>?_))))))
      ·rw [decide_eq_true_eq]at A;exact aV u (aA (by simp only [AO,AF,bK,AM,true_and];omega) (.inr ⟨(i+1,id,g.set id (.tip (i+1))),IR,(by rw [AB _ IM];rfl),(by rw [bW hi,cD hm (jD A)];simp),IR,⟨⟨CN _,hi⟩,aH,p⟩,IS⟩))
      ·rw [decide_eq_true_eq]at V;exact aV u (aA (by simp only [AO,AF,bK,AM,true_and];omega) (.inr ⟨(i+1,id,g.set id (.tip (i+1))),IR,(by rw [AB _ IM];rfl),(by rw [bW hi,cD hm (jE IM)];simp),IR,⟨⟨CN _,hi⟩,aH,p⟩,IS⟩))
      rw [decide_eq_false_iff_not]at A V;have X:(l[i].ks[j]).toNat< (aK (l.take i)).length:=IM;refine aA (by simp;omega) (fT X (AO _) (aC (fun c4=>?_) (fun c4=>?_)))
      ·rw [beq_iff_eq]at c4;exact aV u (aA (by simp only [AO,AF,bK,AM,true_and];omega) (.inr ⟨(i+1,id,g.set id (.tip (i+1))),IR,(by rw [AB _ IM];rfl),(by rw [bW hi,cD hm (jF X c4)];simp),IR,⟨⟨CN _,hi⟩,aH,p⟩,IS⟩))
      rw [beq_eq_false_iff_ne]at c4;obtain⟨k1,k2⟩:=iH IM X c4;have hs:=Y.step hi Z k1;rw [k2]at hs;refine aA (by simp;omega) (fT X (AO _) (aV a3 (aA (by simp only [AO,AF,bK,AM,true_and];omega) (.inr (.inr ⟨(i,id,g.set a5 (.tip (k.length+1)),j+1,k++ [(aK (l.take i))[(l[i].ks[j]).toNat]],a5),IR,IR,IR,?_,IR,?_,IR,⟨hi,⟨⟨K,L⟩,by rw [aG O.symm];exact u,p⟩,hs,⟨IP,by rw [aH];simp,a0,O⟩⟩,?_⟩)))))
      ·simp
      ·rw [AB _ IM];rfl
      ·dsimp only;rw [eZ hi,eZ hi];omega
     ·rw [decide_eq_false_iff_not]at T;have D:=Y.lst hi IM;refine aA (by simp;omega) (oR hi (by rw [tn]) ⟨l,l[i].ks,k,⟨rfl,rfl⟩,⟨rfl,rfl⟩,⟨rfl,rfl⟩,⟨(G _ (AG hi)).2,D.2.1.symm,IM,a1,D.2.2.1,D.2.2.2,fun n hn=>(G n hn).1⟩,?_⟩);exact aV u (aA (by simp only [AO,AF,bK,AM,true_and];omega) (.inr ⟨(i+1,id,g.set id (.tip (i+1))),IR,(by rw [AB _ IM];rfl),(by rw [bW hi,D.1];simp),IR,⟨⟨CN _,hi⟩,aH,p⟩,IS⟩))
   ·rw [decide_eq_false_iff_not]at c;obtain rfl:i0=l.length:=IM;rw [DR];exact aA (by simp only [aM,bI,bT,AT]) (fI hk (by rw [bR]))
 ·exact hk.elim
def Mj:=aT 63 Mf X1
theorem Sz:aP env Mj:=aF a4Z (Fh)
def zR(xs:Y14)(h:Heap)(K:KT):Prop:=match xs with
 | [.vslice none e1 n1 3 c1,.int .i64 i]=> ∃l:Y15,(n1=l.length/\c1=l.flatMap cN)/\((∀x∈l,x.ks.length<=1000000/\True)/\l.length<=1000000/\0<=i/\i<l.length)/\K (.int .i64 ((aK l).getD i.toNat 0)) h
 |_=>False
theorem b6F(l:Y15)(i:Int)(j:Nat)(h:Heap)(Q:KT):dF (aS Mj) env 49 dL bS bS [.vslice none j (l).length 3 ((l).flatMap cN),.int .i64 i] h Q=(
 aD (aM [IV.vslice none 0 l.length 3 (List.flatMap cN l),iI i]) (aJ (decide (i<0)) (Q (.int .i64 0) h) (aJ (decide (i>=(l.length:Int))) (Q (.int .i64 0) h) (aD (true&& (decide (0<=wW (i+1)) &&decide (wW (i+1)<=(l.length:Int)))) (∃(g:Y15),((wW (i+1)).toNat-0=g.length/\List.take (((wW (i+1)).toNat-0)*3) (List.drop 0 (List.flatMap cN l))=List.flatMap cN g)/\((∀(x:Nd),x∈g->List.length (Nd.ks x)<=1000000/\True)/\g.length<=1000000)/\aD (decide (0<=i) &&decide (i< (↑((aK g).length):Int))) (aI .i64 (List.map (IV.int .i64) (aK g)) (i.toNat*1) fun p=>Q (.int .i64 p) h)))))):=by kernel_rfl
theorem X2: ∀xs h Q,zR xs h Q->aO env 49 xs h Q:=by
 intro xs h Q g;unfold zR at g;split at g
 ·rename_i z X V i;obtain⟨l,⟨rfl,rfl⟩,A,g⟩:=g;refine aN (Sz) (b6F l i z h Q) ?_;delta wW iI;obtain⟨j,D,G,K⟩:=A;have O:IntKind.i64.wrap (i+1)=i+1:=AB _ IM;rw [O];have L:i.toNat<l.length:=IM;have u:(i+1).toNat-0=i.toNat+1:=IM;refine aA (by simp only [aM,bI,cI,AT]) (aC (fun c=>absurd (of_decide_eq_true c) IM) (fun _=>aC (fun c=>absurd (of_decide_eq_true c) IM) (fun _=>aA (by simp;omega) ⟨l.take (i.toNat+1),⟨by rw [u,AW];omega,by rw [u,CZ,W4]⟩,⟨fun x T=>j x (EM T),by rw [AW];omega⟩,?_⟩)));have p:i.toNat< (aK (l.take (i.toNat+1))).length:=by rw [bR,AW];omega
  refine aA (by simp;omega) (fT p (AO _) (fI g ?_))
  congr 1
  rw [nL (jG (EH (i.toNat+1) l)) p,AN,AA p];rfl
 ·exact g.elim
def X3:=aT 49 zR Mj
theorem Fl:aP env X3:=aF X2 (Sz)
def X4(xs:Y14)(h:Heap)(K:KT):Prop:=match xs with
 | [.int .i64 op]=>K (.tuple [.int .i64 (ar op),.bool (jW op)]) h
 |_=>False
def Fm:=IV.tuple [.int .i64 0,IV.bool true]
def Fo:=IV.tuple [.int .i64 1,IV.bool true]
def Fp:=IV.tuple [.int .i64 2,IV.bool true]
def a5A:=IV.tuple [.int .i64 (-1),IV.bool true]
def a5B:=IV.tuple [.int .i64 0,IV.bool false]
def a5C:=IV.tuple [.int .i64 3,IV.bool true]
theorem b6G(op:Int)(h:Heap)(Q:KT):dF (aS X3) env 222 dL bS bS [.int .i64 op] h Q=(
 aJ (op==1) (Q Fm h) (aJ (op==2) (Q Fm h) (aJ (op==3) (Q Fm h) (aJ (op==26) (Q Fm h) (aJ (op==20) (Q Fo h) (aJ (op==21) (Q Fo h) (aJ (op==24) (Q Fo h) (aJ (op==25) (Q Fo h) (aJ (op==(23:Int)) (Q Fp h) (aJ (op==27) (Q Fp h) (aJ (op==29) (Q Fp h) (aJ (op==22) (Q a5C h) (aJ (op==28) (Q a5C h) (aJ (op==30) (Q a5A h) (aJ (op==31) (Q a5A h) (aJ (decide (op>=4)) (aJ (decide (op<=19)) (Q Fp h) (Q a5B h)) (Q a5B h))))))))))))))))):=by kernel_rfl
theorem b6H: ∀xs h Q,X4 xs h Q->aO env 222 xs h Q:=by
 intro xs h Q g;unfold X4 at g;split at g
 ·rename_i op;refine aN (Fl) (b6G op h Q) ?_;delta Fm Fo Fp a5A a5B a5C
  repeat' (first|refine aA ?_ ?_|refine aC (fun _=>?_) (fun _=>?_)|refine And.intro ?_ ?_)
  all_goals first|assumption|omega| (refine fI g ?_;simp only [IV.agg.injEq,IV.tuple.injEq,IV.int.injEq,IV.bool.injEq,BS,true_and,and_true];grind [ar,jW])
 ·exact g.elim
def X5:=aT 222 X4 X3
theorem Fq:aP env X5:=aF b6H (Fl)
def a5D(xs:Y14)(h:Heap)(K:KT):Prop:=match xs with
 | [.int .i64 op]=>K (.vslice none 0 (sD op).length 1 ((sD op).map (IV.int .i64))) h
 |_=>False
theorem d2R(op:Int)(h:Heap)(Q:KT):dF (aS X5) env 226 dL bS bS [.int .i64 op] h Q=(
 aJ (op==22) (Q (.vslice none 0 3 1 [iI 1,iI 1,iI 1]) h) (aJ (op==23) (Q (.vslice none 0 2 1 [iI 2,iI 1]) h) (aJ (op==27) (Q (.vslice none 0 2 1 [iI 2,iI 1]) h) (aJ (op==29) (Q (.vslice none 0 2 1 [iI 2,iI 1]) h) (aJ (op==28) (Q (.vslice none 0 3 1 [iI 2,iI 1,iI 1]) h) (aJ (op==24) (Q (.vslice none 0 1 1 [iI 2]) h) (aJ (op==25) (Q (.vslice none 0 1 1 [iI 3]) h) (Q (.vslice none 0 2 1 [iI 1,iI 1]) h)))))))):=by kernel_rfl
theorem d2S: ∀xs h Q,a5D xs h Q->aO env 226 xs h Q:=by
 intro xs h Q g;unfold a5D at g;split at g
 ·rename_i op;refine aN (Fq) (d2R op h Q) ?_;delta iI;have fin: ∀w:Y12,sD op=w->Q (.vslice none 0 (w).length 1 ((w).map (IV.int .i64))) h:=by
   rintro _ rfl;exact g
  repeat' (refine aC (fun _=>?_) (fun _=>?_))
  all_goals simp only [beq_iff_eq,beq_eq_false_iff_ne]at*
  all_goals first|exact fin [1,1,1] (by simp [sD, *])|exact fin [2,1] (by simp [sD, *])|exact fin [2,1,1] (by simp [sD, *])|exact fin [2] (by simp [sD, *])|exact fin [3] (by simp [sD, *])|exact fin [1,1] (by simp [sD, *])
 ·exact g.elim
def a5E:=aT 226 a5D X5
theorem a5F:aP env a5E:=aF d2S (Fq)
def d2T(s w:Y12):Inv':=eY Nat (fun i=>[(0,.v (.vslice none 0 (s).length 1 ((s).map (IV.int .i64)))),(1,.v (.vslice none 0 (w).length 1 ((w).map (IV.int .i64)))),(5,.v (.int .i64 i))]) (fun _=>[]) (fun _=>Heap.empty)
 (fun i=>i<=s.length/\∀j,j<i->s[j]?=w[j]?) (fun i=>s.length-i)
def Mk(xs:Y14)(h:Heap)(K:KT):Prop:=match xs with
 | [.vslice none e1 n1 1 c1,.vslice none e2 n2 1 c2]=> ∃s w:Y12,(n1=s.length/\c1=s.map (IV.int .i64))/\(n2=w.length/\c2=w.map (IV.int .i64))/\(s.length<=w.length/\s.length<=1000000000)/\K (.bool (decide (s=w.take s.length))) h
 |_=>False
def E6:=IV.int .i64
def Fs(s:Y12):=TV.v (.vslice none 0 s.length 1 (List.map E6 s))
def Ft(w:Y12):=TV.v (.vslice none 0 w.length 1 (List.map E6 w))
theorem c4W(s w:Y12)(i l:Nat)(h:Heap)(Q:KT):dF (aS a5E) env 224 dL (kR 3 (d2T s w)) bS [.vslice none i (s).length 1 ((s).map (IV.int .i64)),.vslice none l (w).length 1 ((w).map (IV.int .i64))] h Q=(
 aD (aM [IV.vslice none 0 s.length 1 (List.map E6 s),IV.vslice none 0 w.length 1 (List.map E6 w)]) ((∃(x:Nat),some (Fs s)=some (Fs s)/\some (Ft w)=some (Ft w)/\tI 0=tI (x:Int)/\Heap.mk PT.nil 0=Heap.mk PT.nil 0/\(x<=s.length/\∀(j:Nat),j<x->s[j]?=w[j]?)/\True)/\∀(x:Nat)(b:FF),(x<=s.length/\∀(j:Nat),j<x->s[j]?=w[j]?)->aJ (decide ((x:Int)< (s.length:Int))) (aD (decide ((0:Int)<=(x:Int)) &&decide ((x:Int)< (s.length:Int))) (aI .i64 (List.map E6 s) ((x:Int).toNat*1) fun p=>aD (decide (0<=(x:Int)) &&decide ((x:Int)< (w.length:Int))) (aI .i64 (List.map E6 w) ((x:Int).toNat*1) fun u=>aJ (p !=u) (Q (.bool false) h) (∃(g:Nat),some (Fs s)=some (Fs s)/\some (Ft w)=some (Ft w)/\tI (wW ((x:Int)+1))=tI (g:Int)/\Heap.mk PT.nil 0=Heap.mk PT.nil 0/\(g<=s.length/\∀(j:Nat),j<g->s[j]?=w[j]?)/\s.length-g<s.length-x)))) (Q (.bool true) h))):=by kernel_rfl
theorem c4X: ∀xs h Q,Mk xs h Q->aO env 224 xs h Q:=by
 intro xs h Q p;unfold Mk at p;split at p
 ·rename_i A T u D V L;obtain⟨s,w,⟨rfl,rfl⟩,⟨rfl,rfl⟩,z,p⟩:=p;refine aN (a5F) (c4W s w A D h Q) ?_;delta Fs Ft E6 tI wW;have K: ∀x:Nat,(x:Int).toNat=x:=AE
  obtain⟨O,z⟩:=z;refine aA (by simp only [aM,bI,bT,AT]) ⟨⟨0,IR,IR,IR,IR,⟨AR _,fun j G=>IM⟩,trivial⟩,?_⟩;rintro i _ ⟨hi,ha⟩
  try dsimp only at hi ha⊢
  refine aC (fun c=>?_) (fun c=>?_)
  ·rw [decide_eq_true_eq]at c;have g:i<s.length:=IM;have l:i<w.length:=IM;simp only [K];rw [AO];refine aA (by simp;omega) (cT g (aA (by simp;omega) (cT l (aC (fun u=>?_) (fun u=>⟨i+1,IR,IR,?_,IR,⟨g,fun j G=>?_⟩,by(try dsimp only);omega⟩)))))
   ·rw [decide_eq_false (fun e=>?_)]at p
    ·exact p
    ·have:s[i]?=(w.take s.length)[i]?:=by rw [<-e]
     rw [EE g,AA g,AA l,AC]at this;rw [this]at u;simp at u
   ·rw [AB _ IM];rfl
   ·rcases BC j i with q|q
    ·exact ha j q
    ·obtain rfl:j=i:=IM;rw [bne_eq_false_iff_eq]at u;rw [AA g,AA l,u]
  ·rw [decide_eq_false_iff_not]at c;rw [decide_eq_true (DL fun j=>?_)]at p
   ·exact p
   ·rcases BC j s.length with q|q
    ·rw [EE q,ha j IM]
    ·rw [BG q,BG (by simp;omega)]
 ·exact p.elim
def Ml:=aT 224 Mk a5E
theorem Ta:aP env Ml:=aF c4X (a5F)
def Mm(xs:Y14)(h:Heap)(K:KT):Prop:=match xs with
 | [.int .i64 k]=>(1<=k/\k<=1000000)/\K (.int .i64 ((k-1)/2)) h
 |_=>False
theorem c4Y(k:Int)(h:Heap)(Q:KT):dF (aS Ml) env 223 dL bS bS [.int .i64 k] h Q=(
 Q (.int .i64 (wW (Int.tdiv (wW (k-1)) 2))) h):=by kernel_rfl
theorem c4Z: ∀xs h Q,Mm xs h Q->aO env 223 xs h Q:=by
 intro xs h Q g;unfold Mm at g;split at g
 ·rename_i k;obtain⟨i,g⟩:=g;refine aN (Ta) (c4Y k h Q) ?_;delta wW;refine fI g ?_
  congr 1
  rw [AB (k-1) IM,EB IM,AB _ IM]
 ·exact g.elim
def a5G:=aT 223 Mm Ml
theorem b6I:aP env a5G:=aF c4Z (Ta)
def X6(xs:Y14)(h:Heap)(K:KT):Prop:=match xs with
 | [.int .i64 k]=> ∃m:Nat,(1<=m/\m<=16)/\k=2*(m:Int)+1/\∀w:Y12,w=Ym m->K (.vslice none 0 (w).length 1 ((w).map (IV.int .i64))) h
 |_=>False
theorem b6J: ∀xs h Q,X6 xs h Q->aO env 225 xs h Q:=by
 intro xs h Q g;unfold X6 at g;split at g
 ·rename_i k;obtain⟨m,i,rfl,g⟩:=g;have h2:m=1\/m=2\/m=3\/m=4\/m=5\/m=6\/m=7\/m=8\/m=9\/m=10\/m=11\/m=12\/m=13\/m=14\/m=15\/m=16:=IM;rcases h2 with rfl|rfl|rfl|rfl|rfl|rfl|rfl|rfl|rfl|rfl|rfl|rfl|rfl|rfl|rfl|rfl
  all_goals exact⟨400,_,h,by kernel_rfl,g _ rfl⟩
 ·exact g.elim
def X7:=aT 225 X6 a5G
theorem Fu:aP env X7:=aF b6J (b6I)
def a5H(xs:Y14)(h:Heap)(K:KT):Prop:=match xs with
 | [.vslice none e0 n0 3 c0,.agg [.int .i64 op,.int .i64 im,.vslice none e1 n1 1 c1]]=> ∃(l:Y15)(ks:Y12),(n0=l.length/\c0=l.flatMap cN)/\(n1=ks.length/\c1=ks.map (IV.int .i64))/\op≠25/\K (.bool (dY op im)) h
 |_=>False
def vJ(im:Int):=decide (im>=0)
def sP:=IV.bool false
theorem d2U(l:Y15)(op im:Int)(ks:Y12)(e0 j:Nat)(h:Heap)(Q:KT):dF (aS X7) env 206 dL bS bS [.vslice none e0 (l).length 3 ((l).flatMap cN),.agg [.int .i64 op,.int .i64 im,.vslice none j ks.length 1 (ks.map (IV.int .i64))]] h Q=(
 aD (aM [IV.vslice none 0 l.length 3 (List.flatMap cN l),IV.agg [.int .i64 op,iI im,IV.vslice none 0 ks.length 1 (List.map (IV.int .i64) ks)]]) (aJ (op==1) (Q (.bool true) h) (aJ (op==2) (aJ (vJ im) (Q (.bool (decide (im<=5))) h) (Q sP h)) (aJ (op==3) (aJ (vJ im) (Q (.bool (decide (im<=255))) h) (Q sP h)) (aJ (op==23) (aJ (vJ im) (Q (.bool (decide (im<=3))) h) (Q sP h)) (aJ (op==28) (aJ (vJ im) (Q (.bool (decide (im<=3))) h) (Q sP h)) (aJ (op==27) (aJ (decide (im>=1)) (Q (.bool (decide (im<=1000016))) h) (Q sP h)) (aJ (op==30) (aJ (vJ im) (Q (.bool (decide (im<=7))) h) (Q sP h)) (aJ (op==31) (aJ (vJ im) (Q (.bool (decide (im<=15))) h) (Q sP h)) (aJ (op==25) (aD (true&&decide (0< (ks.length:Int))) (aI .i64 (List.map (IV.int .i64) ks) 0 fun i=>aD (decide (0<=i) &&decide (i< (l.length:Int))) (aX 1 (List.flatMap cN l) (i.toNat*3+2) fun(u:Y10)(p g:Nat)(c4:Y14)=>(1<=(g:Int)/\(g:Int)<=1000000)/\aJ (vJ im) (Q (.bool (decide (im<=wW (((g:Int)-1)/ (2:Int)-1)))) h) (Q sP h)))) (aJ (vJ im) (Q (.bool (decide (im<=0))) h) (Q sP h)))))))))))):=by kernel_rfl
theorem c0P: ∀xs h Q,a5H xs h Q->aO env 206 xs h Q:=by
 intro xs h Q i;unfold a5H at i;split at i
 ·rename_i e0 X T op im K Y j;obtain⟨l,ks,⟨rfl,rfl⟩,⟨rfl,rfl⟩,L,i⟩:=i;refine aN (Fu) (d2U l op im ks e0 K h Q) ?_;delta vJ sP wW iI;have fin: ∀b:Bool,(b=true ↔ dY op im=true)->Q (.bool b) h:=fun b e=>by
   rw [<-Bool.eq_iff_iff]at e;rw [e];exact i
  have V:pS 2=5/\pS 3=255/\pS 23=3/\pS 28=3/\pS 27=1000016/\pS 30=7/\pS 31=15:=IN;refine aA (by simp only [aM,bI,bT,cI,AT]) ?_;unfold dY at fin;simp only [decide_eq_true_eq]at fin;refine aC (fun j=>?_) (fun j=>?_)
  ·exact fin _ (by rw [beq_iff_eq]at j;simp [j])
  refine aC (fun g=>?_) (fun g=>?_)
  ·rw [beq_iff_eq]at g;subst g;refine aC (fun d=>fin _ ?_) (fun d=>fin _ ?_)
   ·rw [decide_eq_true_eq]at d⊢;omega
   ·rw [decide_eq_false_iff_not]at d;simp only [BA,false_iff];omega
  refine aC (fun g=>?_) (fun u=>?_)
  ·rw [beq_iff_eq]at g;subst g;refine aC (fun d=>fin _ ?_) (fun d=>fin _ ?_)
   ·rw [decide_eq_true_eq]at d⊢;omega
   ·rw [decide_eq_false_iff_not]at d;simp only [BA,false_iff];omega
  refine aC (fun g=>?_) (fun c4=>?_)
  ·rw [beq_iff_eq]at g;subst g;refine aC (fun d=>fin _ ?_) (fun d=>fin _ ?_)
   ·rw [decide_eq_true_eq]at d⊢;omega
   ·rw [decide_eq_false_iff_not]at d;simp only [BA,false_iff];omega
  refine aC (fun g=>?_) (fun z=>?_)
  ·rw [beq_iff_eq]at g;subst g;refine aC (fun d=>fin _ ?_) (fun d=>fin _ ?_)
   ·rw [decide_eq_true_eq]at d⊢;omega
   ·rw [decide_eq_false_iff_not]at d;simp only [BA,false_iff];omega
  refine aC (fun g=>?_) (fun A=>?_)
  ·rw [beq_iff_eq]at g;subst g;refine aC (fun d=>fin _ ?_) (fun d=>fin _ ?_)
   ·rw [decide_eq_true_eq]at d⊢;omega
   ·rw [decide_eq_false_iff_not]at d;simp only [BA,false_iff];omega
  refine aC (fun g=>?_) (fun D=>?_)
  ·rw [beq_iff_eq]at g;subst g;refine aC (fun d=>fin _ ?_) (fun d=>fin _ ?_)
   ·rw [decide_eq_true_eq]at d⊢;omega
   ·rw [decide_eq_false_iff_not]at d;simp only [BA,false_iff];omega
  refine aC (fun g=>?_) (fun G=>?_)
  ·rw [beq_iff_eq]at g;subst g;refine aC (fun d=>fin _ ?_) (fun d=>fin _ ?_)
   ·rw [decide_eq_true_eq]at d⊢;omega
   ·rw [decide_eq_false_iff_not]at d;simp only [BA,false_iff];omega
  refine aC (fun p=>absurd (beq_iff_eq.1 p) L) (fun p=>?_);rw [beq_eq_false_iff_ne]at j g u c4 z A D G p;have O:pS op= -1:=by unfold pS;rw [if_neg IM,if_neg IM,if_neg IM,if_neg IM,if_neg IM,if_neg IM]
  rw [O]at fin;refine aC (fun d=>fin _ ?_) (fun d=>fin _ ?_)
  ·rw [decide_eq_true_eq]at d⊢;omega
  ·rw [decide_eq_false_iff_not]at d;simp only [BA,false_iff];omega
 ·exact i.elim
def a5I:=aT 206 a5H X7
theorem a5J:aP env a5I:=aF c0P (Fu)
def a5K(xs:Y14)(h:Heap)(K:KT):Prop:=match xs with
 | [.agg [.int .i64 op,.int .i64 im,.vslice none e1 n1 1 c1],.vslice none e2 n2 1 c2]=> ∃(ks s:Y12),(n1=ks.length/\c1=ks.map (IV.int .i64))/\(n2=s.length/\c2=s.map (IV.int .i64))/\((op≠25/\op≠30/\op≠31)/\s.length<=1000000)/\K (.bool (tD op s)) h
 |_=>False
def Fv(op:Int)(s:Y12)(h:Heap)(Q:KT):=(∃(g w:Y12),(s.length=g.length/\List.map (IV.int .i64) s=List.map (IV.int .i64) g)/\((sD op).length=w.length/\List.map (IV.int .i64) (sD op)=List.map (IV.int .i64) w)/\(g.length<=w.length/\g.length<=1000000000)/\Q (.bool (decide (g=List.take g.length w)))
 h)
def mH:=IV.bool false
def a5L(s:Y12)(h:Heap)(Q:KT):=aJ (decide ((s.length:Int)>=3)) (aJ (Int.tmod (s.length:Int) 2==1) ((1<=(s.length:Int)/\(s.length:Int)<=1000000)/\aJ (decide (((s.length:Int)-1)/ (2:Int)<=16)) (∃(m:Nat),(1<=m/\m<=16)/\(s.length:Int)=2*(m:Int)+1/\∀(w:Y12),w=2::(List.replicate
 m 1++(2:Int)::List.replicate (m-1) 1)-> ∃(g i:Y12),(s.length=g.length/\List.map (IV.int .i64) s=List.map (IV.int .i64) g)/\(w.length=i.length/\List.map (IV.int .i64) w=List.map (IV.int .i64) i)/\(g.length<=i.length/\g.length<=1000000000)
 /\Q (.bool (decide (g=List.take g.length i))) h) (Q mH h)) (Q mH h)) (Q mH h)
def sQ(s:Y12):=List.map (IV.int .i64) s
def Fw(s:Y12):=true&&decide (0< (s.length:Int))
def a5M(s:Y12):=aD (true&& (decide (1<=(s.length:Int)) &&decide ((s.length:Int)<=(s.length:Int)))) False
theorem d2V(op im:Int)(ks s:Y12)(g i:Nat)(h:Heap)(Q:KT):dF (aS a5I) env 205 dL bS bS [.agg [.int .i64 op,.int .i64 im,.vslice none g ks.length 1 (ks.map (IV.int .i64))],.vslice none i (s).length 1 ((s).map (IV.int .i64))] h Q=(
 aD (aM [IV.agg [.int .i64 op,iI im,IV.vslice none 0 ks.length 1 (List.map (IV.int .i64) ks)],IV.vslice none 0 s.length 1 (sQ s)]) (aJ (!jW op) (Q mH h) (aJ (decide (ar op>=0)) (aJ (ar op !=((s.length):Int)) (Q mH h) (aJ (op==31) (a5L s h Q) (aJ (op==30) (aJ (decide ((s.length:Int)<1)) (Q mH h) (aJ (decide ((s.length:Int)>7)) (Q mH h) (aD (Fw s) (aI .i64 (sQ s) 0 fun j=>aJ (j !=(2:Int)) (Q mH h) (a5M s))))) (aJ (op==22) (aD (true&&decide (1< (s.length:Int))) (aI .i64 (sQ s) 1 fun l=>aJ (l==2) (aD (Fw s) (aI .i64 (sQ s) 0 fun p=>aJ (p==1) (aD (true&&decide (2< (s.length:Int))) (aI .i64 (sQ s) 2 fun u=>Q (.bool (u==2)) h)) (Q mH h))) (Fv op s h Q))) (Fv op s h Q))))) (aJ (op==31) (a5L s h Q) (aJ (op==30) (aJ (decide ((s.length:Int)< (1:Int))) (Q mH h) (aJ (decide ((s.length:Int)>7)) (Q mH h) (aD (Fw s) (aI .i64 (sQ s) 0 fun z=>aJ (z !=2) (Q mH h) (a5M s))))) (aJ (op==22) (aD (true&&decide (1< (s.length:Int))) (aI .i64 (sQ s) 1 fun A=>aJ (A==2) (aD (Fw s) (aI .i64 (sQ s) 0 fun D=>aJ (D==1) (aD (true&&decide (2< (s.length:Int))) (aI .i64 (sQ s) 2 fun G=>Q (.bool (G==(2:Int))) h)) (Q mH h))) (Fv op s h Q))) (Fv op s h Q))))))):=by kernel_rfl
theorem c0Q: ∀xs h Q,a5K xs h Q->aO env 205 xs h Q:=by
 intro xs h Q g;unfold a5K at g;split at g
 ·rename_i op im A O j u T K;obtain⟨ks,s,⟨rfl,rfl⟩,⟨rfl,rfl⟩,D,g⟩:=g;refine aN (a5J) (d2V op im ks s A u h Q) ?_;delta Fv a5L sQ Fw a5M mH iI;obtain⟨z,L⟩:=D;refine aA (by simp only [aM,bI,bT,AT]) (aC (fun c=>?_) (fun c=>?_))
  ·have e:tD op s=false:=by unfold tD;simp at c;simp [c]
   rw [e]at g;exact g
  rw [CV]at c;have ha:=c2X c z;refine aC (fun _=>?_) (fun d=>by rw [decide_eq_false_iff_not]at d;omega);refine aC (fun j=>?_) (fun j=>?_)
  ·have e:tD op s=false:=by unfold tD;rw [bne_iff_ne]at j;simp [Ne.symm j]
   rw [e]at g;exact g
  rw [bne_eq_false_iff_eq]at j;have G:tD op s=(if op=22/\s.getD 1 0=2 then decide (s=[1,2,2])else decide (s=(sD op).take s.length)):=by
   unfold tD
   rw [c,decide_eq_true j.symm];rfl
  rw [G]at g;refine aC (fun d=>absurd (beq_iff_eq.1 d) z.2.2) (fun _=>aC (fun d=>absurd (beq_iff_eq.1 d) z.2.1) (fun _=>aC (fun d=>?_) (fun d=>?_)))
  ·rw [beq_iff_eq]at d;subst d;obtain⟨a,b,e,rfl⟩:=c2W (j.symm.trans IN);refine aA IP (cT (l:=[a,b,e]) (i:=1) IP (aC (fun f=>aA IP (cT (l:=[a,b,e]) (i:=0) IP (aC (fun p=>aA IP (cT (l:=[a,b,e]) (i:=2) IP ?_)) (fun p=>?_)))) (fun f=>⟨[a,b,e],sD 22,⟨rfl,rfl⟩,⟨rfl,rfl⟩,⟨by show 3<=(sD 22).length;decide,IP⟩,?_⟩)))
   ·simp at f p;subst f p;simp at g;simp only [FY,FX];have u:(e==2)=decide (e=2):=rfl;rw [u];exact g
   ·simp at f p;subst f;simp [p]at g;exact g
   ·simp at f;rw [if_neg (by simp [f])]at g;exact g
  ·rw [beq_eq_false_iff_ne]at d;rw [if_neg (fun q=>d q.1)]at g;exact⟨s,sD op,⟨rfl,rfl⟩,⟨rfl,rfl⟩,⟨IM,IM⟩,g⟩
 ·exact g.elim
def a5N:=aT 205 a5K a5I
theorem a5O:aP env a5N:=aF c0Q (a5J)
def X8(xs:Y14)(h:Heap)(K:KT):Prop:=match xs with
 | [.vslice none e0 n0 3 c0,.agg [.int .i64 25,.int .i64 im,.vslice none e1 n1 1 c1]]=> ∃(l:Y15)(ks:Y12),(n0=l.length/\c0=l.flatMap cN)/\(n1=ks.length/\c1=ks.map (IV.int .i64))/\(∃q:Int,ks=[q]/\(0<=q/\q<l.length)/\3<=(l.getD q.toNat default).ks.length/\(l.getD q.toNat default).ks.length<=33)/\K (.bool (decide (0<=im/\2*im+3<=(l.getD (ks.getD 0 0).toNat default).ks.length))) h
 |_=>False
theorem b6K(l:Y15)(im:Int)(ks:Y12)(e0 j:Nat)(h:Heap)(Q:KT):dF (aS a5N) env 206 dL bS bS [.vslice none e0 (l).length 3 ((l).flatMap cN),.agg [.int .i64 25,.int .i64 im,.vslice none j ks.length 1 (ks.map (IV.int .i64))]] h Q=(
 aD (aM [IV.vslice none 0 l.length 3 (List.flatMap cN l),IV.agg [.int .i64 25,iI im,IV.vslice none 0 ks.length 1 (List.map (IV.int .i64) ks)]]) (aD (true&&decide (0< (ks.length:Int))) (aI .i64 (List.map (IV.int .i64) ks) 0 fun i=>aD (decide (0<=i) &&decide (i< (l.length:Int))) (aX 1 (List.flatMap cN l) (i.toNat*3+2) fun(u:Y10)(p g:Nat)(c4:Y14)=>(1<=(g:Int)/\(g:Int)<=1000000)/\aJ (decide (im>=0)) (Q (.bool (decide (im<=wW (((g:Int)-1)/ (2:Int)-1)))) h) (Q (.bool false) h))))):=by kernel_rfl
theorem Tb: ∀xs h Q,X8 xs h Q->aO env 206 xs h Q:=by
 intro xs h Q g;unfold X8 at g;split at g
 ·rename_i e0 T K im u V L;obtain⟨l,ks,⟨rfl,rfl⟩,⟨rfl,rfl⟩,D,g⟩:=g;refine aN (a5O) (b6K l im ks e0 u h Q) ?_;delta wW iI;obtain⟨q,rfl,O,A,p⟩:=D;have j:q.toNat<l.length:=IM;have z:(l.getD q.toNat default).ks.length=(l[q.toNat]).ks.length:=by rw [AN,AA j];rfl
  replace g:=(show Q (.bool (decide (0<=im/\2*im+3<=((l.getD q.toNat default).ks.length:Int)))) h from g);rw [z]at A p g;refine aA (by simp only [aM,bI,bT,cI,AT]) (aA IP (cT (l:=[q]) (i:=0) IP (aA (by simp;omega) (sE j rfl ⟨⟨IM,IM⟩,?_⟩))));have G:IntKind.i64.wrap ((((l[q.toNat]).ks.length:Int)-1)/2-1)=(((l[q.toNat]).ks.length:Int)-1)/2-1:=AB _ IM;rw [G];refine aC (fun c=>?_) (fun c=>?_)
  ·rw [decide_eq_true_eq]at c;refine fI g ?_
   congr 1
   rw [ER,decide_eq_true_eq,decide_eq_true_eq];omega
  ·rw [decide_eq_false_iff_not]at c;refine fI g ?_
   congr 1
   rw [decide_eq_false_iff_not];omega
 ·exact g.elim
def Tc:=aT 206 X8 a5N
theorem a5P:aP env Tc:=aF Tb (a5O)
def Mn(xs:Y14)(h:Heap)(K:KT):Prop:=match xs with
 | [.vslice none e0 n0 3 c0,.agg [.int .i64 op,.int .i64 im,.vslice none e1 n1 1 c1]]=> ∃(l:Y15)(ks:Y12),(n0=l.length/\c0=l.flatMap cN)/\(n1=ks.length/\c1=ks.map (IV.int .i64))/\(op=25-> ∃q:Int,ks=[q]/\(0<=q/\q<l.length)/\3<=(l.getD q.toNat default).ks.length/\(l.getD q.toNat default).ks.length<=33)/\K (.bool (uY (eK l ⟨op,im,ks⟩) op im)) h
 |_=>False
theorem c5A: ∀xs h Q,Mn xs h Q->aO env 206 xs h Q:=by
 intro xs h Q g;unfold Mn at g;split at g
 ·rename_i e0 z j op im u A p;obtain⟨l,ks,⟨rfl,rfl⟩,⟨rfl,rfl⟩,i,g⟩:=g;unfold uY at g
  by_cases o25:op=25
  ·subst o25;rw [if_pos rfl]at g;exact Tb _ _ _ ⟨l,ks,⟨rfl,rfl⟩,⟨rfl,rfl⟩,i rfl,g⟩
  ·rw [if_neg o25]at g;exact c0P _ _ _ ⟨l,ks,⟨rfl,rfl⟩,⟨rfl,rfl⟩,o25,g⟩
 ·exact g.elim
def Mo:=aT 206 Mn Tc
theorem Td:aP env Mo:=aF c5A (a5P)
def X9(xs:Y14)(h:Heap)(K:KT):Prop:=match xs with
 | [.agg [.int .i64 31,.int .i64 im,.vslice none e1 n1 1 c1],.vslice none e2 n2 1 c2]=> ∃(ks s:Y12),(n1=ks.length/\c1=ks.map (IV.int .i64))/\(n2=s.length/\c2=s.map (IV.int .i64))/\s.length<=1000000/\K (.bool (qS s)) h
 |_=>False
theorem b6L(im:Int)(ks s:Y12)(j l:Nat)(h:Heap)(Q:KT):dF (aS Mo) env 205 dL bS bS [.agg [.int .i64 31,.int .i64 im,.vslice none j ks.length 1 (ks.map (IV.int .i64))],.vslice none l (s).length 1 ((s).map (IV.int .i64))] h Q=(
 aD (aM [IV.agg [.int .i64 31,iI im,IV.vslice none 0 ks.length 1 (List.map (IV.int .i64) ks)],IV.vslice none 0 s.length 1 (List.map (IV.int .i64) s)]) (aJ (decide ((s.length:Int)>=3)) (aJ (Int.tmod (s.length:Int) 2==1) ((1<=(s.length:Int)/\(s.length:Int)<=1000000)/\aJ (decide (((s.length:Int)-1)/ (2:Int)<=16)) (∃(m:Nat),(1<=m/\m<=16)/\(s.length:Int)=2*(m:Int)+1/\∀(w:Y12),w=2::(List.replicate m 1++(2:Int)::List.replicate (m-1) 1)-> ∃(g i:Y12),(s.length=g.length/\List.map (IV.int .i64) s=List.map (IV.int .i64) g)/\(w.length=i.length/\List.map (IV.int .i64) w=List.map (IV.int .i64) i)/\(g.length<=i.length/\g.length<=1000000000)/\Q (.bool (decide (g=List.take g.length i))) h) (Q (.bool false) h)) (Q (.bool false) h)) (Q (.bool false) h))):=by kernel_rfl
theorem Te: ∀xs h Q,X9 xs h Q->aO env 205 xs h Q:=by
 intro xs h Q g;unfold X9 at g;split at g
 ·rename_i im D O p G T u;obtain⟨ks,s,⟨rfl,rfl⟩,⟨rfl,rfl⟩,L,g⟩:=g;refine aN (Td) (b6L im ks s D G h Q) ?_;delta iI;have l: ¬qS s=true->Q (.bool false) h:=fun e=>by
   rw [GA]at e;rw [e]at g;exact g
  have i:=fun q:qS s=true=>nO q
  refine aA (by simp only [aM,bI,bT,AT]) (aC (fun p=>?_) (fun c=>l (fun q=>by rw [decide_eq_false_iff_not]at c;have:=i q;omega)));rw [decide_eq_true_eq]at p;rw [CP IM];refine aC (fun u=>⟨⟨IM,IM⟩,?_⟩) (fun c=>l (fun q=>by rw [beq_eq_false_iff_ne]at c;have:=i q;omega));rw [beq_iff_eq]at u;refine aC (fun A=>?_) (fun c=>l (fun q=>by rw [decide_eq_false_iff_not]at c;have:=i q;omega));rw [decide_eq_true_eq]at A;refine⟨s.length/2,⟨IM,IM⟩,IM,fun w j=>?_⟩;have z:w=Ym (s.length/2):=j;have K:w.length=s.length:=by rw [z,Rj IM];omega
  refine⟨s,w,⟨rfl,rfl⟩,⟨rfl,rfl⟩,⟨IM,IM⟩,fI g ?_⟩
  congr 1
  rw [AP IM,z,ER,decide_eq_true_eq];exact⟨fun q=>(i q).2.2.2,fun q=>by unfold qS;simp only [AF,decide_eq_true_eq];exact⟨IM,IM,IM,q⟩⟩
 ·exact g.elim
def Y0:=aT 205 X9 Mo
theorem Fx:aP env Y0:=aF Te (Td)
def Y1(xs:Y14)(h:Heap)(K:KT):Prop:=match xs with
 | [.agg [.int .i64 25,.int .i64 im,.vslice none e1 n1 1 c1],.vslice none e2 n2 1 c2]=> ∃(ks s:Y12),(n1=ks.length/\c1=ks.map (IV.int .i64))/\(n2=s.length/\c2=s.map (IV.int .i64))/\s.length<=1000000/\K (.bool (decide (s=[3]))) h
 |_=>False
theorem b6M(im:Int)(ks s:Y12)(i j:Nat)(h:Heap)(Q:KT):dF (aS Y0) env 205 dL bS bS [.agg [.int .i64 25,.int .i64 im,.vslice none i ks.length 1 (ks.map (IV.int .i64))],.vslice none j (s).length 1 ((s).map (IV.int .i64))] h Q=(
 aD (aM [IV.agg [.int .i64 25,iI im,IV.vslice none 0 ks.length 1 (List.map (IV.int .i64) ks)],IV.vslice none 0 s.length 1 (List.map (IV.int .i64) s)]) (aJ ((1:Int) !=(s.length:Int)) (Q (.bool false) h) (∃(g w:Y12),(s.length=g.length/\List.map (IV.int .i64) s=List.map (IV.int .i64) g)/\((1:Nat)=w.length/\[iI 3]=List.map (IV.int .i64) w)/\(g.length<=w.length/\g.length<=1000000000)/\Q (.bool (decide (g=List.take g.length w))) h))):=by kernel_rfl
theorem Tf: ∀xs h Q,Y1 xs h Q->aO env 205 xs h Q:=by
 intro xs h Q g;unfold Y1 at g;split at g
 ·rename_i im j A p l D u;obtain⟨ks,s,⟨rfl,rfl⟩,⟨rfl,rfl⟩,z,g⟩:=g;refine aN (Fx) (b6M im ks s j l h Q) ?_;delta iI;refine aA (by simp only [aM,bI,bT,AT]) (aC (fun c=>?_) (fun c=>?_))
  ·rw [decide_eq_false (fun e=>by rw [e]at c;simp at c)]at g;exact g
  ·rw [bne_eq_false_iff_eq]at c;have i:s.length=1:=IM;refine⟨s,[3],⟨rfl,rfl⟩,⟨rfl,rfl⟩,⟨by simp [i],IM⟩,?_⟩;rw [i];exact g
 ·exact g.elim
def Y2:=aT 205 Y1 Y0
theorem Fy:aP env Y2:=aF Tf (Fx)
def d6E(s:Y12):Inv':=eY (Nat×Nat×Y12) (fun x=>[(72,.v (.vslice none x.2.1 x.2.2.length 1 (x.2.2.map (IV.int .i64)))),(73,.v (.int .i64 (x.2.2.length:Int))),(74,.v (.int .i64 (x.1:Int)))]) (fun _=>[]) (fun _=>Heap.empty)
 (fun x=>x.2.2=s.drop 1/\x.1<=x.2.2.length/\∀j,j<x.1->x.2.2[j]?=some 1) (fun x=>x.2.2.length-x.1)
def Y3(xs:Y14)(h:Heap)(K:KT):Prop:=match xs with
 | [.agg [.int .i64 30,.int .i64 im,.vslice none e1 n1 1 c1],.vslice none e2 n2 1 c2]=> ∃(ks s:Y12),(n1=ks.length/\c1=ks.map (IV.int .i64))/\(n2=s.length/\c2=s.map (IV.int .i64))/\s.length<=1000000/\K (.bool (qT s)) h
 |_=>False
def qX(x:Nat×Nat×Y12):=x.2.2
def yT:=IV.int .i64
def a5Q(s:Y12)(x:Nat×Nat×Y12):=(x.2.2=List.drop 1 s/\x.1<=List.length (qX x)/\∀(j:Nat),j<x.1->(qX x)[j]?=some (1:Int))
def a5R(x:Nat×Nat×Y12):=TV.v (.vslice none x.2.1 ((qX x).length) 1 (List.map yT (qX x)))
def Tg(s:Y12):=(s.length:Int).toNat-1
theorem b6N(im:Int)(ks s:Y12)(i l:Nat)(h:Heap)(Q:KT):dF (aS Y2) env 205 dL (kR 11 (d6E s)) bS [.agg [.int .i64 30,.int .i64 im,.vslice none i ks.length 1 (ks.map (IV.int .i64))],.vslice none l (s).length 1 ((s).map (IV.int .i64))] h Q=(
 aD (aM [IV.agg [.int .i64 30,iI im,IV.vslice none 0 ks.length 1 (List.map yT ks)],IV.vslice none 0 s.length 1 (List.map yT s)]) (aJ (decide ((s.length:Int)<1)) (Q (.bool false) h) (aJ (decide ((s.length:Int)>7)) (Q (.bool false) h) (aD (true&&decide (0< (s.length:Int))) (aI .i64 (List.map yT s) 0 fun p=>aJ (p !=2) (Q (.bool false) h) (aD (true&& (decide (1<=(s.length:Int)) &&decide ((s.length:Int)<=(s.length:Int)))) ((∃(x:Nat×Nat×Y12),some (TV.v (.vslice none ((0:Nat)- (s.length- (s.length:Int).toNat)*1) (Tg s) 1 (List.take ((Tg s)*1) (List.drop 1 (List.map yT s)))))=some (a5R x)/\tI ((Tg s):Int)=tI (↑((qX x).length):Int)/\tI 0=tI (x.1:Int)/\Heap.mk PT.nil 0=Heap.mk PT.nil 0/\(a5Q s x)/\True)/\∀(x:Nat×Nat×Y12)(b:FF),(a5Q s x)->aJ (decide ((x.1:Int)< (↑((qX x).length):Int))) (aD (decide (0<=(x.1:Int)) &&decide ((x.1:Int)< (↑((qX x).length):Int))) (aI .i64 (List.map yT (qX x)) ((x.1:Int).toNat*1) fun u=>aJ (u !=1) (Q (.bool false) h) (∃(g:Nat×Nat×Y12),some (a5R x)=some (TV.v (.vslice none g.2.1 g.2.2.length 1 (List.map yT ((g.2).2))))/\tI (↑((qX x).length):Int)=tI (g.2.2.length:Int)/\tI (wW ((x.1:Int)+1))=tI ((g.1):Int)/\Heap.mk PT.nil 0=Heap.mk PT.nil 0/\(g.2.2=List.drop 1 s/\g.1<=g.2.2.length/\∀(j:Nat),j<g.1->g.2.2[j]?=some (1:Int))/\g.2.2.length-g.1< (qX x).length-x.1))) (Q (.bool true) h)))))))):=by kernel_rfl
theorem Th: ∀xs h Q,Y3 xs h Q->aO env 205 xs h Q:=by
 intro xs h Q l;unfold Y3 at l;split at l
 ·rename_i im L n1 c1 e2 n2 K;obtain⟨ks,s,⟨rfl,rfl⟩,⟨rfl,rfl⟩,hl,l⟩:=l;refine aN (Fy) (b6N im ks s L e2 h Q) ?_;delta qX yT a5Q a5R Tg tI wW iI;have G:qT s=false->Q (.bool false) h:=fun e=>by rw [e]at l;exact l
  have ht:qT s=true->Q (.bool true) h:=fun e=>by rw [e]at l;exact l
  have Y: ∀{p:Prop},(qT s=true->p)-> ¬p->qT s=false:=fun f n=>by
   cases e:qT s
   ·rfl
   ·exact absurd (f e) n
  refine aA (by simp only [aM,bI,bT,AT]) ?_
  cases s with
  |nil=>exact dA (fun c=>G rfl) (fun c=>absurd (show(([]:Y12).length:Int)<1 by simp) c)
  |cons a r=>
   have g:(a::r).length=r.length+1:=AK;have O:qT (a::r)=true->r.length<=6/\a=2/\(r.all fun x=>decide (x=1))=true:=fun e=>by
    simp only [qT,AF,decide_eq_true_eq]at e;exact e
   refine dA (fun c=>absurd c (by rw [g];omega)) (fun _=>dA (fun c=>G (Y O (fun q=>by have:=q.1;rw [g]at c;omega))) (fun c6=>aA (by rw [BN,decide_eq_true_eq,g];omega) (bY (n:=a) rfl (aC (fun c=>G (Y O (fun q=>?_))) (fun K=>aA (by simp only [BN,AF,decide_eq_true_eq,g];omega) ?_)))))
   ·rw [bne_iff_ne]at c;exact c q.2.1
   rw [bne_eq_false_iff_eq]at K;have L:(((a::r).length:Nat):Int).toNat-1=r.length:=by rw [AE,g];rfl
   rw [L,CF,EA,CZ,AP (by rw [BF];omega)];refine⟨⟨(0,_,r),rfl,rfl,rfl,rfl,⟨rfl,AR _,fun j A=>absurd A (DJ _)⟩,True.intro⟩,?_⟩;rintro⟨i,e,D⟩ _ ⟨Z,hi,A⟩;have Z:D=r:=Z;subst Z;dsimp only at hi A⊢;refine dA (fun ci=>?_) (fun ci=>ht ?_)
   ·have u:i<D.length:=IM;refine bG IM (bY (n:=D[i]) (by rw [AE,AO,BL,AA u];rfl) (aC (fun c=>G (Y O (fun q=>?_))) (fun c=>⟨(i+1,e,D),rfl,rfl,(by(try dsimp only);rw [AB _ IM];rfl),rfl,⟨rfl,u,fun j T=>?_⟩,IS⟩)))
    ·rw [bne_iff_ne]at c;exact c (by simpa using CA.1 q.2.2 _ (AG u))
    ·rw [bne_eq_false_iff_eq]at c;rcases BC j i with z|z
     ·exact A j z
     ·have V:j=i:=by
       have:j<i+1:=T;omega
      subst V;rw [AA u,c]
   ·have h6:D.length<=6:=by rw [g]at c6;omega
    simp only [qT,AF,decide_eq_true_eq];refine⟨h6,K,CA.2 fun x hx=>?_⟩;obtain⟨j,X,rfl⟩:=CT.1 hx;have:=A j IM;rw [AA X,AC]at this;simpa using this
 ·exact l.elim
def Ti:=aT 205 Y3 Y2
theorem a5S:aP env Ti:=aF Th (Fy)
def Mp(xs:Y14)(h:Heap)(K:KT):Prop:=match xs with
 | [.agg [.int .i64 op,.int .i64 im,.vslice none e1 n1 1 c1],.vslice none e2 n2 1 c2]=> ∃(ks s:Y12),(n1=ks.length/\c1=ks.map (IV.int .i64))/\(n2=s.length/\c2=s.map (IV.int .i64))/\(True/\True/\s.length<=1000000)/\K (.bool (pP op s)) h
 |_=>False
theorem c5B: ∀xs h Q,Mp xs h Q->aO env 205 xs h Q:=by
 intro xs h Q g;unfold Mp at g;split at g
 ·rename_i op im p z j u A l;obtain⟨ks,s,⟨rfl,rfl⟩,⟨rfl,rfl⟩,⟨_,_,i⟩,g⟩:=g;unfold pP at g
  by_cases h30:op=30
  ·subst h30;rw [if_pos rfl]at g;exact Th _ _ _ ⟨ks,s,⟨rfl,rfl⟩,⟨rfl,rfl⟩,i,g⟩
  rw [if_neg h30]at g;unfold D2 at g
  by_cases o31:op=31
  ·subst o31;rw [if_pos rfl]at g;exact Te _ _ _ ⟨ks,s,⟨rfl,rfl⟩,⟨rfl,rfl⟩,i,g⟩
  rw [if_neg o31]at g
  by_cases o25:op=25
  ·subst o25;rw [if_pos rfl]at g;exact Tf _ _ _ ⟨ks,s,⟨rfl,rfl⟩,⟨rfl,rfl⟩,i,g⟩
  rw [if_neg o25]at g;exact c0Q _ _ _ ⟨ks,s,⟨rfl,rfl⟩,⟨rfl,rfl⟩,⟨⟨o25,h30,o31⟩,i⟩,g⟩
 ·exact g.elim
def Mq:=aT 205 Mp Ti
theorem Tj:aP env Mq:=aF c5B (a5S)
def d2W(l:Y15)(i e0 id:Nat)(g:Y12)(h:Heap):Inv':= .or
 (eY (Nat×Nd) (fun x=>[(0,.v (.vslice none e0 (l).length 3 ((l).flatMap cN))),(1,.v (.int .i64 i)),(2,.v (.hslice id 0 g.length 1)),(7,.l 7 0),(16,.v (.vslice none 0 (x.2.ks).length 1 ((x.2.ks).map (IV.int .i64)))),(17,.v (.int .i64 x.2.ks.length)),(18,.v (.int .i64 x.1)),(8,.v .nilslice)]) (fun x=>[(7,[.int .i64 x.2.op,.int .i64 x.2.im,.vslice none 0 (x.2.ks).length 1 ((x.2.ks).map (IV.int .i64))])]) (fun _=>h) (fun x=>l[i]?=some x.2/\x.1=0) (fun x=>x.2.ks.length-x.1))
 (eY (Nat×Nd×Y12×Nat×Heap) (fun x=>[(0,.v (.vslice none e0 (l).length 3 ((l).flatMap cN))),(1,.v (.int .i64 i)),(2,.v (.hslice id 0 g.length 1)),(7,.l 7 0),(16,.v (.vslice none 0 (x.2.1.ks).length 1 ((x.2.1.ks).map (IV.int .i64)))),(17,.v (.int .i64 x.2.1.ks.length)),(18,.v (.int .i64 x.1)),(8,.v (.vslice (some x.2.2.2.1) x.2.2.1.length x.2.2.1.length 1 (x.2.2.1.map (IV.int .i64))))]) (fun x=>[(7,[.int .i64 x.2.1.op,.int .i64 x.2.1.im,.vslice none 0 (x.2.1.ks).length 1 ((x.2.1.ks).map (IV.int .i64))])]) (fun x=>x.2.2.2.2) (fun x=>l[i]?=some x.2.1/\sO l i x.1 x.2.2.1/\(0<x.1/\x.2.2.2.2.get x.2.2.2.1= .tip x.2.2.1.length/\x.2.2.2.1≠id)/\(x.2.2.2.2.get id=h.get id/\h.next<=x.2.2.2.2.next)) (fun x=>x.2.1.ks.length-x.1))
def c5C(xs:Y14)(h:Heap)(K:KT):Prop:=match xs with
 | [.vslice none e0 n0 3 c0,.int .i64 q,.hslice id 0 n2 1]=> ∃(l:Y15)(i:Nat)(g:Y12),(n0=l.length/\c0=l.flatMap cN/\q=(i:Int)/\n2=g.length)/\SPH h id l i g/\∀h2:Heap,h2.get id=h.get id/\h.next<=h2.next->K (.int .i64 (cP (l.take i) (aK (l.take i)) (l.getD i default))) h2
 |_=>False
def nR(l:Y15)(e0:Nat):=TV.v (.vslice none e0 l.length 3 (List.flatMap cN l))
def cZ:=IV.int .i64
def nS(id:Nat)(g:Y12):=TV.v (.hslice id 0 g.length 1)
def nT(i:Nat):=TV.v (.int .i64 (i:Int))
def lL:=iI 2
def nU:=iI 0
def nV:=TV.l 7 0
def E7:=iI 1
def Fz(g:Y15)(q:Int):=Nd.ks (List.getD g q.toNat default)
def a5T(h:Heap)(g:Int):=TV.v (.vslice (some (h.next)) 1 1 1 [iI g])
def P5:=TV.v IV.nilslice
theorem d6F(l:Y15)(i:Nat)(e0 id:Nat)(p:Y12)(h:Heap)(Q:KT):dF (aS Mq) env 154 dL (kR 5 (d2W l i e0 id p h)) bS [.vslice none e0 (l).length 3 ((l).flatMap cN),.int .i64 i,.hslice id 0 p.length 1] h Q=(
 aD (decide (0<=(i:Int)) &&decide ((i:Int)< (l.length:Int))) (aI .i64 (List.flatMap cN l) ((i:Int).toNat*3) fun n0=>aI .i64 (List.flatMap cN l) ((i:Int).toNat*3+1) fun n1=>aX 1 (List.flatMap cN l) ((i:Int).toNat*3+1+1) fun(O:Y10)(L A:Nat)(K:Y14)=>((∃(x:Nat×Nd),some (nR l e0)=some (nR l e0)/\some (nT i)=some (nT i)/\some (nS id p)=some (nS id p)/\some nV=some nV/\some (TV.v (.vslice O L A 1 K))=some (TV.v (.vslice none 0 ((Nd.ks x.2).length) 1 (List.map cZ (Nd.ks x.2))))/\tI (A:Int)=tI (↑((Nd.ks x.2).length):Int)/\some (TV.v nU)=tI (x.1:Int)/\some P5=some P5/\some [iI n0,iI n1,IV.vslice O L A 1 K]=some [iI (Nd.op x.2),iI (Nd.im x.2),IV.vslice none 0 ((Nd.ks (x.2)).length) 1 (List.map cZ (Nd.ks x.2))]/\h=h/\(l[i]?=some x.2/\x.1=0)/\True) \/ ∃(x:Nat×Nd×Y12×Nat×Heap),some (nR l e0)=some (nR l e0)/\some (nT i)=some (nT i)/\some (nS id p)=some (nS id p)/\some nV=some nV/\some (TV.v (.vslice O L A 1 K))=some (TV.v (.vslice none 0 ((Nd.ks x.2.1).length) 1 (List.map cZ (Nd.ks x.2.1))))/\tI (A:Int)=tI (↑((Nd.ks x.2.1).length):Int)/\some (TV.v nU)=tI (x.1:Int)/\some P5=some (TV.v (.vslice (some x.2.2.2.1) x.2.2.1.length x.2.2.1.length 1 (List.map cZ x.2.2.1)))/\some [iI n0,iI n1,IV.vslice O L A 1 K]=some [iI (Nd.op x.2.1),iI (Nd.im x.2.1),IV.vslice none 0 ((Nd.ks x.2.1).length) 1 (List.map cZ (Nd.ks x.2.1))]/\h=x.2.2.2.2/\(l[i]?=some x.2.1/\sO l i x.1 x.2.2.1/\(0<x.1/\Heap.get (((x.2.2).2).2) x.2.2.2.1=IObj.tip x.2.2.1.length/\x.2.2.2.1≠id)/\Heap.get x.2.2.2.2 id=h.get id/\Heap.next h<=Heap.next (((x.2.2).2).2))/\True)/\(∀(x:Nat×Nd)(b:FF),l[i]?=some x.2/\x.1=0->aJ (decide ((x.1:Int)< (↑((Nd.ks x.2).length):Int))) (aD (decide (0<=(x.1:Int)) &&decide ((x.1:Int)< (↑((Nd.ks (x.2)).length):Int))) (aI .i64 (List.map cZ (Nd.ks x.2)) ((x.1:Int).toNat*1) fun z=>aJ (decide (z<0)) (Q nU h) (aJ (decide (z>=(i:Int))) (Q nU h) (aD (decide (0<=z) &&decide (z< (p.length:Int))) (aE h id fun r7=>aI .i64 r7 ((0:Nat)+z.toNat*1) fun n8=>aJ (n8==0) (Q nU h) (aD (decide (0<=z) &&decide (z< (p.length:Int))) (aE h id fun r9=>aI .i64 r9 ((0:Nat)+z.toNat*(1:Nat)) fun D=>(∃(g:Nat×Nd),some (nR l e0)=some (nR l e0)/\some (nT i)=some (nT i)/\some (nS id p)=some (nS id p)/\some nV=some nV/\some (TV.v (.vslice none 0 ((Nd.ks x.2).length) 1 (List.map cZ (Nd.ks (x.2)))))=some (TV.v (.vslice none 0 ((Nd.ks g.2).length) 1 (List.map cZ (Nd.ks g.2))))/\tI (↑((Nd.ks x.2).length):Int)=tI (↑((Nd.ks g.2).length):Int)/\tI (wW ((x.1:Int)+1))=tI (g.1:Int)/\some (a5T h D)=some P5/\some [iI (Nd.op x.2),iI (Nd.im x.2),IV.vslice none 0 ((Nd.ks x.2).length) 1 (List.map cZ (Nd.ks x.2))]=some [iI (Nd.op g.2),iI (Nd.im g.2),IV.vslice none 0 ((Nd.ks g.2).length) 1 (List.map cZ (Nd.ks g.2))]/\Heap.push h (IObj.tip 1)=h/\(l[i]?=some g.2/\g.1=0)/\List.length (Nd.ks g.2)-g.1< (Nd.ks x.2).length-x.1) \/ ∃(g:Nat×Nd×Y12×Nat×Heap),some (nR l e0)=some (nR l e0)/\some (nT i)=some (nT i)/\some (nS id p)=some (nS id p)/\some nV=some nV/\some (TV.v (.vslice none 0 ((Nd.ks x.2).length) 1 (List.map cZ (Nd.ks x.2))))=some (TV.v (.vslice none 0 ((Nd.ks g.2.1).length) 1 (List.map cZ (Nd.ks (g.2.1)))))/\tI (↑((Nd.ks x.2).length):Int)=tI (↑((Nd.ks g.2.1).length):Int)/\tI (wW ((x.1:Int)+1))=some (TV.v (iI (g.1:Int)))/\some (a5T h D)=some (TV.v (.vslice (some g.2.2.2.1) g.2.2.1.length g.2.2.1.length 1 (List.map cZ (((g.2).2).1))))/\some [iI (Nd.op x.2),iI (Nd.im x.2),IV.vslice none 0 ((Nd.ks x.2).length) 1 (List.map cZ (Nd.ks x.2))]=some [iI (Nd.op g.2.1),iI (Nd.im (g.2.1)),IV.vslice none 0 ((Nd.ks g.2.1).length) 1 (List.map cZ (Nd.ks g.2.1))]/\Heap.push h (IObj.tip 1)=g.2.2.2.2/\(l[i]?=some g.2.1/\sO l i g.1 g.2.2.1/\(0<g.1/\Heap.get g.2.2.2.2 g.2.2.2.1=IObj.tip g.2.2.1.length/\g.2.2.2.1≠id)/\Heap.get (g.2.2.2.2) id=h.get id/\Heap.next h<=Heap.next g.2.2.2.2)/\List.length (Nd.ks g.2.1)-g.1< (Nd.ks x.2).length-x.1))))))) (∃(ks s:Y12),((Nd.ks x.2).length=ks.length/\List.map cZ (Nd.ks x.2)=List.map cZ ks)/\((0:Nat)=s.length/\[]=List.map cZ s)/\(True/\True/\s.length<=1000000)/\aJ (!pP (Nd.op x.2) s) (Q nU h) (∃(j:Y15)(ks:Y12),(l.length=j.length/\List.flatMap cN l=List.flatMap cN j)/\((Nd.ks x.2).length=ks.length/\List.map cZ (Nd.ks x.2)=List.map cZ ks)/\(Nd.op x.2=25-> ∃(q:Int),ks=[q]/\(0<=q/\q< (j.length:Int))/\3<=List.length (Fz j q)/\List.length (Fz j q)<=33)/\aJ (!uY (eK j (Nd.mk (Nd.op x.2) (Nd.im x.2) ks)) (Nd.op x.2) (Nd.im x.2)) (Q nU h) (aJ (Nd.op x.2==31) (Q (.int .i64 3) h) (aJ (Nd.op x.2==26) (Q lL h) (aJ (Nd.op x.2==27) (Q lL h) (aJ (Nd.op x.2==28) (Q lL h) (aJ (Nd.op x.2==29) (Q lL h) (aJ (Nd.op x.2==30) (Q lL h) (aJ (Nd.op x.2==22) False (aJ (Nd.op x.2==3) (aJ (Int.tmod (Nd.im x.2) 16==0) (Q lL h) (Q E7 h)) (aJ (Nd.op x.2==25) (aJ (Nd.im x.2==0) (Q lL h) (Q E7 h)) (Q E7 h)))))))))))))/\∀(x:Nat×Nd×Y12×Nat×Heap)(b:FF),l[i]?=some x.2.1/\sO l i x.1 x.2.2.1/\(0<x.1/\Heap.get x.2.2.2.2 x.2.2.2.1=IObj.tip x.2.2.1.length/\x.2.2.2.1≠id)/\Heap.get x.2.2.2.2 id=h.get id/\Heap.next h<=Heap.next x.2.2.2.2->aJ (decide ((x.1:Int)< (↑((Nd.ks x.2.1).length):Int))) (aD (decide (0<=(x.1:Int)) &&decide ((x.1:Int)< (↑((Nd.ks x.2.1).length):Int))) (aI .i64 (List.map cZ (Nd.ks x.2.1)) ((x.1:Int).toNat*1) fun u=>aJ (decide (u<0)) (Q nU x.2.2.2.2) (aJ (decide (u>=(i:Int))) (Q nU x.2.2.2.2) (aD (decide (0<=u) &&decide (u< (p.length:Int))) (aE x.2.2.2.2 id fun Y=>aI .i64 Y ((0:Nat)+u.toNat*(1:Nat)) fun V=>aJ (V==0) (Q nU x.2.2.2.2) (aD (decide (0<=u) &&decide (u< (p.length:Int))) (aE x.2.2.2.2 id fun Z=>aI .i64 Z ((0:Nat)+u.toNat*1) fun G=>cK x.2.2.2.2 x.2.2.2.1 fun(T:Nat)=>aD (Nat.beq T x.2.2.1.length&&Nat.ble ((x.2.2.1.length+1)*8) 140737488355328) ((∃(g:Nat×Nd),some (nR l e0)=some (nR l e0)/\some (nT i)=some (nT i)/\some (nS id p)=some (nS id p)/\some nV=some nV/\some (TV.v (.vslice none 0 ((Nd.ks x.2.1).length) 1 (List.map cZ (Nd.ks x.2.1))))=some (TV.v (.vslice none 0 ((Nd.ks g.2).length) 1 (List.map cZ (Nd.ks g.2))))/\tI (↑((Nd.ks x.2.1).length):Int)=tI (↑((Nd.ks g.2).length):Int)/\tI (wW ((x.1:Int)+1))=tI (g.1:Int)/\some (TV.v (.vslice (some x.2.2.2.1) ((((x.2).2).1).length+1) (x.2.2.1.length+1) 1 (List.map cZ x.2.2.1++ [iI G])))=some P5/\some [iI (Nd.op x.2.1),iI (Nd.im x.2.1),IV.vslice none 0 ((Nd.ks x.2.1).length) 1 (List.map cZ (Nd.ks x.2.1))]=some [iI (Nd.op g.2),iI (Nd.im g.2),IV.vslice none 0 ((Nd.ks g.2).length) 1 (List.map cZ (Nd.ks g.2))]/\Heap.set x.2.2.2.2 x.2.2.2.1 (IObj.tip (x.2.2.1.length+1))=h/\(l[i]?=some g.2/\g.1=0)/\List.length (Nd.ks g.2)-g.1< (Nd.ks x.2.1).length-x.1) \/ ∃(g:Nat×Nd×Y12×Nat×Heap),some (nR l e0)=some (nR l e0)/\some (nT i)=some (nT i)/\some (nS id p)=some (nS id p)/\some nV=some nV/\some (TV.v (.vslice none 0 ((Nd.ks x.2.1).length) 1 (List.map cZ (Nd.ks x.2.1))))=some (TV.v (.vslice none 0 ((Nd.ks g.2.1).length) 1 (List.map cZ (Nd.ks g.2.1))))/\tI (↑((Nd.ks (x.2.1)).length):Int)=tI (↑((Nd.ks g.2.1).length):Int)/\tI (wW ((x.1:Int)+1))=tI (g.1:Int)/\some (TV.v (.vslice (some x.2.2.2.1) (x.2.2.1.length+1) (x.2.2.1.length+1) 1 (List.map cZ x.2.2.1++ [iI G])))=some (TV.v (.vslice (some (g.2.2.2.1)) g.2.2.1.length g.2.2.1.length 1 (List.map cZ g.2.2.1)))/\some [iI (Nd.op x.2.1),iI (Nd.im (x.2.1)),IV.vslice none 0 ((Nd.ks x.2.1).length) 1 (List.map cZ (Nd.ks x.2.1))]=some [iI (Nd.op g.2.1),iI (Nd.im g.2.1),IV.vslice none 0 ((Nd.ks g.2.1).length) 1 (List.map cZ (Nd.ks g.2.1))]/\Heap.set x.2.2.2.2 x.2.2.2.1 (IObj.tip (x.2.2.1.length+1))=((g.2.2).2).2/\(l[i]?=some g.2.1/\sO l i g.1 g.2.2.1/\(0<g.1/\Heap.get g.2.2.2.2 g.2.2.2.1=IObj.tip ((((g.2).2).1).length)/\g.2.2.2.1≠id)/\Heap.get g.2.2.2.2 id=h.get id/\Heap.next h<=Heap.next g.2.2.2.2)/\List.length (Nd.ks g.2.1)-g.1< (Nd.ks (x.2.1)).length-x.1)))))))) (∃(ks s:Y12),((Nd.ks x.2.1).length=ks.length/\List.map cZ (Nd.ks x.2.1)=List.map cZ ks)/\(x.2.2.1.length=s.length/\List.map cZ ((x.2.2).1)=List.map cZ s)/\(True/\True/\s.length<=1000000)/\aJ (!pP (Nd.op x.2.1) s) (Q nU x.2.2.2.2) (∃(j:Y15)(ks:Y12),(l.length=j.length/\List.flatMap cN l=List.flatMap cN j)/\((Nd.ks x.2.1).length=ks.length/\List.map cZ (Nd.ks x.2.1)=List.map cZ ks)/\(Nd.op x.2.1=25-> ∃(q:Int),ks=[q]/\(0<=q/\q< (j.length:Int))/\3<=List.length (Fz j q)/\List.length (Fz j q)<=33)/\aJ (!uY (eK j (Nd.mk (Nd.op x.2.1) (Nd.im x.2.1) ks)) (Nd.op x.2.1) (Nd.im x.2.1)) (Q nU x.2.2.2.2) (aJ (Nd.op x.2.1==31) (Q (iI 3) x.2.2.2.2) (aJ (Nd.op x.2.1==26) (Q lL x.2.2.2.2) (aJ (Nd.op x.2.1==27) (Q lL x.2.2.2.2) (aJ (Nd.op x.2.1==28) (Q lL x.2.2.2.2) (aJ (Nd.op x.2.1==29) (Q lL x.2.2.2.2) (aJ (Nd.op x.2.1==30) (Q lL ((((x.2).2).2).2)) (aJ (Nd.op x.2.1==22) (aD (true&&decide (1< (x.2.2.1.length:Int))) (aI .i64 (List.map cZ x.2.2.1) 1 fun X=>Q (.int .i64 X) (((x.2.2).2).2))) (aJ (Nd.op x.2.1==3) (aJ (Int.tmod (Nd.im x.2.1) 16==0) (Q lL x.2.2.2.2) (Q E7 x.2.2.2.2)) (aJ (Nd.op x.2.1==25) (aJ (Nd.im x.2.1==0) (Q lL x.2.2.2.2) (Q E7 x.2.2.2.2)) (Q E7 x.2.2.2.2)))))))))))))):=by kernel_rfl
theorem d6G: ∀xs h Q,c5C xs h Q->aO env 154 xs h Q:=by
 intro xs h Q hk;unfold c5C at hk;split at hk
 ·rename_i e0 n0 c0 q id n2;obtain⟨l,i,k0,⟨rfl,rfl,rfl,rfl⟩,hb,hk⟩:=hk;refine aN (Tj) (d6F l i e0 id k0 h Q) ?_;delta nR cZ nS nT lL nU nV E7 Fz a5T P5 tI wW iI;have tn: ∀x:Nat,(x:Int).toNat=x:=AE
  obtain⟨⟨hi,X,b5⟩,hg,a4,b3,b1⟩:=hb;have a7:=(X _ (AG hi)).2;have b4:=(X _ (AG hi)).1;have eD:l.getD i default=l[i]:=by rw [AN,AA hi];rfl
  rw [eD]at hk;have fin: ∀(v:Int)(h2:Heap),v=cP (l.take i) (aK (l.take i)) l[i]->h2.get id=h.get id/\h.next<=h2.next->Q (.int .i64 v) h2:=by
   rintro _ h2 rfl e;exact hk h2 e
  have b6:(aK (l.take i)).length=i:=by rw [bR,AW];omega
  have a5: ∀q,(hq:q<i)-> ∃h2:q<k0.length,∃h3:q< (aK (l.take i)).length,k0[q]=(aK (l.take i))[q]:=fun q hq=>by
   refine⟨IM,IM,?_⟩;have e:(k0.take i)[q]?=(aK (l.take i))[q]?:=by rw [b1]
   rw [EE hq,AA IM,AA IM,AC]at e;exact e
  have Y:=fun(k:Y12)(h:sO l i l[i].ks.length k)=>Go.M10.sO.finH h hi (AJ _)
  refine aA (by simp;omega) (oR hi (by rw [tn]) ⟨.inl ⟨(0,l[i]),IR,IR,IR,IR,IR,IR,IR,IR,IR,IR,⟨AA hi,rfl⟩,trivial⟩,?_,?_⟩)
  ·rintro⟨j,n⟩ _ ⟨O,hj⟩;dsimp only at O hj⊢;obtain rfl:l[i]=n:=by rw [AA hi]at O;exact AX O
   subst hj;refine aC (fun c=>?_) (fun c=>?_)
   ·rw [decide_eq_true_eq]at c;have G:0<l[i].ks.length:=IM;have hm:l[i].ks[0] ∈l[i].ks:=AG G;refine aA (by simp;omega) (fT G rfl (aC (fun A=>?_) (fun A=>aC (fun Z=>?_) (fun Z=>?_))))
    ·rw [decide_eq_true_eq]at A;exact fin _ _ (cD hm (jD A)).symm ⟨rfl,AJ _⟩
    ·rw [decide_eq_true_eq]at Z;exact fin _ _ (cD hm (jE IM)).symm ⟨rfl,AJ _⟩
    rw [decide_eq_false_iff_not]at A Z;obtain⟨q1,q2,q3⟩:=a5 (l[i].ks[0]).toNat IM;refine aA (by simp;omega) (aB hg (fT q1 IM (aC (fun c4=>?_) (fun c4=>?_))))
    ·rw [beq_iff_eq,q3]at c4;exact fin _ _ (cD hm (jF q2 c4)).symm ⟨rfl,AJ _⟩
    rw [beq_eq_false_iff_ne,q3]at c4;obtain⟨k1,k2⟩:=iH IM q2 c4;have hs:=(sO.zero hi).step hi G k1;rw [k2]at hs;refine aA (by simp;omega) (aB hg (fT q1 IM (.inr ⟨(1,l[i],[(aK (l.take i))[(l[i].ks[0]).toNat]],h.next,h.push (.tip 1)),IR,IR,IR,IR,IR,IR,IR,(by rw [q3];rfl),IR,IR,⟨O,hs,⟨Nat.one_pos,aU,DG a4⟩,aL a4,ED _⟩,IS⟩)))
   ·rw [decide_eq_false_iff_not]at c;have hz:l[i].ks.length=0:=IM;obtain⟨V,t2⟩:=Y [] (by rw [hz];exact sO.zero hi);refine⟨l[i].ks,[],⟨rfl,rfl⟩,⟨rfl,rfl⟩,⟨a7,trivial,IP⟩,?_⟩;refine aC (fun z=>fin _ _ ?_ ⟨rfl,AJ _⟩) (fun z=>⟨l,l[i].ks,⟨rfl,rfl⟩,⟨rfl,rfl⟩,t2.2 (by simpa using z),aC (fun A=>fin _ _ ?_ ⟨rfl,AJ _⟩) (fun A=>?_)⟩)
    ·rw [CH]at z;rw [V,if_neg (fun e=>by rw [z]at e;exact CG e.1)]
    ·rw [CH]at A;rw [V,if_neg (fun e=>by rw [A]at e;exact CG e.2)]
    rw [CV]at z A;rw [if_pos ⟨z,A⟩]at V;have p: ∀{a o:Int},(a==o)=false-> ¬a=o:=fun c=>by simpa using c
    have L: ∀v:Int,Kq l[i].op l[i].im []=v->Q (.int .i64 v) h:=fun v e=>fin v _ (by rw [V,e]) ⟨rfl,AJ _⟩
    by_cases o30:l[i].op=30
    ·simp only [o30];exact aC (fun d=>absurd d IN) (fun _=>aC (fun d=>absurd d IN) (fun _=>aC (fun d=>absurd d IN) (fun _=>aC (fun d=>absurd d IN) (fun _=>aC (fun d=>absurd d IN) (fun _=>aC (fun _=>L 2 (if_pos o30)) (fun d=>absurd d IN))))))
    have K: ∀v:Int,zA l[i].op l[i].im []=v->Q (.int .i64 v) h:=fun v e=>L v ((Rl o30).trans e)
    have u:l[i].op≠31->l[i].op≠25-> ∀v:Int,Ki l[i].op l[i].im []=v->Q (.int .i64 v) h:=fun h1 h2 v e=>K v (by unfold zA;rw [if_neg h1,if_neg h2];exact e)
    refine aC (fun d=>K 3 (if_pos (beq_iff_eq.1 d))) (fun a0=>?_)
    by_cases o25:l[i].op=25
    ·simp only [o25];refine aC (fun d=>absurd d IN) (fun _=>aC (fun d=>absurd d IN) (fun _=>aC (fun d=>absurd d IN) (fun _=>aC (fun d=>absurd d IN) (fun _=>aC (fun d=>absurd d IN) (fun _=>aC (fun d=>absurd d IN) (fun _=>aC (fun d=>absurd d IN) (fun _=>aC (fun _=>?_) (fun d=>absurd d IN))))))));refine aC (fun e=>K 2 ?_) (fun e=>K 1 ?_)
     ·unfold zA;rw [o25,if_neg IN,if_pos rfl,if_pos (beq_iff_eq.1 e)]
     ·unfold zA;rw [o25,if_neg IN,if_pos rfl,if_neg (p e)]
    replace u:=u (p a0) o25;unfold Ki at u;refine aC (fun d=>u _ (if_pos (.inl (beq_iff_eq.1 d)))) (fun d2=>aC (fun d=>u _ (if_pos (.inr (.inl (beq_iff_eq.1 d))))) (fun d3=>aC (fun d=>u _ (if_pos (.inr (.inr (.inl (beq_iff_eq.1 d)))))) (fun d4=>aC (fun d=>u _ (if_pos (.inr (.inr (.inr (beq_iff_eq.1 d)))))) (fun d5=>aC (fun d=>absurd (beq_iff_eq.1 d) o30) (fun d6=>?_)))));have nn: ¬ (l[i].op=26\/l[i].op=27\/l[i].op=28\/l[i].op=29):=by
     have:=p d2;have:=p d3;have:=p d4;have:=p d5;omega
    rw [if_neg nn]at u;refine aC (fun d=>?_) (fun d7=>aC (fun d=>?_) (fun d8=>aC (fun d=>absurd (beq_iff_eq.1 d) o25) (fun _=>u _ (by rw [if_neg (p d7),if_neg (p d8)]))))
    ·rw [beq_iff_eq]at d;have h3:tD 22 []=false:=IN;unfold pP D2 at z;rw [d,if_neg IN,if_neg IN,if_neg IN,h3]at z
     cases z
    ·rw [if_neg (p d7),if_pos (beq_iff_eq.1 d)]at u;refine aC (fun e=>u _ (if_pos (beq_iff_eq.1 e))) (fun e=>u _ (if_neg (p e)))
  ·rintro⟨j,n,k,a8,g⟩ _ ⟨O,T,⟨b0,a3,a1⟩,D⟩;dsimp only at O T b0 a3 a1 D⊢;obtain rfl:l[i]=n:=by rw [AA hi]at O;exact AX O
   have b2:k.length=j/\j<=l[i].ks.length:=by
    obtain⟨n,h1,h2,_⟩:=T;rw [O]at h1
    cases h1
    exact⟨h2.2,h2.1⟩
   have a2:g.get id= .cells (k0.map (IV.int .i64)):=D.1.trans hg;refine aC (fun c=>?_) (fun c=>?_)
   ·rw [decide_eq_true_eq]at c;have G:j<l[i].ks.length:=IM;have hm:l[i].ks[j] ∈l[i].ks:=AG G;refine aA (by simp;omega) (fT G (by rw [AO,tn]) (aC (fun A=>?_) (fun A=>aC (fun Z=>?_) (fun Z=>?_))))
    ·rw [decide_eq_true_eq]at A;exact fin _ _ (cD hm (jD A)).symm D
    ·rw [decide_eq_true_eq]at Z;exact fin _ _ (cD hm (jE IM)).symm D
    rw [decide_eq_false_iff_not]at A Z;obtain⟨q1,q2,q3⟩:=a5 (l[i].ks[j]).toNat IM;refine aA (by simp;omega) (aB a2 (fT q1 IM (aC (fun c4=>?_) (fun c4=>?_))))
    ·rw [beq_iff_eq,q3]at c4;exact fin _ _ (cD hm (jF q2 c4)).symm D
    rw [beq_eq_false_iff_ne,q3]at c4;obtain⟨k1,k2⟩:=iH IM q2 c4;have hs:=T.step hi G k1;rw [k2]at hs;refine aA (by simp;omega) (aB a2 (fT q1 IM (aV a3 (aA (by simp only [AF,bK,AM,true_and];omega) (.inr ⟨(j+1,l[i],k++ [(aK (l.take i))[(l[i].ks[j]).toNat]],a8,g.set a8 (.tip (k.length+1))),IR,IR,IR,IR,IR,IR,?_,?_,IR,?_,⟨O,hs,⟨CN _,by rw [aH];simp,a1⟩,by rw [aG a1.symm];exact D.1,D.2⟩,IS⟩)))))
    ·rw [AB _ IM];rfl
    ·rw [q3];simp
    ·rfl
   ·rw [decide_eq_false_iff_not]at c;obtain rfl:j=l[i].ks.length:=IM;obtain⟨V,t2⟩:=Y k T;refine⟨l[i].ks,k,⟨rfl,rfl⟩,⟨rfl,rfl⟩,⟨a7,trivial,IM⟩,?_⟩;refine aC (fun z=>fin _ _ ?_ D) (fun z=>⟨l,l[i].ks,⟨rfl,rfl⟩,⟨rfl,rfl⟩,t2.2 (by simpa using z),aC (fun A=>fin _ _ ?_ D) (fun A=>?_)⟩)
    ·rw [CH]at z;rw [V,if_neg (fun e=>by rw [z]at e;exact CG e.1)]
    ·rw [CH]at A;rw [V,if_neg (fun e=>by rw [A]at e;exact CG e.2)]
    rw [CV]at z A;rw [if_pos ⟨z,A⟩]at V;have p: ∀{a o:Int},(a==o)=false-> ¬a=o:=fun c=>by simpa using c
    have L: ∀v:Int,Kq l[i].op l[i].im k=v->Q (.int .i64 v) g:=fun v e=>fin v _ (by rw [V,e]) D
    by_cases o30:l[i].op=30
    ·simp only [o30];exact aC (fun d=>absurd d IN) (fun _=>aC (fun d=>absurd d IN) (fun _=>aC (fun d=>absurd d IN) (fun _=>aC (fun d=>absurd d IN) (fun _=>aC (fun d=>absurd d IN) (fun _=>aC (fun _=>L 2 (if_pos o30)) (fun d=>absurd d IN))))))
    have K: ∀v:Int,zA l[i].op l[i].im k=v->Q (.int .i64 v) g:=fun v e=>L v ((Rl o30).trans e)
    have u:l[i].op≠31->l[i].op≠25-> ∀v:Int,Ki l[i].op l[i].im k=v->Q (.int .i64 v) g:=fun h1 h2 v e=>K v (by unfold zA;rw [if_neg h1,if_neg h2];exact e)
    refine aC (fun d=>K 3 (if_pos (beq_iff_eq.1 d))) (fun a0=>?_)
    by_cases o25:l[i].op=25
    ·simp only [o25];refine aC (fun d=>absurd d IN) (fun _=>aC (fun d=>absurd d IN) (fun _=>aC (fun d=>absurd d IN) (fun _=>aC (fun d=>absurd d IN) (fun _=>aC (fun d=>absurd d IN) (fun _=>aC (fun d=>absurd d IN) (fun _=>aC (fun d=>absurd d IN) (fun _=>aC (fun _=>?_) (fun d=>absurd d IN))))))));refine aC (fun e=>K 2 ?_) (fun e=>K 1 ?_)
     ·unfold zA;rw [o25,if_neg IN,if_pos rfl,if_pos (beq_iff_eq.1 e)]
     ·unfold zA;rw [o25,if_neg IN,if_pos rfl,if_neg (p e)]
    replace u:=u (p a0) o25;unfold Ki at u;refine aC (fun d=>u _ (if_pos (.inl (beq_iff_eq.1 d)))) (fun d2=>aC (fun d=>u _ (if_pos (.inr (.inl (beq_iff_eq.1 d))))) (fun d3=>aC (fun d=>u _ (if_pos (.inr (.inr (.inl (beq_iff_eq.1 d)))))) (fun d4=>aC (fun d=>u _ (if_pos (.inr (.inr (.inr (beq_iff_eq.1 d)))))) (fun d5=>aC (fun d=>absurd (beq_iff_eq.1 d) o30) (fun d6=>?_)))));have nn: ¬ (l[i].op=26\/l[i].op=27\/l[i].op=28\/l[i].op=29):=by
     have:=p d2;have:=p d3;have:=p d4;have:=p d5;omega
    rw [if_neg nn]at u;refine aC (fun d=>?_) (fun d7=>aC (fun d=>?_) (fun d8=>aC (fun d=>absurd (beq_iff_eq.1 d) o25) (fun _=>u _ (by rw [if_neg (p d7),if_neg (p d8)]))))
    ·rw [beq_iff_eq]at d;rw [if_pos d]at u;have a6:(k.length:Int)=ar l[i].op:=by
      unfold pP D2 at z;rw [d,if_neg IN,if_neg IN,if_neg IN]at z;unfold tD at z;rw [<-d]at z;simp only [AF,decide_eq_true_eq]at z;exact z.2.1
     have a9:ar 22=3:=IN;rw [d,a9]at a6;have G:1<k.length:=IM;refine aA (by simp;omega) (fT G IM (u _ ?_));rw [AN,AA G];rfl
    ·rw [if_neg (p d7),if_pos (beq_iff_eq.1 d)]at u;refine aC (fun e=>u _ (if_pos (beq_iff_eq.1 e))) (fun e=>u _ (if_neg (p e)))
 ·exact hk.elim
def c5D:=aT 154 c5C Mq
theorem c0R:aP env c5D:=aF d6G (Tj)
def d2X(l:Y15)(g:Nat):Inv':=eY (Nat×Nat×Heap×Y12) (fun x=>[(0,.v (.vslice none g (l).length 3 ((l).flatMap cN))),(3,.v (.hslice x.2.1 0 l.length 1)),(9,.v (.int .i64 l.length)),(10,.v (.int .i64 x.1))]) (fun _=>[]) (fun x=>x.2.2.1)
 (fun x=>x.1<=l.length/\x.2.2.1.get x.2.1= .cells (x.2.2.2.map (IV.int .i64))/\x.2.2.2.length=l.length/\x.2.1<x.2.2.1.next/\x.2.2.2.take x.1=aK (l.take x.1)) (fun x=>l.length-x.1)
def Y4(xs:Y14)(h:Heap)(K:KT):Prop:=match xs with
 | [.vslice none e1 n1 3 c1]=> ∃l:Y15,(n1=l.length/\c1=l.flatMap cN)/\((∀x∈l,x.ks.length<=1000000/\True)/\l.length<=1000000)/\∀(h2:Heap)(id:Nat),h2.get id= .cells ((aK l).map (IV.int .i64))->K (.hslice id 0 l.length 1) h2
 |_=>False
def sF(x:Nat×Nat×Heap×Y12):=x.2.2
def sG(l:Y15):=l.length
def a5U(l:Y15)(g:Nat):=TV.v (.vslice none g (sG l) 3 (List.flatMap cN l))
def a5V(l:Y15):=TV.v (.int .i64 ((sG l):Int))
def E8(x:Nat×Nat×Heap×Y12):=x.2.1
theorem b6O(l:Y15)(p:Nat)(h:Heap)(Q:KT):dF (aS c5D) env 83 dL (kR 4 (d2X l p)) bS [.vslice none p (l).length 3 ((l).flatMap cN)] h Q=(
 aD (decide (0<=((sG l):Int)) && (decide (((sG l):Int)<=((sG l):Int)) && (decide (((sG l):Int)<=9223372036854775807) &&decide ((8:Int)*((sG l):Int)<=140737488355328)))) ((∃(x:Nat×Nat×Heap×Y12),some (a5U l p)=some (a5U l p)/\some (TV.v (.hslice (h.next) 0 (((sG l):Int).toNat) 1))=some (TV.v (.hslice (E8 x) 0 (sG l) 1))/\some (a5V l)=some (a5V l)/\tI 0=tI (x.1:Int)/\Heap.push h (IObj.cells (fQ (((sG l):Int).toNat) [iI 0]))=(sF x).1/\(x.1<=l.length/\Heap.get ((sF x).1) (E8 x)=IObj.cells (List.map (IV.int .i64) ((sF x).2))/\List.length ((sF x).2)=l.length/\Prod.fst (x.2)< ((sF x).1).next/\List.take x.1 ((sF x).2)=aK (List.take x.1 l))/\True)/\∀(x:Nat×Nat×Heap×Y12)(b:FF),x.1<=l.length/\Heap.get ((sF x).1) (E8 x)=IObj.cells (List.map (IV.int .i64) ((sF x).2))/\List.length ((sF x).2)=l.length/\x.2.1< ((sF x).1).next/\List.take x.1 ((sF x).2)=aK (List.take x.1 l)->aJ (decide ((x.1:Int)< ((sG l):Int))) (∃(j:Y15)(i:Nat)(u:Y12),(l.length=j.length/\List.flatMap cN l=List.flatMap cN j/\(x.1:Int)=(i:Int)/\l.length=u.length)/\SPH ((sF x).1) (E8 x) j i u/\∀(h2:Heap),h2.get (E8 x)=((sF x).1).get (E8 x)/\Heap.next ((sF x).1)<=Heap.next h2->aD (decide (0<=(x.1:Int)) &&decide ((x.1:Int)< ((sG l):Int))) (aE h2 (E8 x) fun r0=>aD (Nat.ble ((0:Nat)+(x.1:Int).toNat*1+1) r0.length) (∃(g:Nat×Nat×Heap×Y12),some (a5U l p)=some (a5U l p)/\some (TV.v (.hslice (E8 x) 0 (sG l) 1))=some (TV.v (.hslice g.2.1 0 (sG l) 1))/\some (a5V l)=some (a5V l)/\tI (wW ((x.1:Int)+1))=tI (g.1:Int)/\Heap.set h2 (E8 x) (IObj.cells (List.take ((0:Nat)+(x.1:Int).toNat*1) r0++ [iI (cP (List.take i j) (aK (List.take i j)) (List.getD j i default))]++List.drop ((0:Nat)+(x.1:Int).toNat*1+1) r0))=g.2.2.1/\(g.1<=l.length/\Heap.get g.2.2.1 g.2.1=IObj.cells (List.map (IV.int .i64) g.2.2.2)/\List.length (g.2.2.2)=l.length/\g.2.1<g.2.2.1.next/\List.take g.1 g.2.2.2=aK (List.take g.1 l))/\l.length-g.1<l.length-x.1))) (Q (.hslice (E8 x) 0 (sG l) 1) ((sF x).1)))):=by kernel_rfl
theorem b6P: ∀xs h Q,Y4 xs h Q->aO env 83 xs h Q:=by
 intro xs h Q D;unfold Y4 at D;split at D
 ·rename_i T n1 c1;obtain⟨l,⟨rfl,rfl⟩,Y,D⟩:=D;refine aN (c0R) (b6O l T h Q) ?_;delta sF a5U a5V E8 sG tI wW iI;have O: ∀x:Nat,(x:Int).toNat=x:=AE
  obtain⟨G,L⟩:=Y;refine aA (by simp;omega) ⟨⟨(0,h.next,h.push (.cells (fQ (l.length:Int).toNat [.int .i64 0])),List.replicate l.length 0),IR,(by rw [O]),IR,IR,IR,⟨AR _,(by rw [aU,O,N7]),IP,AQ _,rfl⟩,trivial⟩,?_⟩;rintro⟨i,id,g,p⟩ _ ⟨hi,K,A,z,j⟩;dsimp only at hi K A z j⊢;refine aC (fun c=>?_) (fun c=>?_)
  ·rw [decide_eq_true_eq]at c;have u:i<l.length:=IM;refine⟨l,i,p,⟨rfl,rfl,rfl,A.symm⟩,⟨⟨u,G,L⟩,K,z,A,j⟩,fun h2 ⟨V,n2⟩=>aA (by simp;omega) (aB (V.trans K) (aA (by rw [AM];simp;omega) ?_))⟩;have X:l.getD i default=l[i]:=by rw [AN,AA u];rfl
   rw [X];have Z:(p.map (IV.int .i64)).take (0+(i:Int).toNat*1)++ [.int .i64 (cP (l.take i) (aK (l.take i)) l[i])]++(p.map (IV.int .i64)).drop (0+(i:Int).toNat*1+1)=(p.take i++ [cP (l.take i) (aK (l.take i)) l[i]]++p.drop (i+1)).map (IV.int .i64):=by
    rw [O,BT,AO];simp
   have h1:(p.take i).length=i:=by rw [AW];omega
   refine⟨(i+1,id,h2.set id (.cells ((p.take i++ [cP (l.take i) (aK (l.take i)) l[i]]++p.drop (i+1)).map (IV.int .i64))),p.take i++ [cP (l.take i) (aK (l.take i)) l[i]]++p.drop (i+1)),IR,IR,IR,?_,?_,⟨u,aH,?_,AI z n2,?_⟩,IS⟩
   ·rw [AB _ IM];rfl
   ·rw [Z]
   ·simp;omega
   ·rw [bW u,<-j];dsimp only;rw [DU (by simp;omega),AP (by simp;omega)]
  ·rw [decide_eq_false_iff_not]at c;obtain rfl:i=l.length:=IM;rw [AP IM,DR]at j;subst j;exact D g id K
 ·exact D.elim
def Tk:=aT 83 Y4 c5D
theorem a5W:aP env Tk:=aF b6P (c0R)
def Mr(xs:Y14)(h:Heap)(K:KT):Prop:=match xs with
 | [.vslice none e1 n1 3 c1,.int .i64 i]=> ∃l:Y15,(n1=l.length/\c1=l.flatMap cN)/\((∀x∈l,x.ks.length<=1000000/\True)/\l.length<=1000000/\0<=i/\i<l.length)/\K (.int .i64 ((aK l).getD i.toNat 0)) h
 |_=>False
theorem c5E(l:Y15)(i:Int)(j:Nat)(h:Heap)(Q:KT):dF (aS Tk) env 41 dL bS bS [.vslice none j (l).length 3 ((l).flatMap cN),.int .i64 i] h Q=(
 aD (aM [IV.vslice none 0 l.length 3 (List.flatMap cN l),iI i]) (aJ (decide (i<0)) (Q (.int .i64 0) h) (aJ (decide (i>=(l.length:Int))) (Q (.int .i64 0) h) (aD (true&& (decide (0<=wW (i+1)) &&decide (wW (i+1)<=(l.length:Int)))) (∃(g:Y15),((wW (i+1)).toNat-0=g.length/\List.take (((wW (i+1)).toNat-0)*3) (List.drop 0 (List.flatMap cN l))=List.flatMap cN g)/\((∀(x:Nd),x∈g->List.length (Nd.ks x)<=1000000/\True)/\g.length<=1000000)/\∀(h2:Heap)(id:Nat),h2.get id=IObj.cells (List.map (IV.int .i64) (aK g))->aD (decide (0<=i) &&decide (i< (g.length:Int))) (aE h2 id fun r0=>aI .i64 r0 ((0:Nat)+i.toNat*1) fun p=>Q (.int .i64 p) h)))))):=by kernel_rfl
theorem a5X: ∀xs h Q,Mr xs h Q->aO env 41 xs h Q:=by
 intro xs h Q g;unfold Mr at g;split at g
 ·rename_i z Y X i;obtain⟨l,⟨rfl,rfl⟩,A,g⟩:=g;refine aN (a5W) (c5E l i z h Q) ?_;delta wW iI;have Z: ∀x:Nat,(x:Int).toNat=x:=AE
  obtain⟨j,D,K,L⟩:=A;have T:IntKind.i64.wrap (i+1)=i+1:=AB _ IM;rw [T];have O:i.toNat<l.length:=IM;have u:(i+1).toNat-0=i.toNat+1:=IM;refine aA (by simp only [aM,bI,cI,AT]) (aC (fun c=>absurd (of_decide_eq_true c) IM) (fun _=>aC (fun c=>absurd (of_decide_eq_true c) IM) (fun _=>aA (by simp;omega) ⟨l.take (i.toNat+1),⟨by rw [u,AW];omega,by rw [u,CZ,W4]⟩,⟨fun x V=>j x (EM V),by rw [AW];omega⟩,fun h2 id G=>?_⟩)));have p:i.toNat< (aK (l.take (i.toNat+1))).length:=by rw [bR,AW];omega
  refine aA (by simp;omega) (aB G (fT p IM (fI g ?_)))
  congr 1
  rw [nL (jG (EH (i.toNat+1) l)) p,AN,AA p];rfl
 ·exact g.elim
def a5Y(xs:Y14)(h:Heap)(K:KT):Prop:=match xs with
 | [.int .i64 n,.int .i64 m]=>(0<m/\m<4611686018427387904)/\K (.int .i64 (n%m)) h
 |_=>False
theorem d2Y(n m:Int)(h:Heap)(Q:KT):dF (aS noC) env 12 dL bS bS [.int .i64 n,.int .i64 m] h Q=(
 aD (!m==0) (aJ (decide (Int.tmod n m<0)) (Q (.int .i64 (wW (Int.tmod n m+m))) h) (Q (.int .i64 (Int.tmod n m)) h))):=by kernel_rfl
theorem d2Z: ∀xs h Q,a5Y xs h Q->aO env 12 xs h Q:=by
 intro xs h Q g;unfold a5Y at g;split at g
 ·rename_i n m;refine aN (jR env) (d2Y n m h Q) ?_;delta wW;obtain⟨j,g⟩:=g;have l:=FB n (HR m);have p:=Go.M13.oU n m j.1;refine aA (by simp;omega) (aC (fun i=>fI g ?_) (fun i=>fI g ?_))
  ·simp only [decide_eq_true_eq]at i;rw [AB _ IM];congr 1;omega
  ·simp only [decide_eq_false_iff_not]at i;congr 1;omega
 ·exact g.elim
def a5Z:=aT 12 a5Y noC
theorem a6A:aP env a5Z:=aF d2Z (jR env)
def Tl(xs:Y14)(h:Heap)(K:KT):Prop:=match xs with
 | [.int .i64 n,.int .i64 raw]=>aR raw/\∀w:Int,aR w->K (.int .i64 w) h
 |_=>False
theorem d3A(n g:Int)(h:Heap)(Q:KT):dF (aS a5Z) env 35 dL bS bS [.int .i64 n,.int .i64 g] h Q=(
 ((0:Int)<24/\(24:Int)<4611686018427387904)/\aJ (decide (n% (24:Int)<10)) (aD (decide (0<=n% (24:Int)) &&decide (n% (24:Int)<10)) (aI .i64 [iI 0,iI 1,iI (-1),iI 2,iI (-9223372036854775808),iI 9223372036854775807,iI 4294967296,iI (-2147483648),iI 63,iI 64] ((n% (24:Int)).toNat*1) fun i=>Q (.int .i64 i) h)) (aJ (decide (n% (24:Int)<22)) (((0:Int)<17/\(17:Int)<4611686018427387904)/\Q (.int .i64 (wW (wW (Int.tdiv n 24)% (17:Int)-6))) h) (Q (.int .i64 g) h))):=by kernel_rfl
theorem c0S: ∀xs h Q,Tl xs h Q->aO env 35 xs h Q:=by
 intro xs h Q g;unfold Tl at g;split at g
 ·rename_i n i;refine aN (a6A) (d3A n i h Q) ?_;delta wW iI;obtain⟨p,g⟩:=g;refine And.intro IM (aC (fun j=>?_) (fun j=>aC (fun hd=>And.intro IM (g _ ?_)) (fun hd=>g _ p)))
  ·rw [decide_eq_true_eq]at j;refine aA (by simp;omega) ?_;rw [AO];show aI .i64 (Go.M13.Rq.map (IV.int .i64)) _ _;have l:(n%24).toNat<Go.M13.Rq.length:=by have:Go.M13.Rq.length=10:=rfl;omega
   refine cT l (g _ ?_);have ha: ∀x∈Go.M13.Rq,aR x:=IN
   exact ha _ (AG l)
  ·have:=AB (IntKind.i64.wrap (n.tdiv 24)%17-6) IM;rw [this];unfold aR
   omega
 ·exact g.elim
def a6B:=aT 35 Tl a5Z
theorem a6C:aP env a6B:=aF c0S (a6A)
def Ms(xs:Y14)(h:Heap)(K:KT):Prop:=match xs with
 | [.ptr id 0]=> ∃(r:Nat)(w:Int),RN h id r w/\∀(n:Int)(h2:Heap),aR n->(r=0->n=0)->RN h2 id (r-1) w->HF id h h2->K (.int .i64 n) h2
 |_=>False
theorem c5F(id:Nat)(h:Heap)(Q:KT):dF (aS a6B) env 39 dL bS bS [.ptr id 0] h Q=(
 aE h id fun r0=>aX 1 r0 0 fun(T:Y10)(L D:Nat)(c4:Y14)=>aJ ((D:Int)==0) (Q (.int .i64 0) h) (aE h id fun K=>aX 1 K 0 fun(V:Y10)(O G:Nat)(A:Y14)=>aD (true&&decide (0< (G:Int))) (aI .i64 A 0 fun u=>aE h id fun z=>aX 1 z 0 fun(p:Y10)(l g:Nat)(j:Y14)=>aD (true&& (decide (1<=(g:Int)) &&decide ((g:Int)<=(g:Int)))) (aE h id fun i=>aD (Nat.ble 1 i.length) (Q (.int .i64 u) (h.set id (IObj.cells (IV.vslice p (l- (g- (g:Int).toNat)*1) ((g:Int).toNat-1) 1 (List.take (((g:Int).toNat-1)*1) (List.drop 1 j))::List.drop 1 i)))))))):=by kernel_rfl
theorem c5G: ∀xs h Q,Ms xs h Q->aO env 39 xs h Q:=by
 intro xs h Q g;unfold Ms at g;split at g
 ·rename_i id;obtain⟨r,w,⟨p,io,e,l,u,z,j⟩,g⟩:=g;refine aN (a6C) (c5F id h Q) ?_;refine aB j (Ww ?_);refine aC (fun c=>g 0 h (by unfold aR;omega) (fun _=>rfl) ?_ HF.refl) (fun c=>aB j (Ww ?_))
  ·have h0:l.length=0:=by simpa using c
   have D:r=0:=IM;subst D;exact⟨p,io,e,l,u,z,j⟩
  have A:0<l.length:=by
   simp at c;exact GW (by simpa using c)
  refine aA (by simp;omega) (cT (i:=0) A (aB j (Ww (aA (by simp;omega) (aB j (aA IP ?_))))));refine g _ _ (u _ (AG A)) (fun q=>IM) ⟨p,io,e- (l.length- ((l.length:Int)).toNat)*1,l.drop 1,fun x G=>u x (IF G),by rw [CD];omega,?_⟩ HF.set;refine(aH (h:=h)).trans ?_;simp;exact AP IP
 ·exact g.elim
def Mt:=aT 39 Ms a6B
theorem Tm:aP env Mt:=aF c5G (a6C)
def c5H(xs:Y14)(h:Heap)(K:KT):Prop:=match xs with
 | [.int .i64 f]=>(f=0\/f=1)/\K (.vslice none 0 (bM f).length 1 ((bM f).map IV.str)) h
 |_=>False
theorem d6H(f:Int)(h:Heap)(Q:KT):dF (aS Mt) env 153 dL bS bS [.int .i64 f] h Q=(
 aJ (f==0) (Q (.vslice none 0 4 1 [IV.str [120],IV.str [121],IV.str [105],IV.str [106]]) h) (Q (.vslice none 0 2 1 [IV.str [110],IV.str [105]]) h)):=by kernel_rfl
theorem d6I: ∀xs h Q,c5H xs h Q->aO env 153 xs h Q:=by
 intro xs h Q g;unfold c5H at g;split at g
 ·rename_i f;refine aN (Tm) (d6H f h Q) ?_;obtain⟨hf,g⟩:=g;rcases hf with rfl|rfl
  ·exact aC (fun _=>aA rfl g) (fun c=>by cases c)
  ·exact aC (fun c=>by cases c) (fun _=>aA rfl g)
 ·exact g.elim
def c5I:=aT 153 c5H Mt
theorem c0T:aP env c5I:=aF d6I (Tm)
def Ga(d:Nat)(xs:Y14)(h:Heap)(K:KT):Prop:=match xs with
 | [.ptr id 0,.int .i64 f,.int .i64 dp]=> ∃(r:Nat)(w:Int),RN h id r w/\(f=0\/f=1)/\(0<=dp/\dp<=4/\4-dp< (d:Int))/\
  (∀(k n:Int)(nm:Y11)(op:Int)(ks:List E)(g:Nat)(h2:Heap),gL f (4-dp).toNat r g (.mk k n nm op ks)->GN h id g w h2->K (.agg [.int .i64 k,.int .i64 n,.str nm,.int .i64 op,.vslice none 0 ks.length 5 (aW ks)]) h2)
 |_=>False
abbrev Gb(dp:Int)(g:Nat):=0<=wW (dp+1)/\wW (dp+1)<=4/\(4:Int)-wW (dp+1)< (g:Int)
def Y5(n:Int):=wW (Int.tdiv n 16)% (1000:Int)
def a6D(Q:KT)(n:Int)(h2:Heap):=(aR n/\∀(w:Int),aR w->Q (.agg [.int .i64 1,iI w,IV.str [],iI 0,IV.vslice none 0 0 5 []]) h2)
def a6E(f n:Int):=decide (0<=Int.tmod (Y5 n) (↑((bM f).length):Int)) &&decide (Int.tmod (Y5 n) (↑((bM f).length):Int)< (↑((bM f).length):Int))
def Gc(dp:Int):=((4:Int)-wW (dp+1)).toNat
def a6F(f n:Int):=(Int.tmod (Y5 n) (↑((bM f).length):Int)).toNat*1
abbrev Y6(f:Int):=f=0\/f=1
def a6G(f:Int):=!(↑((bM f).length):Int)==0
def c5J(n:Int):=decide (0<=Int.tmod (Y5 n) 2) &&decide (Int.tmod (Y5 n) 2<2)
def c5K(n k op:Int)(nm:Y11)(ks:List E):=[iI k,iI n,IV.str nm,iI op,IV.vslice none 0 ks.length 5 (aW ks)]
theorem d3B(G:Nat)(id:Nat)(f dp:Int)(h:Heap)(Q:KT):dF (aS (aT 81 (Ga G) c5I)) env 81 dL bS bS [.ptr id 0,.int .i64 f,.int .i64 dp] h Q=(
 ∃(r:Nat)(w:Int),RN h id r w/\∀(n:Int)(h2:Heap),aR n->(r=0->n=0)->RN h2 id (r-1) w->HF id h h2->(Y6 f)/\((0:Int)<16/\(16:Int)<4611686018427387904)/\((0:Int)<1000/\(1000:Int)<4611686018427387904)/\aJ (decide (n% (16:Int)<4)) (aJ (Int.tmod (n% (16:Int)) 2==0) (aD (a6G f) (aD (a6E f n) (bL (List.map IV.str (bM f)) (a6F f n) fun(X:Y11)=>Q (.agg [.int .i64 2,iI 0,IV.str X,iI 0,IV.vslice none 0 0 5 []]) h2))) (aJ (decide (dp>3)) (aJ (decide (n% (16:Int)>8)) (aD (a6G f) (aD (a6E f n) (bL (List.map IV.str (bM f)) (a6F f n) fun(Y:Y11)=>Q (.agg [.int .i64 2,iI 0,IV.str Y,iI 0,IV.vslice none 0 0 5 []]) h2))) (a6D Q n h2)) (a6D Q n h2))) (aJ (decide (dp>3)) (aJ (Int.tmod (n% (16:Int)) 2==0) (aD (a6G f) (aD (a6E f n) (bL (List.map IV.str (bM f)) (a6F f n) fun(Z:Y11)=>Q (.agg [.int .i64 2,iI 0,IV.str Z,iI 0,IV.vslice none 0 0 5 []]) h2))) (aJ (decide (dp>3)) (aJ (decide (n% (16:Int)>8)) (aD (a6G f) (aD (a6E f n) (bL (List.map IV.str (bM f)) (a6F f n) fun(s3:Y11)=>Q (.agg [.int .i64 2,iI 0,IV.str s3,iI 0,IV.vslice none 0 0 5 []]) h2))) (a6D Q n h2)) (a6D Q n h2))) (aJ (decide (n% (16:Int)< (6:Int))) (aD (c5J n) (bL [IV.str [97],IV.str [98]] ((Int.tmod (Y5 n) 2).toNat*1) fun(s4:Y11)=> ∃(r:Nat)(w:Int),RN h2 id r w/\(Y6 f)/\(Gb dp G)/\∀(k n:Int)(nm:Y11)(op:Int)(ks:List E)(j:Nat)(g:Heap),gL f (Gc dp) r j (E.mk k n nm op ks)->GN h2 id j w g->Q (.agg [.int .i64 3,iI 0,IV.str s4,iI 0,IV.vslice none 0 1 5 (c5K n k op nm ks)]) g)) (aJ (decide (n% (16:Int)<7)) (∃(r:Nat)(w:Int),RN h2 id r w/\(Y6 f)/\(Gb dp G)/\∀(k n:Int)(nm:Y11)(op:Int)(ks:List E)(j:Nat)(g:Heap),gL f (Gc dp) r j (E.mk k n nm op ks)->GN h2 id j w g-> ∃(r:Nat)(w:Int),RN g id r w/\(Y6 f)/\(Gb dp G)/\∀(u A:Int)(l:Y11)(p:Int)(i:List E)(j:Nat)(h2:Heap),gL f (Gc dp) r j (E.mk u A l p i)->GN g id j w h2-> ∃(r:Nat)(w:Int),RN h2 id r w/\(Y6 f)/\(Gb dp G)/\∀(T D:Int)(L:Y11)(O:Int)(z:List E)(j:Nat)(K:Heap),gL f (Gc dp) r j (E.mk T D L O z)->GN h2 id j w K->Q (.agg [.int .i64 5,iI 0,IV.str [],iI 0,IV.vslice none 0 3 5 [iI k,iI n,IV.str nm,iI op,IV.vslice none 0 ks.length 5 (aW ks),iI u,iI A,IV.str l,iI p,IV.vslice none 0 i.length 5 (aW i),iI T,iI D,IV.str L,iI O,IV.vslice none 0 z.length 5 (aW z)]]) K) (aJ (decide (n% (16:Int)<9)) (aD (c5J n) (aI .i64 [iI 20,iI 21] ((Int.tmod (Y5 n) 2).toNat*1) fun V=> ∃(r:Nat)(w:Int),RN h2 id r w/\(Y6 f)/\(Gb dp G)/\∀(k n:Int)(nm:Y11)(op:Int)(ks:List E)(j:Nat)(g:Heap),gL f (Gc dp) r j (E.mk k n nm op ks)->GN h2 id j w g->Q (.agg [.int .i64 4,iI 0,IV.str [],iI V,IV.vslice none 0 1 5 (c5K n k op nm ks)]) g)) (∃(r:Nat)(w:Int),RN h2 id r w/\(Y6 f)/\(Gb dp G)/\∀(k A:Int)(nm:Y11)(op:Int)(ks:List E)(j:Nat)(g:Heap),gL f (Gc dp) r j (E.mk k A nm op ks)->GN h2 id j w g-> ∃(r:Nat)(w:Int),RN g id r w/\(Y6 f)/\(Gb dp G)/\∀(u D:Int)(l:Y11)(p:Int)(i:List E)(j:Nat)(h2:Heap),gL f (Gc dp) r j (E.mk u D l p i)->GN g id j w h2->Q (.agg [.int .i64 4,iI 0,IV.str [],iI (wW ((4:Int)+Int.tmod (Y5 n) 15)),IV.vslice none 0 2 5 [iI k,iI A,IV.str nm,iI op,IV.vslice none 0 ks.length 5 (aW ks),iI u,iI D,IV.str l,iI p,IV.vslice none 0 i.length 5 (aW i)]]) h2)))))):=by kernel_rfl
theorem d3C: ∀d xs h Q,Ga d xs h Q->aO env 81 xs h Q:=by
 intro d
 induction d with
 |zero=>
  intro xs h Q j;unfold Ga at j;split at j
  ·rename_i id f dp;obtain⟨r,w,hr,hf,hd,j⟩:=j;have h1:=hd.2.1;have h2:=hd.2.2;omega
  ·exact j.elim
 |succ dd ih=>
  intro xs h Q j;unfold Ga at j;split at j
  ·rename_i id f dp;obtain⟨r,w,hr,hf,hd,j⟩:=j;refine aN (aF ih (c0T)) (d3B dd id f dp h Q) ?_;delta Gb Y5 a6D a6E Gc a6F Y6 a6G c5J c5K wW iI;obtain⟨a9,b0,b1⟩:=hd;refine⟨r,w,hr,fun n h2 hn hz g1 g2=>⟨hf,⟨IN,IN⟩,⟨IN,IN⟩,?_⟩⟩;have hg:GN h id (r-1) w h2:=⟨g1,g2⟩;have a2:n≠0->1<=r:=fun q=>by
    rcases FP r with p|p
    ·exact absurd (hz p) q
    ·exact p
   have b2:0< (bM f).length:=by rcases hf with rfl|rfl<;>decide
   have L:0<=IntKind.i64.wrap (Int.tdiv n 16)%1000:=CM _ IN;generalize IntKind.i64.wrap (Int.tdiv n 16)%1000=m at L⊢;have t1:0<=Int.tmod m ((bM f).length:Int)/\Int.tmod m ((bM f).length:Int)< (bM f).length:=by
    rw [CP L];exact⟨CM _ IM,CI _ IM⟩
   have t2:0<=Int.tmod m 2/\Int.tmod m 2<2:=by
    rw [CP L];omega
   have t3:0<=Int.tmod m 15/\Int.tmod m 15<15:=by
    rw [CP L];omega
   generalize Int.tmod m 2=m2 at t2⊢;generalize Int.tmod m 15=m15 at t3⊢;generalize Int.tmod m ((bM f).length:Int)=ml at t1⊢;have a3: ∀s∈bM f,Q (IV.agg [IV.int .i64 2,IV.int .i64 0,IV.str s,IV.int .i64 0,IV.vslice none 0 0 5 []]) h2:=fun s hs=>
    j 2 0 s 0 [] (r-1) h2 ⟨⟨.inr (.inl ⟨rfl,rfl,rfl,rfl,hs⟩),trivial⟩,AR _,Nat.sub_le _ _,AR _⟩ hg
   have var:aD (!(((bM f).length:Int)==0)) (aD (decide (0<=ml) &&decide (ml< ((bM f).length:Int))) (bL ((bM f).map IV.str) (ml.toNat*1) fun s=>Q (IV.agg [IV.int .i64 2,IV.int .i64 0,IV.str s,IV.int .i64 0,IV.vslice none 0 0 5 []]) h2)):=
    aA (by simp only [CH,beq_eq_false_iff_ne];omega) (aA (by simp;omega) (B6 IM a3))
   have O:n≠0->aR n/\∀w:Int,aR w->Q (IV.agg [IV.int .i64 1,IV.int .i64 w,IV.str [],IV.int .i64 0,IV.vslice none 0 0 5 []]) h2:=fun q=>⟨hn,fun w hw=>
    j 1 w [] 0 [] (r-1) h2 ⟨⟨.inl ⟨rfl,rfl,rfl,rfl,hw⟩,trivial⟩,AR _,Nat.sub_le _ _,by have:=a2 q;simp [E.cost,Es.cost];omega⟩ hg⟩
   refine aC (fun c1=>aC (fun _=>var) (fun c2=>?_)) (fun c1=>?_)
   ·have A:n≠0:=fun q=>by rw [q]at c2;cases c2
    exact aC (fun _=>aC (fun _=>var) (fun _=>O A)) (fun _=>O A)
   rw [decide_eq_false_iff_not]at c1;have A:n≠0:=fun q=>by rw [q]at c1;exact c1 IN
   have b3:=a2 A;refine aC (fun _=>aC (fun _=>var) (fun _=>aC (fun _=>aC (fun _=>var) (fun _=>O A)) (fun _=>O A))) (fun c3=>?_);rw [decide_eq_false_iff_not]at c3;have a5:IntKind.i64.wrap (dp+1)=dp+1:=AB _ IM;rw [a5];have z:0<=dp+1/\dp+1<=4/\4- (dp+1)< (dd:Int):=IM;have eD:(4-dp).toNat=(4- (dp+1)).toNat+1:=IM;have eR:r=(r-1)+1:=IM;rw [eD]at j;generalize(4- (dp+1)).toNat=D at j⊢;rw [eR]at j;have V: ∀(k0 T:Int)(nm0:Y11),K0 f k0 0 nm0 T 1-> ∀(a:E)(g:Nat)(i:Heap),gL f D (r-1) g a->GN h2 id g w i->Q (IV.agg [IV.int .i64 k0,IV.int .i64 0,IV.str nm0,IV.int .i64 T,IV.vslice none 0 1 5 (aW [a])]) i:=
    fun k0 T nm0 hd a g i G u=>j k0 0 nm0 T [a] g i (gL.node (lH.snoc lH.nil G) hd) (hg.trans u)
   have a0: ∀(a b:E)(g p:Nat)(i K:Heap),gL f D (r-1) g a->gL f D g p b->GN h2 id g w i->GN i id p w K->Q (IV.agg [IV.int .i64 4,IV.int .i64 0,IV.str [],IV.int .i64 (IntKind.i64.wrap (4+m15)),IV.vslice none 0 2 5 (aW [a,b])]) K:=
    fun a b g p i K G p2 u X=>j 4 0 [] _ [a,b] p K (gL.node (lH.snoc (lH.snoc lH.nil G) p2) (.inr (.inr (.inr (.inl ⟨rfl,rfl,rfl,.inl ⟨rfl,by rw [AB _ IM];omega,by rw [AB _ IM];omega⟩⟩))))) ((hg.trans u).trans X)
   have a1: ∀(a b c:E)(g p q3:Nat)(i K h5:Heap),gL f D (r-1) g a->gL f D g p b->gL f D p q3 c->GN h2 id g w i->GN i id p w K->GN K id q3 w h5->Q (IV.agg [IV.int .i64 5,IV.int .i64 0,IV.str [],IV.int .i64 0,IV.vslice none 0 3 5 (aW [a,b,c])]) h5:=
    fun a b c g p q3 i K h5 G p2 p3 u X g5=>j 5 0 [] 0 [a,b,c] q3 h5 (gL.node (lH.snoc (lH.snoc (lH.snoc lH.nil G) p2) p3) (.inr (.inr (.inr (.inr ⟨rfl,rfl,rfl,rfl,rfl⟩))))) (((hg.trans u).trans X).trans g5)
   refine aC (fun _=>aA (by simp;omega) (B6 (l:=nK) (show m2.toNat*1<2 by omega) fun s hs=>?_)) (fun _=>aC (fun _=>?_) (fun _=>aC (fun _=>aA (by simp;omega) (c2R (l:=[20,21]) (show m2.toNat*1<2 by omega) fun s hs=>?_)) (fun _=>?_)))
   ·exact⟨r-1,w,g1,hf,z,fun k1 n1 nm1 Z Y g i G u=>V 3 0 s (.inr (.inr (.inl ⟨rfl,rfl,rfl,rfl,hs⟩))) _ g i G u⟩
   ·exact⟨r-1,w,g1,hf,z,fun k1 n1 nm1 Z Y g i G u=>⟨g,w,u.1,hf,z,fun k2 n2 a7 a8 a6 p K p2 X=>⟨p,w,X.1,hf,z,fun k3 n3 b5 b6 b4 q3 h5 p3 g5=>a1 _ _ _ g p q3 i K h5 G p2 p3 u X g5⟩⟩⟩
   ·have a4:20<=s/\s<=21:=by simp only [BQ,DF,or_false]at hs;omega
    exact⟨r-1,w,g1,hf,z,fun k1 n1 nm1 Z Y g i G u=>V 4 s [] (.inr (.inr (.inr (.inl ⟨rfl,rfl,rfl,.inr ⟨rfl,a4⟩⟩)))) _ g i G u⟩
   ·exact⟨r-1,w,g1,hf,z,fun k1 n1 nm1 Z Y g i G u=>⟨g,w,u.1,hf,z,fun k2 n2 a7 a8 a6 p K p2 X=>a0 _ _ g p i K G p2 u X⟩⟩
  ·exact j.elim
def Gd:=aT 81 (fun xs h K=> ∃d,Ga d xs h K) c5I
theorem a6H:aP env Gd:=aF (fun xs h Q g=>g.elim fun d g=>d3C d xs h Q g) (c0T)
def d3D(id:Nat)(f dp g:Int)(r:Nat)(w:Int)(h:Heap):Inv':= .or
 (eY (Nat×Nat×Int×Heap) (fun x=>[(0,.v (.ptr id 0)),(1,.v (.int .i64 f)),(2,.v (.int .i64 dp)),(9,.v .nilslice),(10,.v (.int .i64 x.1))]) (fun _=>[]) (fun x=>x.2.2.2) (fun x=>x.1<=10/\fM f dp.toNat r x.2.1 w x.2.2.1 []/\GN h id x.2.1 x.2.2.1 x.2.2.2) (fun x=>x.1))
 (eY (Nat×Nat×Int×Heap×List S×Nat) (fun x=>[(0,.v (.ptr id 0)),(1,.v (.int .i64 f)),(2,.v (.int .i64 dp)),(9,.v (.vslice (some x.2.2.2.2.2) (x.2.2.2.2.1.length*17) x.2.2.2.2.1.length 17 (aY x.2.2.2.2.1))),(10,.v (.int .i64 x.1))]) (fun _=>[]) (fun x=>x.2.2.2.1) (fun x=>x.1+x.2.2.2.2.1.length<=10/\fM f dp.toNat r x.2.1 w x.2.2.1 x.2.2.2.2.1/\GN h id x.2.1 x.2.2.1 x.2.2.2.1/\x.2.2.2.1.get x.2.2.2.2.2= .tip (x.2.2.2.2.1.length*17)/\h.next<=x.2.2.2.2.2/\x.2.2.2.2.2<x.2.2.2.1.next) (fun x=>x.1))
def d3E(id:Nat)(f dp:Int)(r:Nat)(w:Int)(h:Heap):Inv':=eY (Int×Int×Heap) (fun x=>[(0,.v (.ptr id 0)),(1,.v (.int .i64 f)),(2,.v (.int .i64 dp)),(6,.l 6 0),(8,.v (.vslice none 0 (bM f).length 1 ((bM f).map IV.str))),(9,.v (.int .i64 x.1)),(10,.v (.int .i64 x.2.1))])
 (fun _=>[(6,[.int .i64 0,.str [],.str [],.int .i64 0,.int .i64 0,.int .i64 0,.str [],.int .i64 0,.nilslice,.int .i64 0,.int .i64 0,.str [],.int .i64 0,.nilslice,.nilslice,.nilslice,.nilslice])]) (fun x=>x.2.2)
 (fun x=>(0<=x.1/\x.1<1000)/\(0<=x.2.1/\x.2.1<16)/\(2<dp->x.2.1<8\/12<=x.2.1)/\(10<=w->x.2.1<10)/\GN h id (r-1) w x.2.2) (fun _=>0)
def E9(d:Nat)(xs:Y14)(h:Heap)(K:KT):Prop:=match xs with
 | [.ptr id 0,.int .i64 f,.int .i64 dp,.int .i64 mo]=> ∃(r:Nat)(w:Int),(RN h id r w/\0<=w/\w<=10)/\(f=0\/f=1)/\(0<=dp/\dp<=3/\2*(3-dp)+1< (d:Int))/\(0<=mo/\mo<=10)/\
  (∀(l:List S)(g:Nat)(i:Int)(h2:Heap),fM f dp.toNat r g w i l->GN h id g i h2->K (.vslice none 0 l.length 17 (aY l)) h2)
 |_=>False
def Mu(d:Nat)(xs:Y14)(h:Heap)(K:KT):Prop:=match xs with
 | [.ptr id 0,.int .i64 f,.int .i64 dp]=> ∃(r:Nat)(w:Int),(RN h id r w/\0<r/\0<=w/\w<=10)/\(f=0\/f=1)/\(0<=dp/\dp<=3/\2*(3-dp)< (d:Int))/\(∀(k:Int)(nm T:Y11)(n G L:Int)(l:Y11)(p:Int)(i:List E)(V X:Int)(u:Y11)(z:Int)(j g:List E)(D A:List S)(O:Nat)(Y:Int)(h2:Heap),uT f dp.toNat r O w Y (.mk k nm T n (.mk G L l p i) (.mk V X u z j) g D A)->GN h id O Y h2->K (.agg [.int .i64 k,.str nm,.str T,.int .i64 n,.int .i64 G,.int .i64 L,.str l,.int .i64 p,.vslice none 0 i.length 5 (aW i),.int .i64 V,.int .i64 X,.str u,.int .i64 z,.vslice none 0 j.length 5 (aW j),.vslice none 0 g.length 5 (aW g),.vslice none 0 D.length 17 (aY D),.vslice none 0 A.length 17 (aY A)]) h2)
 |_=>False
def a6I(n k G K p O T z:Int)(nm L l u:Y11)(i j g:List E)(D A:List M10.S):=[iI k,IV.str nm,IV.str L,iI n,iI G,iI K,IV.str l,iI p,IV.vslice none 0 i.length 5 (aW i),iI O,iI T,IV.str u,iI z,IV.vslice none 0 j.length 5 (aW j),IV.vslice none 0 g.length 5 (aW g),IV.vslice none 0 D.length 17 (aY D),IV.vslice none 0 A.length 17 (aY
 A)]
def xL(f:Int):=TV.v (.int .i64 f)
def xM(dp:Int):=TV.v (.int .i64 dp)
def xN(id:Nat):=TV.v (.ptr id 0)
def Xn:=TV.v IV.nilslice
abbrev c5L(dp:Int)(g:Nat):=0<=dp/\dp<=3/\(2:Int)*((3:Int)-dp)< (g:Int)
def c5M:=IV.vslice none 0 0 17 []
theorem d3F(dd:Nat)(id:Nat)(f dp mo:Int)(r:Nat)(w:Int)(h:Heap)(Q:KT):dF (aS (aT 152 (Mu dd) (aT 80 (E9 dd) Gd))) env 80 dL (kR 4 (d3D id f dp mo r w h)) bS [.ptr id 0,.int .i64 f,.int .i64 dp,.int .i64 mo] h Q=(
 ∃(T:Nat)(a0:Int),RN h id T a0/\∀(n:Int)(h2:Heap),aR n->(T=0->n=0)->RN h2 id (T-1) a0->HF id h h2->(0<wW (mo+1)/\wW (mo+1)<4611686018427387904)/\((∃(x:Nat×Nat×Int×Heap),some (xN id)=some (xN id)/\some (xL f)=some (xL f)/\some (xM dp)=some (xM dp)/\some Xn=some Xn/\tI (n%wW (mo+1))=tI (x.1:Int)/\h2=x.2.2.2/\(x.1<=10/\fM f dp.toNat r x.2.1 w x.2.2.1 []/\GN h id x.2.1 x.2.2.1 x.2.2.2)/\True) \/ ∃(x:Nat×Nat×Int×Heap×List M10.S×Nat),some (xN id)=some (xN id)/\some (xL f)=some (xL f)/\some (xM dp)=some (xM dp)/\some Xn=some (TV.v (.vslice (some x.2.2.2.2.2) (x.2.2.2.2.1.length*17) (x.2.2.2.2.1.length) 17 (aY x.2.2.2.2.1)))/\tI (n%wW (mo+1))=tI (x.1:Int)/\h2=((x.2.2).2).1/\(x.1+x.2.2.2.2.1.length<=10/\fM f dp.toNat r x.2.1 w x.2.2.1 x.2.2.2.2.1/\GN h id x.2.1 (x.2.2.1) x.2.2.2.1/\Heap.get x.2.2.2.1 x.2.2.2.2.2=IObj.tip (x.2.2.2.2.1.length*17)/\Heap.next h<=Prod.snd x.2.2.2.2/\x.2.2.2.2.2<x.2.2.2.1.next)/\True)/\(∀(x:Nat×Nat×Int×Heap)(b:FF),x.1<=10/\fM f dp.toNat r x.2.1 w ((x.2.2).1) []/\GN h id x.2.1 x.2.2.1 x.2.2.2->aJ (decide ((x.1:Int)>0)) (aE x.2.2.2 id fun r0=>aX 1 r0 0 fun(i1:Y10)(e2 l3:Nat)(c4:Y14)=>aJ (decide ((l3:Int)>0)) (∃(z:Nat)(j:Int),(RN x.2.2.2 id z j/\0<z/\0<=j/\j<=10)/\(f=0\/f=1)/\(c5L dp dd)/\∀(k:Int)(nm X:Y11)(n K L:Int)(p:Y11)(u:Int)(l:List E)(Y Z:Int)(D:Y11)(G:Int)(A i:List E)(V O:List M10.S)(r2:Nat)(w2:Int)(h2:Heap),uT f dp.toNat z r2 j w2 (M10.S.mk k nm X n (E.mk K L p u l) (E.mk Y Z D G A) i V O)->GN ((x.2.2).2) id r2 w2 h2->(∃(g:Nat×Nat×Int×Heap),some (xN id)=some (xN id)/\some (xL f)=some (xL f)/\some (xM dp)=some (xM dp)/\some (TV.v (.vslice (some (h2.next)) 17 1 17 (a6I n k K L u Y Z G nm X p D l A i V O)))=some Xn/\tI (wW ((x.1:Int)-1))=tI (g.1:Int)/\Heap.push h2 (IObj.tip 17)=g.2.2.2/\(g.1<=10/\fM f dp.toNat r (g.2.1) w g.2.2.1 []/\GN h id g.2.1 g.2.2.1 g.2.2.2)/\g.1<x.1) \/ ∃(g:Nat×Nat×Int×Heap×List M10.S×Nat),some (xN id)=some (xN id)/\some (xL f)=some (xL f)/\some (xM dp)=some (xM dp)/\some (TV.v (.vslice (some (h2.next)) 17 1 17 (a6I n k K L u Y Z G nm X p D l A i V O)))=some (TV.v (.vslice (some g.2.2.2.2.2) ((g.2.2.2.2.1).length*17) g.2.2.2.2.1.length 17 (aY g.2.2.2.2.1)))/\tI (wW ((x.1:Int)- (1:Int)))=tI (g.1:Int)/\Heap.push h2 (IObj.tip 17)=g.2.2.2.1/\(g.1+g.2.2.2.2.1.length<=10/\fM f dp.toNat r ((g.2).1) w g.2.2.1 g.2.2.2.2.1/\GN h id g.2.1 g.2.2.1 g.2.2.2.1/\Heap.get g.2.2.2.1 ((g.2.2.2.2).2)=IObj.tip (g.2.2.2.2.1.length*17)/\Heap.next h<=g.2.2.2.2.2/\g.2.2.2.2.2< (((g.2.2).2).1).next)/\g.1<x.1) (Q c5M x.2.2.2)) (Q c5M x.2.2.2))/\∀(x:Nat×Nat×Int×Heap×List M10.S×Nat)(b:FF),x.1+x.2.2.2.2.1.length<=10/\fM f dp.toNat r x.2.1 w x.2.2.1 x.2.2.2.2.1/\GN h id x.2.1 x.2.2.1 x.2.2.2.1/\Heap.get ((((x.2).2).2).1) x.2.2.2.2.2=IObj.tip (x.2.2.2.2.1.length*17)/\Heap.next h<=x.2.2.2.2.2/\x.2.2.2.2.2< (x.2.2.2.1).next->aJ (decide ((x.1:Int)>0)) (aE x.2.2.2.1 id fun r5=>aX 1 r5 0 fun(i6:Y10)(e7 l8:Nat)(c9:Y14)=>aJ (decide ((l8:Int)>0)) (∃(z:Nat)(j:Int),(RN x.2.2.2.1 id z j/\0<z/\0<=j/\j<=10)/\(f=0\/f=1)/\(c5L dp dd)/\∀(k:Int)(nm X:Y11)(n K L:Int)(p:Y11)(u:Int)(l:List E)(Y Z:Int)(D:Y11)(G:Int)(A i:List E)(V O:List M10.S)(r2:Nat)(w2:Int)(h2:Heap),uT f dp.toNat z r2 j w2 (M10.S.mk k nm X n (E.mk K L p u l) (E.mk Y Z D G A) i V O)->GN x.2.2.2.1 id r2 w2 h2->cK h2 ((x.2.2.2.2).2) fun(a1:Nat)=>aD (Nat.beq a1 (x.2.2.2.2.1.length*17) &&Nat.ble ((x.2.2.2.2.1.length+1)*248) 140737488355328) ((∃(g:Nat×Nat×Int×Heap),some (xN id)=some (xN id)/\some (xL f)=some (xL f)/\some (xM dp)=some (xM dp)/\some (TV.v (.vslice (some x.2.2.2.2.2) (x.2.2.2.2.1.length*17+(17:Nat)) (x.2.2.2.2.1.length+1) 17 (aY x.2.2.2.2.1++(a6I n k K L u Y Z G nm X p D l A i V O))))=some Xn/\tI (wW ((x.1:Int)-1))=tI (g.1:Int)/\Heap.set h2 x.2.2.2.2.2 (IObj.tip (x.2.2.2.2.1.length*17+17))=((g.2).2).2/\(g.1<=10/\fM f dp.toNat r g.2.1 w g.2.2.1 []/\GN h id g.2.1 g.2.2.1 g.2.2.2)/\g.1<x.1) \/ ∃(g:Nat×Nat×Int×Heap×List M10.S×Nat),some (xN id)=some (xN id)/\some (xL f)=some (xL f)/\some (xM dp)=some (xM dp)/\some (TV.v (.vslice (some x.2.2.2.2.2) (x.2.2.2.2.1.length*17+17) (x.2.2.2.2.1.length+1) 17 (aY x.2.2.2.2.1++(a6I n k K L u Y Z G nm X p D l A i V O))))=some (TV.v (.vslice (some (((((g.2).2).2).2).2)) (g.2.2.2.2.1.length*17) g.2.2.2.2.1.length 17 (aY g.2.2.2.2.1)))/\tI (wW ((x.1:Int)-1))=tI (g.1:Int)/\Heap.set h2 x.2.2.2.2.2 (IObj.tip (x.2.2.2.2.1.length*17+17))=((g.2.2).2).1/\(g.1+g.2.2.2.2.1.length<=10/\fM f dp.toNat r g.2.1 w g.2.2.1 g.2.2.2.2.1/\GN h id g.2.1 g.2.2.1 g.2.2.2.1/\Heap.get g.2.2.2.1 g.2.2.2.2.2=IObj.tip (g.2.2.2.2.1.length*17)/\Heap.next h<=g.2.2.2.2.2/\g.2.2.2.2.2<g.2.2.2.1.next)/\g.1<x.1)) (Q (.vslice none 0 (((((x.2.2).2).2).1).length) 17 (aY x.2.2.2.2.1)) x.2.2.2.1)) (Q (.vslice none 0 x.2.2.2.2.1.length 17 (aY (((((x.2).2).2).2).1))) x.2.2.2.1)):=by kernel_rfl
abbrev Tn(dp:Int)(g:Nat):=0<=wW (dp+1)/\wW (dp+1)<=3/\(2:Int)*((3:Int)-wW (dp+1))+1< (g:Int)
def a6J:=[iI 0,IV.str [],IV.str [],iI 0,iI 0,iI 0,IV.str [],iI 0,IV.nilslice,iI 0,iI 0,IV.str [],iI 0,IV.nilslice,IV.nilslice,IV.nilslice,IV.nilslice]
abbrev mI(f:Int):=f=0\/f=1
abbrev Ge(d:Nat):=(0:Int)<=2/\(2:Int)<=4/\2< (d:Int)
abbrev Gf(d:Nat):=(0:Int)<=1/\(1:Int)<=4/\3< (d:Int)
def jA(x:Int×Int×Heap):=x.2.2
def a6K(f:Int)(x:Int×Int×Heap):=decide (0<=Int.tmod x.1 (↑((bM f).length):Int)) &&decide (Int.tmod x.1 (↑((bM f).length):Int)< (↑((bM f).length):Int))
def a6L(f:Int):=TV.v (.vslice none 0 ((bM f).length) 1 (List.map IV.str (bM f)))
def tF(dp f n w:Int)(h h2:Heap)(id r:Nat)(y0:Int):Prop:= ∃(g:Int×Int×Heap),some (TV.v (.ptr id 0))=some (TV.v (.ptr id 0))/\tI f=tI f/\tI dp=tI dp/\some (TV.l 6 0)=some (TV.l 6 0)/\some (a6L f)=some (a6L f)/\tI (wW (Int.tdiv n 16)% (1000:Int))=tI g.1/\tI (y0)=tI g.2.1/\some a6J=some a6J/\h2=g.2.2/\((0
 <=g.1/\g.1<1000)/\(0<=g.2.1/\g.2.1<16)/\(2<dp->g.2.1<8\/12<=g.2.1)/\(10<=w->g.2.1<10)/\GN h id (r-1) w g.2.2)/\True
def To(id r:Nat)(f dp w n:Int)(h h2:Heap):=aJ (decide (n% (16:Int)>=10)) (tF dp f n w h h2 id r 0) (tF dp f n w h h2 id r (n% (16:Int)))
def a6M(i:Int)(g:Y14):=IObj.cells (List.take 1 g++ [iI (wW (i+1))]++List.drop 2 g)
def a6N(x:Int×Int×Heap):=decide (0<=Int.tmod x.1 2) &&decide (Int.tmod x.1 2<2)
def Tp(dp:Int):=(wW (dp+1)).toNat
abbrev a6O:=(0:Int)<=3/\(3:Int)<=10
def Tq(x:Int×Int×Heap):=(2:Int)-Int.tmod x.1 2
theorem d6J(X:Nat)(id:Nat)(f dp:Int)(r:Nat)(w:Int)(h:Heap)(Q:KT):dF (aS (aT 152 (Mu X) (aT 80 (E9 X) Gd))) env 152 (fun k=>match Nat.beq k 27 with|true=>3|false=>0) bS (kR 8 (d3E id f dp r w h)) [.ptr id 0,.int .i64 f,.int .i64 dp] h Q=(
 ∃(O:Nat)(Y:Int),RN h id O Y/\∀(n:Int)(h2:Heap),aR n->(O=0->n=0)->RN h2 id (O-1) Y->HF id h h2->(mI f)/\((0:Int)<1000/\(1000:Int)<4611686018427387904)/\((0:Int)<16/\(16:Int)< (4611686018427387904:Int))/\aJ (decide (dp>2)) (aJ (decide (n% (16:Int)>=8)) (aJ (decide (n% (16:Int)<12)) (tF dp f n w h h2 id r 0) (aE h2 id fun r0=>aI .i64 r0 1 fun n1=>aJ (decide (n1>=10)) (To id r f dp w n h h2) (tF dp f n w h h2 id r (n% (16:Int))))) (aE h2 id fun i=>aI .i64 i 1 fun n3=>aJ (decide (n3>=10)) (To id r f dp w n h h2) (tF dp f n w h h2 id r (n% (16:Int))))) (aE h2 id fun r4=>aI .i64 r4 1 fun n5=>aJ (decide (n5>=10)) (To id r f dp w n h h2) (tF dp f n w h h2 id r (n% (16:Int))))/\∀(x:Int×Int×Heap)(b:FF),(0<=x.1/\x.1<1000)/\(0<=x.2.1/\x.2.1<16)/\((2:Int)<dp->x.2.1<8\/12<=x.2.1)/\(10<=w->x.2.1<10)/\GN h id (r-1) w (jA x)->aJ (decide (x.2.1<6)) (aD (!(↑((bM f).length):Int)==0) (aD (a6K f x) (bL (List.map IV.str (bM f)) ((Int.tmod x.1 (↑((bM f).length):Int)).toNat*1) fun(s6:Y11)=> ∃(d r:Nat)(w:Int),RN (jA x) id r w/\(mI f)/\((0:Int)<=0/\(0:Int)<=4/\4< (d:Int))/\∀(k n:Int)(nm:Y11)(op:Int)(ks:List E)(i:Nat)(h2:Heap),gL f 4 r i (E.mk k n nm op ks)->GN (jA x) id i w h2->Q (.agg [.int .i64 1,IV.str s6,IV.str [],iI 0,iI 0,iI 0,IV.str [],iI 0,IV.vslice none 0 0 5 [],iI k,iI n,IV.str nm,iI op,IV.vslice none 0 ks.length 5 (aW ks),IV.vslice none 0 0 5 [],IV.vslice none 0 0 17 [],IV.vslice none 0 0 17 []]) h2))) (aJ (decide (x.2.1<8)) (aD (a6N x) (bL [IV.str [97],IV.str [98]] ((Int.tmod x.1 2).toNat*1) fun(s7:Y11)=> ∃(d r:Nat)(w:Int),RN (jA x) id r w/\(mI f)/\(Ge d)/\∀(k n:Int)(nm:Y11)(op:Int)(ks:List E)(i:Nat)(h2:Heap),gL f 2 r i (E.mk k n nm op ks)->GN (jA x) id i w h2-> ∃(d r:Nat)(w:Int),RN h2 id r w/\(mI f)/\(Gf d)/\∀(z A:Int)(p:Y11)(u:Int)(j:List E)(i:Nat)(g:Heap),gL f 3 r i (E.mk z A p u j)->GN h2 id i w g->Q (.agg [.int .i64 2,IV.str s7,IV.str [],iI 0,iI k,iI n,IV.str nm,iI op,IV.vslice none 0 ks.length 5 (aW ks),iI z,iI A,IV.str p,iI u,IV.vslice none 0 j.length 5 (aW j),IV.vslice none 0 0 5 [],IV.vslice none 0 0 17 [],IV.vslice none 0 0 17 []]) g)) (aJ (decide (x.2.1<10)) (∃(d r:Nat)(w:Int),RN (jA x) id r w/\(mI f)/\(Gf d)/\∀(k n:Int)(nm:Y11)(op:Int)(ks:List E)(i:Nat)(h2:Heap),gL f 3 r i (E.mk k n nm op ks)->GN (jA x) id i w h2-> ∃(r:Nat)(w:Int),(RN h2 id r w/\0<=w/\w<=10)/\(mI f)/\(Tn dp X)/\a6O/\∀(l:List M10.S)(i:Nat)(G:Int)(g:Heap),fM f (Tp dp) r i w G l->GN h2 id i G g-> ∃(r:Nat)(w:Int),(RN g id r w/\0<=w/\w<=10)/\(mI f)/\(Tn dp X)/\((0:Int)<=2/\(2:Int)<=10)/\∀(K:List M10.S)(i:Nat)(G:Int)(h2:Heap),fM f (Tp dp) r i w G K->GN g id i G h2->Q (.agg [.int .i64 3,IV.str [],IV.str [],iI 0,iI 0,iI 0,IV.str [],iI 0,IV.vslice none 0 0 5 [],iI k,iI n,IV.str nm,iI op,IV.vslice none 0 ks.length 5 (aW ks),IV.vslice none 0 0 5 [],IV.vslice none 0 l.length 17 (aY l),IV.vslice none 0 K.length 17 (aY K)]) h2) (aJ (decide (x.2.1<12)) (aE (jA x) id fun r8=>aI .i64 r8 1 fun n9=>aE (jA x) id fun L=>aD (Nat.ble 2 L.length) (∃(d r:Nat)(w:Int),RN ((jA x).set id (a6M n9 L)) id r w/\(mI f)/\(Gf d)/\∀(k n:Int)(nm:Y11)(op:Int)(ks:List E)(i:Nat)(h2:Heap),gL f 3 r i (E.mk k n nm op ks)->GN ((jA x).set id (a6M n9 L)) id i w h2-> ∃(r:Nat)(w:Int),(RN h2 id r w/\0<=w/\w<=10)/\(mI f)/\(Tn dp X)/\a6O/\∀(l:List M10.S)(i:Nat)(G:Int)(g:Heap),fM f (Tp dp) r i w G l->GN h2 id i G g->Q (.agg [.int .i64 4,IV.str [],IV.str [],iI 0,iI 0,iI 0,IV.str [],iI 0,IV.vslice none 0 0 5 [],iI k,iI n,IV.str nm,iI op,IV.vslice none 0 ks.length 5 (aW ks),IV.vslice none 0 0 5 [],IV.vslice none 0 l.length 17 (aY l),IV.vslice none 0 0 17 []]) g)) (aJ (decide (x.2.1<14)) (∃(d r:Nat)(w:Int),RN (jA x) id r w/\(mI f)/\(Gf d)/\∀(k n:Int)(nm:Y11)(op:Int)(ks:List E)(i:Nat)(h2:Heap),gL f 3 r i (E.mk k n nm op ks)->GN (jA x) id i w h2->Q (.agg [.int .i64 5,IV.str [],IV.str [],iI 0,iI 0,iI 0,IV.str [],iI 0,IV.vslice none 0 0 5 [],iI k,iI n,IV.str nm,iI op,IV.vslice none 0 ks.length 5 (aW ks),IV.vslice none 0 0 5 [],IV.vslice none 0 0 17 [],IV.vslice none 0 0 17 []]) h2) (aJ (decide (x.2.1<15)) (aD (!(↑((bM f).length):Int)==0) (aD (a6K f x) (bL (List.map IV.str (bM f)) ((Int.tmod x.1 (↑((bM f).length):Int)).toNat*1) fun(T:Y11)=>aD (a6N x) (bL [IV.str [102],IV.str [103]] ((Int.tmod x.1 2).toNat*1) fun(V:Y11)=>aJ (decide (0<wW (Tq x))) (∃(d r:Nat)(w:Int),RN (jA x) id r w/\(mI f)/\(Ge d)/\∀(k n:Int)(nm:Y11)(op:Int)(ks:List E)(i:Nat)(h2:Heap),gL f 2 r i (E.mk k n nm op ks)->GN (jA x) id i w h2->aJ (decide (1<wW (Tq x))) (∃(d r:Nat)(w:Int),RN (h2.push (IObj.tip 5)) id r w/\(mI f)/\(Ge d)/\∀(z A:Int)(p:Y11)(u:Int)(j:List E)(i:Nat)(g:Heap),gL f 2 r i (E.mk z A p u j)->GN (h2.push (IObj.tip 5)) id i w g->cK g (h2.next) fun(Z:Nat)=>aD (Nat.beq Z 5 &&true) (aJ (decide (2<wW (Tq x))) (∃(d r:Nat)(w:Int),RN (g.set (h2.next) (IObj.tip 10)) id r w/\(mI f)/\(Ge d)/\∀(k n:Int)(nm:Y11)(op:Int)(ks:List E)(i:Nat)(D:Heap),gL f 2 r i (E.mk k n nm op ks)->GN (g.set (h2.next) (IObj.tip 10)) id i w D->cK D (h2.next) fun(a0:Nat)=>aD (Nat.beq a0 10 &&true) False) (Q (.agg [.int .i64 6,IV.str T,IV.str V,iI 0,iI 0,iI 0,IV.str [],iI 0,IV.vslice none 0 0 5 [],iI 0,iI 0,IV.str [],iI 0,IV.vslice none 0 0 5 [],IV.vslice none 0 2 5 [iI k,iI n,IV.str nm,iI op,IV.vslice none 0 ks.length 5 (aW ks),iI z,iI A,IV.str p,iI u,IV.vslice none 0 j.length 5 (aW j)],IV.vslice none 0 0 17 [],IV.vslice none 0 0 17 []]) (g.set (h2.next) (IObj.tip 10))))) (Q (.agg [.int .i64 6,IV.str T,IV.str V,iI 0,iI 0,iI 0,IV.str [],iI 0,IV.vslice none 0 0 5 [],iI 0,iI 0,IV.str [],iI 0,IV.vslice none 0 0 5 [],IV.vslice none 0 1 5 [iI k,iI n,IV.str nm,iI op,IV.vslice none 0 ks.length 5 (aW ks)],IV.vslice none 0 0 17 [],IV.vslice none 0 0 17 []]) (h2.push (IObj.tip 5)))) (Q (.agg [.int .i64 6,IV.str T,IV.str V,iI 0,iI 0,iI 0,IV.str [],iI 0,IV.vslice none 0 0 5 [],iI 0,iI 0,IV.str [],iI 0,IV.vslice none 0 0 5 [],IV.vslice none 0 0 5 [],IV.vslice none 0 0 17 [],IV.vslice none 0 0 17 []]) (jA x)))))) (Q (.agg [.int .i64 7,IV.str [],IV.str [],iI x.1,iI 0,iI 0,IV.str [],iI 0,IV.vslice none 0 0 5 [],iI 0,iI 0,IV.str [],iI 0,IV.vslice none 0 0 5 [],IV.vslice none 0 0 5 [],IV.vslice none 0 0 17 [],IV.vslice none 0 0 17 []]) (jA x)))))))):=by kernel_rfl
theorem gSt: ∀d,(∀xs h Q,E9 d xs h Q->aO env 80 xs h Q)/\(∀xs h Q,Mu d xs h Q->aO env 152 xs h Q):=by
 intro d
 induction d with
 |zero=>
  refine⟨?_,?_⟩
  ·intro xs h Q p;unfold E9 at p;split at p
   ·rename_i id f dp mo;obtain⟨r,w,hr,hf,hd,hm,p⟩:=p;have h1:=hd.2.1;have h2:=hd.2.2;omega
   ·exact p.elim
  ·intro xs h Q p;unfold Mu at p;split at p
   ·rename_i id f dp;obtain⟨r,w,hr,hf,hd,p⟩:=p;have h1:=hd.2.1;have h2:=hd.2.2;omega
   ·exact p.elim
 |succ dd ih=>
  have hT:aP env (aT 152 (Mu dd) (aT 80 (E9 dd) Gd)):=aF (ih.2) (aF (ih.1) (a6H));refine⟨?_,?_⟩
  ·intro xs h Q p;unfold E9 at p;split at p
   ·rename_i id f dp mo;obtain⟨r,w,hr,hf,hd,hm,p⟩:=p;refine aN hT (d3F dd id f dp mo r w h Q) ?_;delta a6I xL xM xN Xn c5L c5M tI wW iI;obtain⟨hr,d2,a6⟩:=hr;obtain⟨d3,d5,d6⟩:=hd;have e2:IntKind.i64.wrap (mo+1)=mo+1:=AB _ IM;rw [e2];refine⟨r,w,hr,fun n h2 hn hz g1 g2=>⟨IM,.inl ⟨((n% (mo+1)).toNat,r-1,w,h2),IR,IR,IR,IR,?_,IR,⟨?_,fM.mono (fM.nil a6) (Nat.sub_le _ _),g1,g2⟩,trivial⟩,?_,?_⟩⟩
    ·dsimp only;rw [DH (CM _ IM)]
    ·have h1:=CM n (show mo+1≠0 by omega);have h2:=CI n (show 0<mo+1 by omega);dsimp only;omega
    ·rintro⟨k,r1,w1,g⟩ _ ⟨a2,hp,u⟩;dsimp only at a2 hp u⊢;have X:=u;have b7:=hp.2.2.2.1;refine dA (fun c1=>?_) (fun _=>p [] r1 w1 g hp u);obtain⟨⟨a4,io,e,l,hb,a3,z⟩,b1⟩:=u;refine aB z (eF rfl (dA (fun c2=>⟨r1,w1,⟨X.1,IM,IM,IM⟩,hf,IM,fun k2 nm to n2 ak an a8 a9 a7 vk vn c9 d0 c8 a1 th el G w2 O p3 K=> .inr ⟨(k-1,G,w2,O.push (.tip 17),[.mk k2 nm to n2 (.mk ak an a8 a9 a7) (.mk vk vn c9 d0 c8) a1 th el],O.next),IR,IR,IR,IR,?_,IR,⟨?_,hp.snoc p3,(X.trans K).push,aU,?_,AQ _⟩,?_⟩⟩) (fun _=>p [] r1 w1 g hp X)))
     ·dsimp only;rw [AB _ IM,show((k:Int)-1)=((k-1:Nat):Int) by omega]
     ·dsimp only [List.length_cons,List.length_nil];omega
     ·have:=X.2.1;have:=K.2.1;dsimp only;omega
     ·dsimp only;omega
    ·rintro⟨k,r1,w1,g,l0,i0⟩ _ ⟨a2,hp,u,ht,b2,b3⟩;dsimp only at a2 hp u ht b2 b3⊢;have X:=u;have b7:=hp.2.2.2.1;have e4:=hr.1;refine dA (fun c1=>?_) (fun _=>p l0 r1 w1 g hp u);obtain⟨⟨a4,io,e,l,hb,a3,z⟩,b1⟩:=u;refine aB z (eF rfl (dA (fun c2=>⟨r1,w1,⟨X.1,IM,IM,IM⟩,hf,IM,fun k2 nm to n2 ak an a8 a9 a7 vk vn c9 d0 c8 a1 th el G w2 O p3 K=>?_⟩) (fun _=>p l0 r1 w1 g hp X)));have a5:i0≠id:=IM;have e1:O.get i0= .tip (l0.length*17):=by rw [K.2.2 _ b3 a5];exact ht
     have d7:i0<O.next:=AI b3 K.2.1;refine aV e1 (aA (by simp only [AF,bK,AM,true_and];omega) (.inr ⟨(k-1,G,w2,O.set i0 (.tip (l0.length*17+17)),l0++ [.mk k2 nm to n2 (.mk ak an a8 a9 a7) (.mk vk vn c9 d0 c8) a1 th el],i0),IR,IR,IR,?_,?_,IR,⟨?_,hp.snoc p3,(X.trans K).set b2 a5,?_,b2,d7⟩,?_⟩))
     ·dsimp only;rw [B5,AH,DD];rfl
     ·dsimp only;rw [AB _ IM,show((k:Int)-1)=((k-1:Nat):Int) by omega]
     ·dsimp only;rw [AH];show k-1+(l0.length+1)<=10;omega
     ·dsimp only;rw [aH,AH,DD];rfl
     ·dsimp only;omega
   ·exact p.elim
  ·intro xs h Q p;unfold Mu at p;split at p
   ·rename_i id f dp;obtain⟨r,w,hr,hf,hd,p⟩:=p;refine aN hT (d6J dd id f dp r w h Q) ?_;delta tF Tn a6J mI Ge Gf jA a6K To a6M a6N Tp a6L a6O Tq tI wW iI;obtain⟨hr,e7,d2,a6⟩:=hr;obtain⟨d3,d5,d6⟩:=hd;refine⟨r,w,hr,fun n h2 hn hz g1 g2=>⟨hf,⟨IN,IN⟩,⟨IN,IN⟩,?_⟩⟩;have u:GN h id (r-1) w h2:=⟨g1,g2⟩;have L:=CM (IntKind.i64.wrap (Int.tdiv n 16)) (show(1000:Int)≠0 by decide);have Y:=CI (IntKind.i64.wrap (Int.tdiv n 16)) (show(0:Int)<1000 by decide);have b4:=CM n (show(16:Int)≠0 by decide);have b5:=CI n (show(0:Int)<16 by decide);generalize IntKind.i64.wrap (Int.tdiv n 16)%1000=m at L Y⊢;generalize n%16=k0 at b4 b5⊢;obtain⟨a4,io,e,l,hb,a3,z⟩:=g1;have e6:0< (bM f).length:=by rcases hf with rfl|rfl<;>decide
    refine⟨?_,?_⟩
    ·refine dA (fun c1=>dA (fun c2=>dA (fun c3=>⟨(m,0,h2),IR,IR,IR,IR,IR,IR,IR,IR,IR,⟨⟨L,Y⟩,⟨IS,IS⟩,fun _=>IS,fun _=>IS,u⟩,trivial⟩) (fun c3=>?_)) (fun c2=>?_)) (fun c1=>?_)
     all_goals
      have hp:2<dp->k0<8\/12<=k0:=IM;exact aB z (bY rfl (dA (fun c4=>dA (fun _=>⟨(m,0,h2),IR,IR,IR,IR,IR,IR,IR,IR,IR,⟨⟨L,Y⟩,⟨IS,IS⟩,fun _=>IS,fun _=>IS,u⟩,trivial⟩) (fun c5=>⟨(m,k0,h2),IR,IR,IR,IR,IR,IR,IR,IR,IR,⟨⟨L,Y⟩,⟨IS,IS⟩,fun _=>IS,fun _=>IS,u⟩,trivial⟩)) (fun c4=>⟨(m,k0,h2),IR,IR,IR,IR,IR,IR,IR,IR,IR,⟨⟨L,Y⟩,⟨IS,IS⟩,fun _=>IS,fun _=>IS,u⟩,trivial⟩)))
    rintro⟨m,k,g⟩ _ ⟨⟨L,Y⟩,⟨b4,b5⟩,d8,d9,u⟩;clear z a3 hb a4 hz hn;dsimp only at L Y b4 b5 d8 d9 u⊢;have V:dp.toNat<=4:=IM;have t1:0<=Int.tmod m ((bM f).length:Int)/\Int.tmod m ((bM f).length:Int)< (bM f).length:=by
     rw [CP L];exact⟨CM _ IM,CI _ IM⟩
    have t2:Int.tmod m 2=0\/Int.tmod m 2=1:=by
     rw [CP L];omega
    generalize Int.tmod m 2=m2 at t2⊢;generalize Int.tmod m ((bM f).length:Int)=ml at t1⊢;have nz:(!(((bM f).length:Int)==0))=true:=by simp only [CH,beq_eq_false_iff_ne];omega
    have i: ∀q,fM f (dp.toNat+1) q q w w []:=fun q=>fM.nil a6
    have z1:(E.mk 0 0 [] 0 []).dp=0:=d0Y;have z2:(E.mk 0 0 [] 0 []).cost=0:=b4J;have a0: ∀x∈ ([]:List E),x.dp<=5:=fun x hx=>by cases hx
    refine dA (fun c1=>aA nz (bG t1 (B6 IM fun s hs=>?_))) (fun c1=>dA (fun c2=>bG IM (B6 (l:=nK) (show m2.toNat*1<2 by omega) fun s hs=>?_)) (fun c2=>dA (fun c3=>?_) (fun c3=>dA (fun c4=>?_) (fun c4=>dA (fun c5=>?_) (fun c5=>dA (fun c6=>?_) (fun c6=>?_))))))
    ·refine⟨5,r-1,w,u.1,hf,IM,fun Z n1 nm1 D A G O j K=>p 1 s [] 0 0 0 [] 0 [] Z n1 nm1 D A [] [] [] G w O (uT.node (r0:=r-1) (.inl ⟨rfl,hs,rfl,rfl,rfl,j.1,rfl,rfl,rfl⟩) V ⟨IM,by have:=j.2.1;omega,a0⟩ ⟨IM,j.2.2.1⟩ ?_ (i G) (i G) IP) (u.trans K)⟩;have:=j.2.2.2;simp only [Es.cost];omega
    ·refine⟨5,r-1,w,u.1,hf,IM,fun Z n1 nm1 D A G O j K=>⟨5,G,w,K.1,hf,IM,fun k2 n2 c0 c7 b9 r3 h4 T g4=>p 2 s [] 0 Z n1 nm1 D A k2 n2 c0 c7 b9 [] [] [] r3 w h4 (uT.node (r0:=r-1) (r1:=r3) (.inr (.inl ⟨rfl,hs,rfl,rfl,j.1,T.1,rfl,rfl,rfl⟩)) V ⟨by have:=j.2.1;omega,by have:=T.2.1;omega,a0⟩ ⟨IM,BK T.2.2.1 j.2.2.1⟩ ?_ (i r3) (i r3) IP) ((u.trans K).trans g4)⟩⟩;have:=j.2.2.2;have:=T.2.2.2;have:=j.2.2.1;have:=T.2.2.1;simp only [Es.cost];omega
    ·have d4:dp<=2:=IM;have b6:IntKind.i64.wrap (dp+1)=dp+1:=AB _ IM;have b0:(dp+1).toNat=dp.toNat+1:=IM;rw [b6,b0];refine⟨5,r-1,w,u.1,hf,IM,fun Z n1 nm1 D A G O j K=>⟨G,w,⟨K.1,d2,a6⟩,hf,IM,IM,fun l r3 w3 h4 T g4=>⟨r3,w3,⟨g4.1,by have:=T.2.2.2.1.1;omega,T.2.2.2.1.2⟩,hf,IM,IM,fun l2 r4 w4 h5 p3 g5=>p 3 [] [] 0 0 0 [] 0 [] Z n1 nm1 D A [] l l2 r4 w4 h5 (uT.node (r0:=r-1) (r1:=G) (.inr (.inr (.inl ⟨rfl,rfl,rfl,rfl,rfl,j.1,rfl⟩))) V ⟨IM,by have:=j.2.1;omega,a0⟩ ⟨IM,j.2.2.1⟩ ?_ T p3 IP) (((u.trans K).trans g4).trans g5)⟩⟩⟩;have:=j.2.2.2;simp only [Es.cost];omega
    ·have d4:dp<=2:=IM;have b6:IntKind.i64.wrap (dp+1)=dp+1:=AB _ IM;have b0:(dp+1).toNat=dp.toNat+1:=IM;have b7:w+1<=10:=IM;rw [b6,b0];obtain⟨⟨a4,io,e,l,hb,a3,z⟩,b1⟩:=u;refine aB z (bY rfl (aB z (aA rfl ?_)));have gw:GN h id (r-1) (w+1) (g.set id (IObj.cells (List.take 1 [.vslice io e l.length 1 (l.map (IV.int .i64)),.int .i64 w]++ [.int .i64 (IntKind.i64.wrap (w+1))]++List.drop 2 [.vslice io e l.length 1 (l.map (IV.int .i64)),.int .i64 w]))):=⟨RN.wl a4 hb a3 (AB _ IM),b1.trans HF.set⟩;generalize Heap.set g id (IObj.cells (List.take 1 [.vslice io e l.length 1 (l.map (IV.int .i64)),.int .i64 w]++ [.int .i64 (IntKind.i64.wrap (w+1))]++List.drop 2 [.vslice io e l.length 1 (l.map (IV.int .i64)),.int .i64 w]))=g2 at gw⊢;refine⟨5,r-1,w+1,gw.1,hf,IM,fun Z n1 nm1 D A G O j K=>⟨G,w+1,⟨K.1,IM,b7⟩,hf,IM,IM,fun l r3 w3 h4 T g4=>p 4 [] [] 0 0 0 [] 0 [] Z n1 nm1 D A [] l [] r3 w3 h4 (uT.node (r0:=r-1) (r1:=G) (wa:=w+1) (.inr (.inr (.inr (.inl ⟨rfl,rfl,rfl,rfl,rfl,j.1,rfl,rfl⟩)))) V ⟨IM,by have:=j.2.1;omega,a0⟩ ⟨IM,j.2.2.1⟩ ?_ T (fM.nil T.2.2.2.1.2) IP) ((gw.trans K).trans g4)⟩⟩;have:=j.2.2.2;simp only [Es.cost];omega
    ·refine⟨5,r-1,w,u.1,hf,IM,fun Z n1 nm1 D A G O j K=>p 5 [] [] 0 0 0 [] 0 [] Z n1 nm1 D A [] [] [] G w O (uT.node (r0:=r-1) (r1:=G) (.inr (.inr (.inr (.inr (.inl ⟨rfl,rfl,rfl,rfl,rfl,j.1,rfl,rfl,rfl⟩))))) V ⟨IM,by have:=j.2.1;omega,a0⟩ ⟨IM,j.2.2.1⟩ ?_ (i G) (i G) IP) (u.trans K)⟩;have:=j.2.2.2;simp only [Es.cost];omega
    ·refine aA nz (bG t1 (B6 IM fun s hs=>bG IM ?_));rcases t2 with rfl|rfl
     ·refine gO rfl (Yl IN ⟨5,r-1,w,u.1,hf,IM,fun Z n1 nm1 D A G O j K=>Yl IN ⟨5,G,w,K.1.push,hf,IM,fun k2 n2 c0 c7 b9 r3 h4 T g4=>?_⟩⟩);have e5:=u.1.1;have e3:id<O.next:=K.1.1;have a5:O.next≠id:=IM;have d1:h4.get O.next= .tip 5:=by
       rw [g4.2.2 _ (AQ _) a5];exact aU
      refine aV d1 (aA rfl (lR IN ?_));refine p 6 s [102] 0 0 0 [] 0 [] 0 0 [] 0 [] [.mk Z n1 nm1 D A,.mk k2 n2 c0 c7 b9] [] [] r3 w _ (uT.node (r0:=r-1) (r1:=r3) (.inr (.inr (.inr (.inr (.inr (.inl ⟨rfl,hs,.inl ⟨rfl,rfl⟩,rfl,rfl,rfl,⟨j.1,T.1,trivial⟩,rfl,rfl⟩)))))) V ⟨IM,IM,fun x hx=>?_⟩ ⟨IM,BK T.2.2.1 j.2.2.1⟩ ?_ (i r3) (i r3) IP) (((u.trans K).push.trans g4).set ?_ a5)
      ·rcases BQ.1 hx with rfl|hx
       ·have:=j.2.1;omega
       ·rw [BO.1 hx];have:=T.2.1;omega
      ·have:=j.2.2.2;have:=T.2.2.2;have:=j.2.2.1;have:=T.2.2.1;simp only [Es.cost];omega
      ·have:=u.2.1;have:=K.2.1;omega
     ·refine gO rfl (Yl IN ⟨5,r-1,w,u.1,hf,IM,fun Z n1 nm1 D A G O j K=>lR IN ?_⟩);refine p 6 s [103] 0 0 0 [] 0 [] 0 0 [] 0 [] [.mk Z n1 nm1 D A] [] [] G w _ (uT.node (r0:=r-1) (r1:=G) (.inr (.inr (.inr (.inr (.inr (.inl ⟨rfl,hs,.inr ⟨rfl,rfl⟩,rfl,rfl,rfl,⟨j.1,trivial⟩,rfl,rfl⟩)))))) V ⟨IM,IM,fun x hx=>?_⟩ ⟨IM,j.2.2.1⟩ ?_ (i G) (i G) IP) (u.trans K).push
      ·rw [BO.1 hx];have:=j.2.1;omega
      ·have:=j.2.2.2;simp only [Es.cost];omega
    ·exact p 7 [] [] m 0 0 [] 0 [] 0 0 [] 0 [] [] [] [] (r-1) w g (uT.node (r0:=r-1) (r1:=r-1) (.inr (.inr (.inr (.inr (.inr (.inr ⟨rfl,rfl,rfl,⟨L,Y⟩,rfl,rfl,rfl,rfl,rfl⟩)))))) V ⟨IM,IM,a0⟩ ⟨IM,AJ _⟩ (by simp only [Es.cost];omega) (i _) (i _) IP) u
   ·exact p.elim
def c0U:=aT 80 (fun xs h K=> ∃d,E9 d xs h K) Gd
theorem c5N:aP env c0U:=aF (fun xs h Q g=>g.elim fun d g=>(gSt d).1 xs h Q g) (a6H)
def c5O:=aT 152 (fun xs h K=> ∃d,Mu d xs h K) c0U
theorem c0V:aP env c5O:=aF (fun xs h Q g=>g.elim fun d g=>(gSt d).2 xs h Q g) (c5N)
def c5P(xs:Y14)(h:Heap)(K:KT):Prop:=match xs with
 | [.vslice none e0 n0 1 c0]=> ∃l:Y12,(n0=l.length/\c0=l.map (IV.int .i64))/\(∀x∈l,aR x)/\∀(j p:Int)(g:List S)(u:E)(i:List S)(z:E),PP j p g u i z->K (.agg [.vslice none 0 2 2 (Kc j p),.vslice none 0 2 9 (fnC g u i z)]) h
 |_=>False
def a6P(h2:Heap):=h2.push (IObj.cells [IV.str [102],IV.vslice none 1 2 1 [IV.str [120],IV.str [121]],IV.vslice none 1 2 1 [IV.str [105],IV.str [106]],IV.nilslice,iI 0,iI 0,IV.str [],iI 0,IV.nilslice,IV.str [103],IV.vslice none 1 1 1 [IV.str [110]],IV.vslice none 1 1 1 [IV.str [105]],IV.nilslice,iI
 0,iI 0,IV.str [],iI 0,IV.nilslice])
def c5Q(n:Int):=[IV.str [97],iI (wW ((1:Int)+n% (4:Int))),IV.str [98],iI (wW ((1:Int)+wW (Int.tdiv n 4)% (4:Int)))]
def a6Q(k g op:Int)(nm:Y11)(ks:List E):=[iI k,iI g,IV.str nm,iI op,IV.vslice none 0 ks.length 5 (aW ks)]
def xO:=(0:Nat)+1
abbrev a6R(d:Nat):=(0:Int)<=1/\(1:Int)<=4/\3< (d:Int)
abbrev a6S:=(0:Int)<4/\(4:Int)<4611686018427387904
def c5R:=Heap.mk (PT.node PT.nil (some (IObj.cells [IV.vslice none 1 0 1 [],iI 0])) PT.nil) xO
abbrev a6T:=(0:Int)=0\/ (0:Int)=1
abbrev a6U:=(1:Int)=0\/ (1:Int)=1
def c5S(n:Int)(g:Y14):=[IV.vslice none 0 2 2 (c5Q n),IV.vslice none 0 2 9 (List.take 18 g)]
def c5T(n:Int)(g:Y14):=[IV.vslice none 0 2 2 (c5Q n),IV.vslice none 0 2 9 (List.take 18 g)]
def jZ(h2:Heap):=h2.next
abbrev c5U(d:Nat):=(0:Int)<=0/\(0:Int)<=3/\7< (d:Int)
abbrev c5V(d:Nat):=(0:Int)<=1/\(1:Int)<=3/\5< (d:Int)
abbrev c5W:=(0:Int)<=5/\(5:Int)<=10
abbrev c5X:=(0:Int)<=3/\(3:Int)<=10
def c5Y(k op g:Int)(nm:Y11)(ks:List E):=[iI k,iI g,IV.str nm,iI op,IV.vslice none 0 ks.length 5 (aW ks)]
theorem d6K(l:Y12)(e0:Nat)(h:Heap)(Q:KT):dF (aS c5O) env 34 dL bS bS [.vslice none e0 (l).length 1 ((l).map (IV.int .i64))] h Q=(
 aD (aM [IV.vslice none 0 l.length 1 (List.map (IV.int .i64) l)]) (aD (true&& (decide (0<=if 60< (l.length:Int)then(60:Int)else(l.length:Int)) &&decide ((if 60< (l.length:Int)then(60:Int)else((l.length):Int))<=(l.length:Int)))) (aJ (Nat.beq (Int.toNat (if 60< (l.length:Int)then(60:Int)else(l.length:Int))-0) 0) (∃(r:Nat)(w:Int),RN c5R 0 r w/\∀(n:Int)(h2:Heap),aR n->(r=0->n=0)->RN h2 0 (r-1) w->HF 0 c5R h2->a6S/\a6S/\∃(d r:Nat)(w:Int),(RN (a6P h2) 0 r w/\0<=w/\w<=10)/\a6T/\(c5U d)/\c5W/\∀(l:List M10.S)(p:Nat)(D:Int)(g:Heap),fM 0 0 r p w D l->GN (a6P h2) 0 p D g->aE g (jZ h2) fun r0=>aD (Nat.ble 4 r0.length) (∃(d r:Nat)(w:Int),RN (g.set (jZ h2) (IObj.cells (List.take 3 r0++ [IV.vslice none 0 l.length 17 (aY l)]++List.drop 4 r0))) 0 r w/\a6T/\(a6R d)/\∀(k z:Int)(nm:Y11)(op:Int)(ks:List E)(p:Nat)(i:Heap),gL 0 3 r p (E.mk k z nm op ks)->GN (g.set (jZ h2) (IObj.cells (List.take 3 r0++ [IV.vslice none 0 l.length 17 (aY l)]++List.drop 4 r0))) 0 p w i->aE i (jZ h2) fun r1=>aD (Nat.ble 9 r1.length) (∃(d r:Nat)(w:Int),(RN (i.set (jZ h2) (IObj.cells (List.take 4 r1++(a6Q k z op nm ks)++List.drop 9 r1))) 0 r w/\0<=w/\w<=10)/\a6U/\(c5V d)/\c5X/\∀(l:List M10.S)(p:Nat)(D:Int)(j:Heap),fM 1 1 r p w D l->GN (i.set (jZ h2) (IObj.cells (List.take 4 r1++(a6Q k z op nm ks)++List.drop 9 r1))) 0 p D j->aE j (jZ h2) fun p=>aD (Nat.ble 13 p.length) (∃(d r:Nat)(w:Int),RN (j.set (jZ h2) (IObj.cells (List.take 12 p++ [IV.vslice none 0 l.length 17 (aY l)]++List.drop 13 p))) 0 r w/\a6U/\(a6R d)/\∀(k A:Int)(nm:Y11)(op:Int)(ks:List E)(G:Nat)(u:Heap),gL 1 3 r G (E.mk k A nm op ks)->GN (j.set (jZ h2) (IObj.cells (List.take 12 p++ [IV.vslice none 0 l.length 17 (aY l)]++List.drop 13 p))) 0 G w u->aE u (jZ h2) fun T=>aD (Nat.ble 18 T.length) (aE (u.set (jZ h2) (IObj.cells (List.take 13 T++(c5Y k op A nm ks)++List.drop 18 T))) (jZ h2) fun V=>aD (true&&Nat.ble 18 V.length) (aD (aM [IV.agg (c5S n V)]) (Q (.agg (c5S n V)) h))))))) (aD (Nat.ble (((0:Nat)+(Int.toNat (if 60< (l.length:Int)then(60:Int)else(l.length:Int))-0))*8) 140737488355328) (∃(r:Nat)(w:Int),RN (Heap.mk (PT.node (PT.node PT.nil (some (IObj.cells [IV.vslice (some (0:Nat)) (((0:Nat)+(Int.toNat (if 60< (l.length:Int)then(60:Int)else(l.length:Int))-0))*1) ((0:Nat)+(Int.toNat (if 60< (l.length:Int)then(60:Int)else(l.length:Int))-0)) 1 ([]++List.take ((Int.toNat (if 60< (l.length:Int)then(60:Int)else(l.length:Int))-0)*1) (List.drop 0 (List.map (IV.int .i64) l))),iI 0])) PT.nil) (some (IObj.tip (((0:Nat)+(Int.toNat (if 60< (l.length:Int)then(60:Int)else(l.length:Int))-0))*1))) PT.nil) ((0:Nat)+1+1)) xO r w/\∀(n:Int)(h2:Heap),aR n->(r=0->n=0)->RN h2 xO (r- (1:Nat)) w->HF xO (Heap.mk (PT.node (PT.node PT.nil (some (IObj.cells [IV.vslice (some (0:Nat)) (((0:Nat)+(Int.toNat (if 60< (l.length:Int)then(60:Int)else(l.length:Int))-0))*1) ((0:Nat)+(Int.toNat (if 60< (l.length:Int)then(60:Int)else(l.length:Int))-0)) 1 ([]++List.take ((Int.toNat (if 60< (l.length:Int)then(60:Int)else(l.length:Int))-0)*1) (List.drop 0 (List.map (IV.int .i64) l))),iI 0])) PT.nil) (some (IObj.tip (((0:Nat)+(Int.toNat (if 60< (l.length:Int)then(60:Int)else(l.length:Int))-0))*1))) PT.nil) ((0:Nat)+1+1)) h2->a6S/\a6S/\∃(d r:Nat)(w:Int),(RN (a6P h2) xO r w/\0<=w/\w<=10)/\a6T/\(c5U d)/\c5W/\∀(l:List M10.S)(p:Nat)(D:Int)(g:Heap),fM 0 0 r p w D l->GN (a6P h2) xO p D g->aE g (jZ h2) fun K=>aD (Nat.ble 4 K.length) (∃(d r:Nat)(w:Int),RN (g.set (jZ h2) (IObj.cells (List.take 3 K++ [IV.vslice none 0 l.length 17 (aY l)]++List.drop 4 K))) xO r w/\a6T/\(a6R d)/\∀(k z:Int)(nm:Y11)(op:Int)(ks:List E)(p:Nat)(i:Heap),gL 0 3 r p (E.mk k z nm op ks)->GN (g.set (jZ h2) (IObj.cells (List.take 3 K++ [IV.vslice none 0 l.length 17 (aY l)]++List.drop 4 K))) xO p w i->aE i (jZ h2) fun L=>aD (Nat.ble 9 L.length) (∃(d r:Nat)(w:Int),(RN (i.set (jZ h2) (IObj.cells (List.take 4 L++(a6Q k z op nm ks)++List.drop 9 L))) xO r w/\0<=w/\w<=10)/\a6U/\(c5V d)/\c5X/\∀(l:List M10.S)(p:Nat)(D:Int)(j:Heap),fM 1 1 r p w D l->GN (i.set (jZ h2) (IObj.cells (List.take 4 L++(a6Q k z op nm ks)++List.drop 9 L))) xO p D j->aE j (jZ h2) fun O=>aD (Nat.ble 13 O.length) (∃(d r:Nat)(w:Int),RN (j.set (jZ h2) (IObj.cells (List.take 12 O++ [IV.vslice none 0 l.length 17 (aY l)]++List.drop 13 O))) xO r w/\a6U/\(a6R d)/\∀(k A:Int)(nm:Y11)(op:Int)(ks:List E)(p:Nat)(u:Heap),gL 1 3 r p (E.mk k A nm op ks)->GN (j.set (jZ h2) (IObj.cells (List.take 12 O++ [IV.vslice none 0 l.length 17 (aY l)]++List.drop 13 O))) xO p w u->aE u (jZ h2) fun X=>aD (Nat.ble 18 X.length) (aE (u.set (jZ h2) (IObj.cells (List.take 13 X++(c5Y k op A nm ks)++List.drop 18 X))) (jZ h2) fun Y=>aD (true&&Nat.ble 18 Y.length) (aD (aM [IV.agg (c5T n Y)]) (Q (.agg (c5T n Y)) h))))))))))):=by kernel_rfl
theorem d3G: ∀xs h Q,c5P xs h Q->aO env 34 xs h Q:=by
 intro xs h Q A;unfold c5P at A;split at A
 ·rename_i e0 n0 c0;obtain⟨l,⟨rfl,rfl⟩,hb,A⟩:=A;refine aN (c0V) (d6K l e0 h Q) ?_;delta a6P c5Q a6Q xO a6R a6S c5R a6T a6U c5S c5T jZ c5U c5V c5W c5X c5Y wW iI;have a0:l.length<=9223372036854775807\/True:= .inr trivial;refine aA (by simp only [aM,bI,bT,AT]) (aA (by simp only [BN,AF,decide_eq_true_eq];split<;>omega) ?_);obtain⟨K,hK,a1,a2⟩: ∃K:Nat,(Int.toNat (if(60:Int)< (l.length:Int)then 60 else(l.length:Int))-0)=K/\K<=60/\K<=l.length:=⟨_,rfl,by split<;>omega,by split<;>omega⟩
  rw [hK];refine aC (fun c=>?_) (fun c=>aA (by rw [AM];omega) ?_)
  ·have D:RN (Heap.mk (PT.node PT.nil (some (IObj.cells [IV.vslice none 1 0 1 [],IV.int .i64 0])) PT.nil) (0+1)) 0 0 0:=⟨Nat.one_pos,none,1,[],fun x hx=>(by cases hx),rfl,rfl⟩;refine⟨0,0,D,fun n h2 hn hz g1 g2=>⟨⟨IN,IN⟩,⟨IN,IN⟩,10,0-1,0,⟨g1.push,IN,IN⟩,.inl rfl,⟨IN,IN,IN⟩,⟨IN,IN⟩,fun V r1 z h3 G L=>?_⟩⟩;have g:h2.next≠0:=DG g1.1;have Y:=L.2.2 h2.next (AQ _) g;rw [aU]at Y;have l3:h2.next<h3.next:=AI (AQ _) L.2.1;refine aB Y (aA rfl ⟨5,r1,z,L.1.set g,.inl rfl,⟨IN,IN,IN⟩,fun k n1 nm op ks r2 h4 p2 O=>?_⟩);have Z:=O.2.2 h2.next l3 g;rw [aH]at Z;have l4:h2.next<h4.next:=AI l3 O.2.1;have u:0<=z/\z<=10:=by have:=G.2.2.2.1;omega
   refine aB Z (aA rfl ⟨10,r2,z,⟨O.1.set g,u⟩,.inr rfl,⟨IN,IN,IN⟩,⟨IN,IN⟩,fun X r3 w3 h5 p3 T=>?_⟩);have e3:=T.2.2 h2.next l4 g;rw [aH]at e3;have l5:h2.next<h5.next:=AI l4 T.2.1;refine aB e3 (aA rfl ⟨5,r3,w3,T.1.set g,.inr rfl,⟨IN,IN,IN⟩,fun k2 n2 j p i r4 h6 p4 q4=>?_⟩);have e4:=q4.2.2 h2.next l5 g;rw [aH]at e4;refine aB e4 (aA rfl (aB aH (aA rfl ?_)));have m0:=CM n (show(4:Int)≠0 by decide);have m1:=CI n (show(0:Int)<4 by decide);have m2:=CM (IntKind.i64.wrap (Int.tdiv n 4)) (show(4:Int)≠0 by decide);have m3:=CI (IntKind.i64.wrap (Int.tdiv n 4)) (show(0:Int)<4 by decide);have pp:PP (IntKind.i64.wrap (1+n%4)) (IntKind.i64.wrap (1+IntKind.i64.wrap (Int.tdiv n 4)%4)) V (.mk k n1 nm op ks) X (.mk k2 n2 j p i):=by
    refine⟨⟨?_,?_,?_,?_⟩,GB.mk0 G p2 IM (GR _),GB.mk0 p3.dp0 p4 (by have:=G.2.2.2.2.2.2;have:=p2.2.2.1;omega) u.1⟩
    all_goals rw [AB _ IM];omega
   exact aA (PP.pure pp) (A _ _ V (.mk k n1 nm op ks) X (.mk k2 n2 j p i) pp)
  ·have D:RN (Heap.mk (PT.node (PT.node PT.nil (some (IObj.cells [IV.vslice (some 0) ((0+K)*1) (0+K) 1 ([]++List.take (K*1) (List.drop 0 (List.map (IV.int .i64) l))),IV.int .i64 0])) PT.nil) (some (IObj.tip ((0+K)*1))) PT.nil) (0+1+1)) (0+1) K 0:=by
    refine⟨AQ _,some 0,(0+K)*1,l.take K,fun x hx=>hb x (EM hx),by rw [AW];omega,?_⟩;show(IObj.cells _:IObj)=_;rw [AW,show min K l.length=K by omega,EQ];simp
   refine⟨K,0,D,fun n h2 hn hz g1 g2=>⟨⟨IN,IN⟩,⟨IN,IN⟩,10,K-1,0,⟨g1.push,IN,IN⟩,.inl rfl,⟨IN,IN,IN⟩,⟨IN,IN⟩,fun V r1 z h3 G L=>?_⟩⟩;have g:h2.next≠0+1:=DG g1.1;have Y:=L.2.2 h2.next (AQ _) g;rw [aU]at Y;have l3:h2.next<h3.next:=AI (AQ _) L.2.1;refine aB Y (aA rfl ⟨5,r1,z,L.1.set g,.inl rfl,⟨IN,IN,IN⟩,fun k n1 nm op ks r2 h4 p2 O=>?_⟩);have Z:=O.2.2 h2.next l3 g;rw [aH]at Z;have l4:h2.next<h4.next:=AI l3 O.2.1;have u:0<=z/\z<=10:=by have:=G.2.2.2.1;omega
   refine aB Z (aA rfl ⟨10,r2,z,⟨O.1.set g,u⟩,.inr rfl,⟨IN,IN,IN⟩,⟨IN,IN⟩,fun X r3 w3 h5 p3 T=>?_⟩);have e3:=T.2.2 h2.next l4 g;rw [aH]at e3;have l5:h2.next<h5.next:=AI l4 T.2.1;refine aB e3 (aA rfl ⟨5,r3,w3,T.1.set g,.inr rfl,⟨IN,IN,IN⟩,fun k2 n2 j p i r4 h6 p4 q4=>?_⟩);have e4:=q4.2.2 h2.next l5 g;rw [aH]at e4;refine aB e4 (aA rfl (aB aH (aA rfl ?_)));have m0:=CM n (show(4:Int)≠0 by decide);have m1:=CI n (show(0:Int)<4 by decide);have m2:=CM (IntKind.i64.wrap (Int.tdiv n 4)) (show(4:Int)≠0 by decide);have m3:=CI (IntKind.i64.wrap (Int.tdiv n 4)) (show(0:Int)<4 by decide);have pp:PP (IntKind.i64.wrap (1+n%4)) (IntKind.i64.wrap (1+IntKind.i64.wrap (Int.tdiv n 4)%4)) V (.mk k n1 nm op ks) X (.mk k2 n2 j p i):=by
    refine⟨⟨?_,?_,?_,?_⟩,GB.mk0 G p2 IM (GR _),GB.mk0 p3.dp0 p4 (by have:=G.2.2.2.2.2.2;have:=p2.2.2.1;omega) u.1⟩
    all_goals rw [AB _ IM];omega
   exact aA (PP.pure pp) (A _ _ V (.mk k n1 nm op ks) X (.mk k2 n2 j p i) pp)
 ·exact A.elim
def c5Z:=aT 34 c5P c5O
theorem c0W:aP env c5Z:=aF d3G (c0V)
end Go.Proofs.YtkonebkblgemkaaGreat
end
end
