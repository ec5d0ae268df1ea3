/-
  Texts of this proof, one after the other.
  Conditions: none.
-/
import Derived.Test.YthimicfahhgpcaaGreatW9
set_option linter.unusedVariables false
set_option linter.unusedSimpArgs false
set_option maxRecDepth 100000
set_option maxHeartbeats 4000000
noncomputable section
variable{i j k m n b q:Nat}{x y z u w:Int}{h g:Go.Pv.Heap}{d l:List Go.Pv.IV}{A B C:List Go.M15.Nd}{K L:Y12}{p s t:Go.Pv.IV}{F:List Go.M10.E}{D:Go.Pv.Meta}{V W:List Go.Value}{U:Go.TypeId}{o:Bool}{X Y:Go.Value}{r e:Y11}{O:Go.Oper}{N:Y10}{H:Array Go.Value}
section
namespace Go.Proofs.YthimicfahhgpcaaGreat
open Go.Pv Go.M15 Go.M10
theorem sY{l:Y15}{i o:Nat}{K:Y10->Nat->Nat->Y14->Prop}(h:i<l.length)(p:o=i*3+2)(m:K none 0 l[i].ks.length (l[i].ks.map (IV.int .i64))):aZ 1 (l.flatMap cN) o K:=by
 subst p;have g:=uZ (j:=2) h JF;unfold aZ
 simp only [g];exact m
theorem Co: ∀{l:Y15}{n:Nat},(l.flatMap cN).take (n*3)=(l.take n).flatMap cN
 | [],n=>JH
 |x::l,0=>JH
 |x::l,n+1=>by
  rw [BD,FM,BD,FG,show(n+1)*3- (cN x).length=n*3 by show(n+1)*3-3=_;omega,Co,AM (by show 3<=_;omega)]
theorem cX{k:IntKind}{l:Y12}{i o:Nat}{K:Int->Prop}(h:i<l.length)(j:o=i)(g:K l[i]):aG k (l.map (IV.int k)) o K:=by
 subst j;exact bT h g
def Qi(xs:Y14)(h:Heap)(K:KT):Prop:=match xs with
 | [.int .i64 n,.int .i64 m]=>(0<m/\m<4611686018427387904)/\K (.int .i64 (n%m)) h
 |_=>False
theorem d2N(n m:Int)(h:Heap)(Q:KT):dF (aR noC) env 15 cS bK bK [.int .i64 n,.int .i64 m] h Q=(
 aC (!m==0) (aI (decide (Int.tmod n m<0)) (Q (.int .i64 (wW (Int.tmod n m+m))) h) (Q (.int .i64 (Int.tmod n m)) h))):=by kernel_rfl
theorem d0Z: ∀xs h Q,Qi xs h Q->aL env 15 xs h Q:=by
 intro xs h Q g;unfold Qi at g;split at g
 ·rename_i n m;refine aN (gX env) (d2N n m h Q) ?_;delta wW;obtain⟨l,g⟩:=g;have h1:=GR n (JB m);have p:=Go.M13.wN n m l.1;refine aA (by simp;omega) (aB (fun j=>cD g ?_) (fun j=>cD g ?_))
  ·simp only [decide_eq_true_eq]at j;rw [AF _ JF];congr 1;omega
  ·simp only [decide_eq_false_iff_not]at j;congr 1;omega
 ·exact g.elim
def Oe:=aV 15 Qi noC
theorem Wk:aO env Oe:=aF d0Z (gX env)
def Dv(xs:Y14)(h:Heap)(K:KT):Prop:=match xs with
 | [.int .i64 op]=>K (.tuple [.int .i64 (ar op),.bool (mC op)]) h
 |_=>False
def d4A(op:Int)(h:Heap)(Q:KT):=aI (op==23) (Q (.tuple [.int .i64 2,IV.bool true]) h) (aI (op==27) (Q (.tuple [.int .i64 2,IV.bool true]) h) (aI (op==29) (Q (.tuple [.int .i64 2,IV.bool true]) h) (aI (op==22) (Q (.tuple [.int .i64 3,IV.bool true]) h) (aI (op==28) (Q (.tuple [.int .i64 3,IV.bool true]) h) (aI (op
 ==30) (Q (.tuple [.int .i64 (-1),IV.bool true]) h) (aI (op==31) (Q (.tuple [.int .i64 (-1),IV.bool true]) h) (Q (.tuple [.int .i64 0,IV.bool false]) h)))))))
def b5B:=IV.tuple [.int .i64 0,IV.bool true]
def b5C:=IV.tuple [.int .i64 1,IV.bool true]
theorem d1Z(op:Int)(h:Heap)(Q:KT):dF (aR Oe) env 46 cS bK bK [.int .i64 op] h Q=(
 aI (op==1) (Q b5B h) (aI (op==2) (Q b5B h) (aI (op==3) (Q b5B h) (aI (op==26) (Q b5B h) (aI (op==20) (Q b5C h) (aI (op==21) (Q b5C h) (aI (op==24) (Q b5C h) (aI (op==25) (Q b5C h) (aI (decide (op>=4)) (aI (decide (op<=19)) (Q (.tuple [.int .i64 2,IV.bool true]) h) (d4A op h Q)) (d4A op h Q)))))))))):=by kernel_rfl
theorem b0U: ∀xs h Q,Dv xs h Q->aL env 46 xs h Q:=by
 intro xs h Q g;unfold Dv at g;split at g
 ·rename_i op;refine aN (Wk) (d1Z op h Q) ?_;delta d4A b5B b5C
  repeat' (first|refine aA ?_ ?_|refine aB (fun _=>?_) (fun _=>?_)|refine And.intro ?_ ?_)
  all_goals first|assumption|omega| (refine cD g ?_;simp only [IV.agg.injEq,IV.tuple.injEq,IV.int.injEq,IV.bool.injEq,BI,true_and,and_true];grind [ar,mC])
 ·exact g.elim
def Nt:=aV 46 Dv Oe
theorem Vz:aO env Nt:=aF b0U (Wk)
def Ee(xs:Y14)(h:Heap)(K:KT):Prop:=match xs with
 | [.int .i64 op]=>K (.int .i64 (B1 op)) h
 |_=>False
theorem c2D(op:Int)(h:Heap)(Q:KT):dF (aR Nt) env 217 cS bK bK [.int .i64 op] h Q=(
 aI (op==2) (Q (.int .i64 5) h) (aI (op==3) (Q (.int .i64 255) h) (aI (op==23) (Q (.int .i64 3) h) (aI (op==28) (Q (.int .i64 3) h) (aI (op==27) (Q (.int .i64 1000016) h) (aI (op==30) (Q (.int .i64 7) h) (aI (op==31) (Q (.int .i64 15) h) (aI (op==25) (Q (.int .i64 15) h) (Q (.int .i64 (-1)) h))))))))):=by kernel_rfl
theorem c0W: ∀xs h Q,Ee xs h Q->aL env 217 xs h Q:=by
 intro xs h Q g;unfold Ee at g;split at g
 ·rename_i op;refine aN (Vz) (c2D op h Q) ?_
  repeat' (first|refine aA ?_ ?_|refine aB (fun _=>?_) (fun _=>?_)|refine And.intro ?_ ?_)
  all_goals first|assumption|omega| (refine cD g ?_;simp only [IV.agg.injEq,IV.tuple.injEq,IV.int.injEq,IV.bool.injEq,BI,true_and,and_true];grind [B1])
 ·exact g.elim
def Cl:=aV 217 Ee Nt
theorem Ji:aO env Cl:=aF c0W (Vz)
def Qn(xs:Y14)(h:Heap)(K:KT):Prop:=match xs with
 | [.int .i64 op,.int .i64 n]=>K (.bool (iH op n)) h
 |_=>False
theorem d2U(op n:Int)(h:Heap)(Q:KT):dF (aR Cl) env 143 cS bK bK [.int .i64 op,.int .i64 n] h Q=(
 aI (op==1) (Q (.bool true) h) (aI (decide (B1 op<0)) (Q (.bool (n==0)) h) (aI (decide (n>=0)) (aI (decide (n<=B1 op)) (aI (op !=27) (Q (.bool true) h) (Q (.bool (decide (n>0))) h)) (Q (.bool false) h)) (Q (.bool false) h)))):=by kernel_rfl
theorem d1E: ∀xs h Q,Qn xs h Q->aL env 143 xs h Q:=by
 intro xs h Q g;unfold Qn at g;split at g
 ·rename_i op n;refine aN (Ji) (d2U op n h Q) ?_
  repeat' (first|refine aA ?_ ?_|refine aB (fun _=>?_) (fun _=>?_)|refine And.intro ?_ ?_)
  all_goals first|assumption|omega| (refine cD g ?_;simp only [IV.agg.injEq,IV.tuple.injEq,IV.int.injEq,IV.bool.injEq,BI,true_and,and_true];grind [iH])
 ·exact g.elim
def Oj:=aV 143 Qn Cl
theorem Wp:aO env Oj:=aF d1E (Ji)
def Er(xs:Y14)(h:Heap)(K:KT):Prop:=match xs with
 | [.bool b,.int .i64 n]=>K (.int .i64 (if b=true then n else 0)) h
 |_=>False
theorem c2J(b:Bool)(n:Int)(h:Heap)(Q:KT):dF (aR Oj) env 144 cS bK bK [.bool b,.int .i64 n] h Q=(
 aI b (Q (.int .i64 n) h) (Q (.int .i64 0) h)):=by kernel_rfl
theorem c1F: ∀xs h Q,Er xs h Q->aL env 144 xs h Q:=by
 intro xs h Q g;unfold Er at g;split at g
 ·rename_i b n;refine aN (Wp) (c2J b n h Q) ?_;refine aB (fun c=>?_) (fun c=>?_)
  ·rw [if_pos c]at g;exact g
  ·rw [if_neg (by rw [c];exact EI)]at g;exact g
 ·exact g.elim
def Cw:=aV 144 Er Oj
theorem Jp:aO env Cw:=aF c1F (Wp)
def d5Q(k:Y12):Inv':=eA Nat (fun i=>[(0,.v (.vslice none 0 (k).length 1 ((k).map (IV.int .i64)))),(3,.v (.int .i64 i))]) (fun _=>[]) (fun _=>Heap.empty)
 (fun i=>i<=k.length/\(k.drop i).all (fun x=>decide (x=1))=k.all (fun x=>decide (x=1))) (fun i=>k.length-i)
def a6O(xs:Y14)(h:Heap)(K:KT):Prop:=match xs with
 | [.vslice none e1 n1 1 c1]=> ∃k:Y12,(n1=k.length/\c1=k.map (IV.int .i64))/\k.length<=1000000000/\K (.bool (k.all fun x=>decide (x=1))) h
 |_=>False
theorem d8N(k:Y12)(j:Nat)(h:Heap)(Q:KT):dF (aR Cw) env 145 cS (oE 3 (d5Q k)) bK [.vslice none j (k).length 1 ((k).map (IV.int .i64))] h Q=(
 aC (aP [IV.vslice none 0 k.length 1 (List.map (IV.int .i64) k)]) ((∃(x:Nat),some (TV.v (.vslice none 0 k.length 1 (List.map (IV.int .i64) k)))=some (TV.v (.vslice none 0 k.length 1 (List.map (IV.int .i64) k)))/\tI 0=tI (x:Int)/\Heap.mk PT.nil 0=Heap.mk PT.nil 0/\(x<=k.length/\(List.all (List.drop x k) fun x=>decide (x=1))=List.all k fun x=>decide (x=1))/\True)/\∀(x:Nat)(b:FF),(x<=k.length/\(List.all (List.drop x k) fun x=>decide (x=1))=List.all k fun x=>decide (x=1))->aI (decide ((x:Int)< (k.length:Int))) (aC (decide (0<=(x:Int)) &&decide ((x:Int)< (k.length:Int))) (aG .i64 (List.map (IV.int .i64) k) ((x:Int).toNat*1) fun l=>aI (l !=1) (Q (.bool false) h) (∃(g:Nat),some (TV.v (.vslice none 0 k.length 1 (List.map (IV.int .i64) k)))=some (TV.v (.vslice none 0 k.length 1 (List.map (IV.int .i64) k)))/\tI (wW ((x:Int)+1))=tI (g:Int)/\Heap.mk PT.nil 0=Heap.mk PT.nil 0/\(g<=k.length/\(List.all (List.drop g k) fun x=>decide (x=1))=List.all k fun x=>decide (x=1))/\k.length-g<k.length-x))) (Q (.bool true) h))):=by kernel_rfl
theorem d6X: ∀xs h Q,a6O xs h Q->aL env 145 xs h Q:=by
 intro xs h Q g;unfold a6O at g;split at g
 ·rename_i m y c1;obtain⟨k,⟨rfl,rfl⟩,r,g⟩:=g;refine aN (Jp) (d8N k m h Q) ?_;delta tI wW;have q: ∀x:Nat,(x:Int).toNat=x:=AK
  refine aA (by simp only [aP,bG,bC,AL]) ⟨⟨0,JJ,JJ,JJ,⟨BE _,rfl⟩,trivial⟩,?_⟩;rintro i _ ⟨p,j⟩
  try dsimp only at p j⊢
  refine aB (fun c=>?_) (fun c=>?_)
  ·rw [decide_eq_true_eq]at c;have l:i<k.length:=JF;simp only [q];rw [AO];rw [List.drop_eq_getElem_cons l,EL]at j;refine aA (by simp;omega) (bT l (aB (fun c1=>?_) (fun c1=>⟨i+1,JJ,?_,JJ,⟨l,?_⟩,by(try dsimp only);omega⟩)))
   ·rw [decide_eq_false (bne_iff_ne.1 c1),BM]at j;rw [<-j]at g;exact g
   ·rw [AF _ JF];rfl
   ·rw [bne_eq_false_iff_eq]at c1;rw [decide_eq_true c1,BC]at j;exact j
  ·rw [decide_eq_false_iff_not]at c;rw [List.drop_eq_nil_of_le JF]at j;rw [<-j]at g;exact g
 ·exact g.elim
def a3U:=aV 145 a6O Cw
theorem a8P:aO env a3U:=aF d6X (Jp)
def Qc(xs:Y14)(h:Heap)(K:KT):Prop:=match xs with
 | [.vslice none e0 n0 3 c0,.agg [.int .i64 op,.int .i64 im,.vslice none e1 n1 1 c1],.vslice none e2 n2 1 c2]=> ∃(l:Y15)(ks k:Y12),(n0=l.length/\c0=l.flatMap cN)/\(n1=ks.length/\c1=ks.map (IV.int .i64))/\(n2=k.length/\c2=k.map (IV.int .i64))/\((op≠25/\op≠30/\op≠31)/\ks.length=k.length/\k.length<=1000000000)/\K (.int .i64 (fI op im k)) h
 |_=>False
def cJ(k:Y12):=List.map (IV.int .i64) k
def tM(k:Y12):=Int.tdiv (k.length:Int) 2
def b2U(k:Y12)(h:Heap)(Q:KT):=aC (decide (0<=wW (wW (tM k)+2)) && (decide (wW (wW (tM k)+2)<=(k.length:Int)) &&decide ((k.length:Int)<=(k.length:Int)))) (∃(g:Y12),((k.length:Int).toNat- (wW (wW (tM k)+2)).toNat=g.length/\List.take (((k.length:Int).toNat-Int.toNat
 (wW (wW (tM k)+2)))*1) (List.drop ((wW (wW (tM k)+2)).toNat*1) (cJ k))=List.map (IV.int .i64) g)/\g.length<=1000000000/\Q (.int .i64 (if(List.all g fun x=>decide (x=1))=true then(3:Int)else(0:Int))) h)
def cI:=iI 0
def yL(k:Y12):=wW (tM k)+1
def kK(k:Y12):=true&&decide (0< (k.length:Int))
def nU(k:Y12):=true&&decide (1< (k.length:Int))
def b2V(k:Y12)(h:Heap)(Q:KT):=aC (true&& (decide (1<=(k.length:Int)) &&decide ((k.length:Int)<=(k.length:Int)))) (∃(g:Y12),((k.length:Int).toNat-1=g.length/\List.take (((k.length:Int).toNat-1)*1) (List.drop 1 (cJ k))=List.map (IV.int .i64) g)/\g.length<=1000000000/\Q
 (.int .i64 (if(List.all g fun x=>decide (x=1))=true then(2:Int)else(0:Int))) h)
def b2W(k:Y12)(h:Heap)(Q:KT):=(∃(g:Y12),(k.length=g.length/\List.map (IV.int .i64) k=List.map (IV.int .i64) g)/\g.length<=1000000000/\Q (.int .i64 (if(List.all g fun x=>decide (x=1))=true then(1:Int)else(0:Int))) h)
abbrev b2X(k g:Y12):=(wW (yL k)).toNat-1=g.length/\List.take (((wW (yL k)).toNat-1)*1) (List.drop 1 (cJ k))=List.map (IV.int .i64) g
def Lg(k:Y12):=true&&decide (2< (k.length:Int))
def b2Y(k:Y12):=true&& (decide (1<=wW (yL k)) &&decide (wW (yL k)<=(k.length:Int)))
def b2Z(k:Y12):=decide (0<=wW (yL k)) &&decide (wW (yL k)< (k.length:Int))
def b3A(im:Int):=iI (wW ((if(im==0)=true then(1:Int)else(0:Int))+1))
def Lh:=iI 2
theorem d2I(l:Y15)(op im:Int)(ks k:Y12)(e0 e1 e2:Nat)(h:Heap)(Q:KT):dF (aR a3U) env 100 cS bK bK [.vslice none e0 (l).length 3 ((l).flatMap cN),.agg [.int .i64 op,.int .i64 im,.vslice none e1 ks.length 1 (ks.map (IV.int .i64))],.vslice none e2 (k).length 1 ((k).map (IV.int .i64))] h Q=(
 aC (aP [IV.vslice none 0 l.length 3 (List.flatMap cN l),IV.agg [.int .i64 op,iI im,IV.vslice none 0 ks.length 1 (List.map (IV.int .i64) ks)],IV.vslice none 0 k.length 1 (cJ k)]) (aI (!mC op) (Q cI h) (aI (decide (ar op>=0)) (aI ((ks.length:Int) !=ar op) (Q cI h) (aI (!iH op im) (Q cI h) (aI (op==3) (aI (Int.tmod im 16==0) (Q Lh h) (Q (.int .i64 1) h)) (aI (op==26) (Q Lh h) (aI (op==(22:Int)) (aC (kK k) (aG .i64 (cJ k) 0 fun n0=>aI (n0 !=1) (Q cI h) (aC (nU k) (aG .i64 (cJ k) 1 fun n1=>aC (Lg k) (aG .i64 (cJ k) 2 fun n2=>aI (n1 !=n2) (Q cI h) (aC (nU k) (aG .i64 (cJ k) 1 fun n3=>aI (n3==3) (Q cI h) (aC (nU k) (aG .i64 (cJ k) 1 fun n4=>Q (.int .i64 n4) h))))))))) (aI (op==23) (aC (kK k) (aG .i64 (cJ k) 0 fun n5=>aI (n5==2) (aC (nU k) (aG .i64 (cJ k) 1 fun n6=>Q (.int .i64 (if(n6==1)=true then(1:Int)else(0:Int))) h)) (Q cI h))) (aI (op==24) (aC (kK k) (aG .i64 (cJ k) 0 fun n7=>Q (.int .i64 (if(n7==2)=true then(1:Int)else(0:Int))) h)) (aI (op==25) (aC (kK k) (aG .i64 (cJ k) 0 fun n8=>aI (n8 !=3) (Q cI h) (aC (true&&decide (0< (ks.length:Int))) (aG .i64 (List.map (IV.int .i64) ks) 0 fun n9=>aC (decide (0<=n9) &&decide (n9< (l.length:Int))) (aZ 1 (List.flatMap cN l) (n9.toNat*3+2) fun(b9:Y10)(b6 m:Nat)(b4:Y14)=>aI (decide (im>=wW (Int.tdiv (m:Int) 2))) (Q cI h) (Q (b3A im) h)))))) (aI (op==27) (aC (kK k) (aG .i64 (cJ k) 0 fun q=>aI (q==2) (aC (nU k) (aG .i64 (cJ k) 1 fun r=>Q (.int .i64 (if(r==1)=true then(2:Int)else(0:Int))) h)) (Q cI h))) (aI (op==29) (aC (kK k) (aG .i64 (cJ k) 0 fun y=>aI (y==2) (aC (nU k) (aG .i64 (cJ k) 1 fun z=>Q (.int .i64 (if(z==1)=true then(2:Int)else(0:Int))) h)) (Q cI h))) (aI (op==28) (aC (kK k) (aG .i64 (cJ k) 0 fun A=>aI (A==2) (aC (nU k) (aG .i64 (cJ k) 1 fun D=>aI (D==1) (aC (Lg k) (aG .i64 (cJ k) 2 fun G=>Q (.int .i64 (if(G==1)=true then(2:Int)else(0:Int))) h)) (Q cI h))) (Q cI h))) (aI (op==30) (aI (decide ((k.length:Int)>=1)) (aI (decide ((k.length:Int)<=7)) (aC (kK k) (aG .i64 (cJ k) 0 fun K=>aI (K==2) (b2V k h Q) (Q cI h))) (Q cI h)) (Q cI h)) (aI (op==31) (aI (Int.tmod (k.length:Int) 2==1) (aI (decide (wW (tM k)>=1)) (aI (decide (wW (tM k)<=16)) (aC (kK k) (aG .i64 (cJ k) 0 fun L=>aI (L==2) (aC (b2Y k) (∃(g:Y12),(b2X k g)/\g.length<=1000000000/\aI (List.all g fun x=>decide (x=1)) (aC (b2Z k) (aG .i64 (cJ k) ((wW (yL k)).toNat*1) fun O=>aI (O==2) (b2U k h Q) (Q cI h))) (Q cI h))) (Q cI h))) (Q cI h)) (Q cI h)) (Q cI h)) (b2W k h Q)))))))))))))) (aI (!iH op im) (Q cI h) (aI (op==3) (aI (Int.tmod im 16==0) (Q Lh h) (Q (.int .i64 1) h)) (aI (op==26) (Q Lh h) (aI (op==22) (aC (kK k) (aG .i64 (cJ k) 0 fun R=>aI (R !=1) (Q cI h) (aC (nU k) (aG .i64 (cJ k) 1 fun V=>aC (Lg k) (aG .i64 (cJ k) 2 fun X=>aI (V !=X) (Q cI h) (aC (nU k) (aG .i64 (cJ k) 1 fun Y=>aI (Y==3) (Q cI h) (aC (nU k) (aG .i64 (cJ k) 1 fun(Z:Int)=>Q (.int .i64 Z) h))))))))) (aI (op==23) (aC (kK k) (aG .i64 (cJ k) 0 fun a0=>aI (a0==2) (aC (nU k) (aG .i64 (cJ k) 1 fun a1=>Q (.int .i64 (if(a1==1)=true then(1:Int)else(0:Int))) h)) (Q cI h))) (aI (op==24) (aC (kK k) (aG .i64 (cJ k) 0 fun a2=>Q (.int .i64 (if(a2==2)=true then(1:Int)else(0:Int))) h)) (aI (op==25) (aC (kK k) (aG .i64 (cJ k) 0 fun(a3:Int)=>aI (a3 !=3) (Q cI h) (aC (true&&decide (0< (ks.length:Int))) (aG .i64 (List.map (IV.int .i64) ks) 0 fun j=>aC (decide (0<=j) &&decide (j< (l.length:Int))) (aZ 1 (List.flatMap cN l) (j.toNat*3+2) fun(c0:Y10)(b7 p:Nat)(b5:Y14)=>aI (decide (im>=wW (Int.tdiv (p:Int) 2))) (Q cI h) (Q (b3A im) h)))))) (aI (op==27) (aC (kK k) (aG .i64 (cJ k) 0 fun(a4:Int)=>aI (a4==2) (aC (nU k) (aG .i64 (cJ k) 1 fun a5=>Q (.int .i64 (if(a5==1)=true then(2:Int)else(0:Int))) h)) (Q cI h))) (aI (op==29) (aC (kK k) (aG .i64 (cJ k) 0 fun(a6:Int)=>aI (a6==2) (aC (nU k) (aG .i64 (cJ k) 1 fun a7=>Q (.int .i64 (if(a7==1)=true then(2:Int)else(0:Int))) h)) (Q cI h))) (aI (op==28) (aC (kK k) (aG .i64 (cJ k) 0 fun a8=>aI (a8==2) (aC (nU k) (aG .i64 (cJ k) 1 fun a9=>aI (a9==1) (aC (Lg k) (aG .i64 (cJ k) 2 fun b0=>Q (.int .i64 (if(b0==1)=true then(2:Int)else(0:Int))) h)) (Q cI h))) (Q cI h))) (aI (op==30) (aI (decide ((k.length:Int)>=1)) (aI (decide ((k.length:Int)<=7)) (aC (kK k) (aG .i64 (cJ k) 0 fun b1=>aI (b1==2) (b2V k h Q) (Q cI h))) (Q cI h)) (Q cI h)) (aI (op==(31:Int)) (aI (Int.tmod (k.length:Int) 2==1) (aI (decide (wW (tM k)>=1)) (aI (decide (wW (tM k)<=16)) (aC (kK k) (aG .i64 (cJ k) 0 fun b2=>aI (b2==2) (aC (b2Y k) (∃(g:Y12),(b2X k g)/\g.length<=1000000000/\aI (List.all g fun x=>decide (x=1)) (aC (b2Z k) (aG .i64 (cJ k) ((wW (yL k)).toNat*1) fun b3=>aI (b3==2) (b2U k h Q) (Q cI h))) (Q cI h))) (Q cI h))) (Q cI h)) (Q cI h)) (Q cI h)) (b2W k h Q)))))))))))))))):=by kernel_rfl
theorem b1A: ∀xs h Q,Qc xs h Q->aL env 100 xs h Q:=by
 intro xs h Q g;unfold Qc at g;split at g
 ·rename_i e0 n0 q op im X n1 c1 Y n2 c2;obtain⟨l,ks,k,⟨rfl,rfl⟩,⟨rfl,rfl⟩,⟨rfl,rfl⟩,Z,g⟩:=g;refine aN (a8P) (d2I l op im ks k e0 X Y h Q) ?_;delta b2U cI yL cJ kK nU b2V b2W b2X Lg b2Y b2Z b3A tM Lh wW iI;obtain⟨m,p,O⟩:=Z;refine aA (by simp only [aP,bG,bC,bR,AL]) (aB (fun c=>?_) (fun q=>?_))
  ·unfold fI at g;rw [if_pos (.inl (by simpa using c))]at g;exact g
  rw [BO]at q;have R:((k.length:Int)≠ar op\/iH op im=false)->Q (.int .i64 0) h:=fun e=>by
   unfold fI at g;rw [if_pos (.inr e)]at g;exact g
  have L:op≠30->op≠31->0<=ar op:=by unfold ar;repeat' split<;>omega
  refine aB (fun _=>?_) (fun c=>by rw [decide_eq_false_iff_not]at c;exact absurd (L m.2.1 m.2.2) JF);refine aB (fun c=>R (.inl (by rw [<-p];exact bne_iff_ne.1 c))) (fun c1=>aB (fun c=>R (.inr (by simpa using c))) (fun c2=>?_));rw [bne_eq_false_iff_eq,p]at c1;rw [BO]at c2;rw [Ai m q c1 c2]at g;have j: ∀{o:Int},(op==o)=false-> ¬op=o:=fun c=>by simpa using c
  refine aB (fun c=>?_) (fun V=>?_)
  ·have e:=beq_iff_eq.1 c;subst e;rw [if_pos rfl]at g;have hi:0<=im:=by
    unfold iH at c2;rw [decide_eq_true_eq]at c2;have:B1 3=255:=JG;omega
   rw [EM hi];refine aB (fun d=>?_) (fun d=>?_)
   ·rw [if_pos (beq_iff_eq.1 d)]at g;exact g
   ·rw [if_neg (by simpa using d)]at g;exact g
  rw [if_neg (j V)]at g;refine aB (fun c=>?_) (fun A=>?_)
  ·have e:=beq_iff_eq.1 c;rw [if_pos e]at g;exact g
  rw [if_neg (j A)]at g;refine aB (fun c=>?_) (fun r=>?_)
  ·have e:=beq_iff_eq.1 c;subst e;rw [if_pos rfl]at g;have h4:ar 22=3:=JG;have h3:k.length=3:=JF
   match k,h3 with
   | [a,b,c],_=>
    repeat' (first|refine aA JH ?_|refine bT JH ?_|refine aB (fun _=>?_) (fun _=>?_))
    all_goals
     refine cD g ?_;simp only [IV.int.injEq,true_and]
     simp_all
  rw [if_neg (j r)]at g;refine aB (fun c=>?_) (fun y=>?_)
  ·have e:=beq_iff_eq.1 c;subst e;rw [if_pos rfl]at g;have h4:ar 23=2:=JG;have h3:k.length=2:=JF
   match k,h3 with
   | [a,b],_=>
    repeat' (first|refine aA JH ?_|refine bT JH ?_|refine aB (fun _=>?_) (fun _=>?_))
    all_goals
     refine cD g ?_;simp only [IV.int.injEq,true_and]
     simp_all
  rw [if_neg (j y)]at g;refine aB (fun c=>?_) (fun z=>?_)
  ·have e:=beq_iff_eq.1 c;subst e;rw [if_pos rfl]at g;have h4:ar 24=1:=JG;have h3:k.length=1:=JF
   match k,h3 with
   | [a],_=>
    repeat' (first|refine aA JH ?_|refine bT JH ?_|refine aB (fun _=>?_) (fun _=>?_))
    all_goals
     refine cD g ?_;simp only [IV.int.injEq,true_and]
     simp_all
  rw [if_neg (j z)]at g;refine aB (fun c=>absurd (beq_iff_eq.1 c) m.1) (fun _=>aB (fun c=>?_) (fun D=>aB (fun c=>?_) (fun K=>?_)))
  ·have e:=beq_iff_eq.1 c;subst e;rw [if_pos (.inl rfl)]at g;have h4:ar 27=2:=JG;have h3:k.length=2:=JF
   match k,h3 with
   | [a,b],_=>
    repeat' (first|refine aA JH ?_|refine bT JH ?_|refine aB (fun _=>?_) (fun _=>?_))
    all_goals
     refine cD g ?_;simp only [IV.int.injEq,true_and]
     simp_all
  ·have e:=beq_iff_eq.1 c;subst e;rw [if_pos (.inr rfl)]at g;have h4:ar 29=2:=JG;have h3:k.length=2:=JF
   match k,h3 with
   | [a,b],_=>
    repeat' (first|refine aA JH ?_|refine bT JH ?_|refine aB (fun _=>?_) (fun _=>?_))
    all_goals
     refine cD g ?_;simp only [IV.int.injEq,true_and]
     simp_all
  rw [if_neg (fun e=>e.elim (j D) (j K))]at g;refine aB (fun c=>?_) (fun G=>?_)
  ·have e:=beq_iff_eq.1 c;subst e;rw [if_pos rfl]at g;have h4:ar 28=3:=JG;have h3:k.length=3:=JF
   match k,h3 with
   | [a,b,c],_=>
    repeat' (first|refine aA JH ?_|refine bT JH ?_|refine aB (fun _=>?_) (fun _=>?_))
    all_goals
     refine cD g ?_;simp only [IV.int.injEq,true_and]
     simp_all
  rw [if_neg (j G)]at g;exact aB (fun c=>absurd (beq_iff_eq.1 c) m.2.1) (fun _=>aB (fun c=>absurd (beq_iff_eq.1 c) m.2.2) (fun _=>⟨k,⟨rfl,rfl⟩,O,g⟩))
 ·exact g.elim
def Ob:=aV 100 Qc a3U
theorem Wh:aO env Ob:=aF b1A (a8P)
def O8(xs:Y14)(h:Heap)(K:KT):Prop:=match xs with
 | [.vslice none e0 n0 3 c0,.agg [.int .i64 31,.int .i64 im,.vslice none e1 n1 1 c1],.vslice none e2 n2 1 c2]=> ∃(l:Y15)(ks k:Y12),(n0=l.length/\c0=l.flatMap cN)/\(n1=ks.length/\c1=ks.map (IV.int .i64))/\(n2=k.length/\c2=k.map (IV.int .i64))/\(ks.length=k.length/\k.length<=1000000/\l.length<=1000000/\(∀q∈ks,0<=q/\q<l.length)/\(k=[3]->eK l ⟨31,im,ks⟩%2=1)/\∀n∈l,n.ks.length<=1000000)/\K (.int .i64 (bJ (eK l ⟨31,im,ks⟩) 31 im k)) h
 |_=>False
def Lb(k:Y12):=Int.tdiv (k.length:Int) 2
def F5(k:Y12):=wW (Lb k)+1
def F6:=iI 0
def Bp(k:Y12):=wW (Lb k)+2
def yK:=IV.int .i64
theorem b2I(l:Y15)(im:Int)(ks k:Y12)(e0 m p:Nat)(h:Heap)(Q:KT):dF (aR Ob) env 100 cS bK bK [.vslice none e0 (l).length 3 ((l).flatMap cN),.agg [.int .i64 31,.int .i64 im,.vslice none m ks.length 1 (ks.map (IV.int .i64))],.vslice none p (k).length 1 ((k).map (IV.int .i64))] h Q=(
 aC (aP [IV.vslice none 0 l.length 3 (List.flatMap cN l),IV.agg [.int .i64 31,iI im,IV.vslice none 0 ks.length 1 (List.map yK ks)],IV.vslice none 0 k.length 1 (List.map yK k)]) (aI (!iH 31 im) (Q F6 h) (aI (Int.tmod (k.length:Int) 2==1) (aI (decide (wW (Lb k)>=1)) (aI (decide (wW (Lb k)<=16)) (aC (true&&decide (0< (k.length:Int))) (aG .i64 (List.map yK k) 0 fun q=>aI (q==2) (aC (true&& (decide (1<=wW (F5 k)) &&decide (wW (F5 k)<=(k.length:Int)))) (∃(g:Y12),((wW (F5 k)).toNat-1=g.length/\List.take (((wW (F5 k)).toNat-1)*1) (List.drop 1 (List.map yK k))=List.map yK g)/\g.length<=1000000000/\aI (List.all g fun x=>decide (x=1)) (aC (decide (0<=wW (F5 k)) &&decide (wW (F5 k)< (k.length:Int))) (aG .i64 (List.map yK k) ((wW (F5 k)).toNat*1) fun r=>aI (r==2) (aC (decide (0<=wW (Bp k)) && (decide (wW (Bp k)<=(k.length:Int)) &&decide ((k.length:Int)<=(k.length:Int)))) (∃(j:Y12),((k.length:Int).toNat- (wW (Bp k)).toNat=j.length/\List.take (((k.length:Int).toNat- (wW (Bp k)).toNat)*1) (List.drop ((wW (Bp k)).toNat*1) (List.map yK k))=List.map yK j)/\j.length<=1000000000/\Q (.int .i64 (if(List.all j fun x=>decide (x=1))=true then(3:Int)else(0:Int))) h)) (Q F6 h))) (Q F6 h))) (Q F6 h))) (Q F6 h)) (Q F6 h)) (Q F6 h)))):=by kernel_rfl
theorem Kn: ∀xs h Q,O8 xs h Q->aL env 100 xs h Q:=by
 intro xs h Q g;unfold O8 at g;split at g
 ·rename_i e0 n0 c0 im X n1 c1 Y n2 c2;obtain⟨l,ks,k,⟨rfl,rfl⟩,⟨rfl,rfl⟩,⟨rfl,rfl⟩,Z,g⟩:=g;refine aN (Wh) (b2I l im ks k e0 X Y h Q) ?_;delta Lb F5 F6 Bp yK wW iI;have tn: ∀x:Nat,(x:Int).toNat=x:=AK
  obtain⟨a0,a1,a2,a3,L,_⟩:=Z;have m: ¬ (sI k=true/\iH 31 im=true)->Q (.int .i64 0) h:=fun e=>by
   unfold bJ at g;rw [if_pos rfl,if_neg e]at g;exact g
  have ht:IntKind.i64.wrap (Int.tdiv (k.length:Int) 2)=((k.length/2:Nat):Int):=by
   rw [DA JF,AF _ JF];omega
  have hm:Int.tmod (k.length:Int) 2=((k.length%2:Nat):Int):=by
   rw [EM JF];omega
  have j:=fun q:sI k=true=>c9P q
  have p:=fun q:sI k=true=>pN q
  rw [ht,hm];generalize hM:k.length/2=M at*
  have w1:IntKind.i64.wrap ((M:Int)+1)=((M+1:Nat):Int):=by rw [AF _ JF];rfl
  have w2:IntKind.i64.wrap ((M:Int)+2)=((M+2:Nat):Int):=by rw [AF _ JF];rfl
  rw [w1,w2];simp only [tn,AO];refine aA (by simp only [aP,bG,bC,bR,AL]) (aB (fun c=>m (fun e=>by rw [e.2]at c;cases c)) (fun V=>aB (fun c1=>?_) (fun c=>m (fun e=>?_))))
  case refine_2=>
   rw [beq_eq_false_iff_ne]at c;have:=(p e.1).1;omega
  rw [beq_iff_eq]at c1;refine aB (fun c2=>?_) (fun c=>m (fun e=>by rw [decide_eq_false_iff_not]at c;have:=p e.1;omega));refine aB (fun O=>?_) (fun c=>m (fun e=>by rw [decide_eq_false_iff_not]at c;have:=p e.1;omega));rw [decide_eq_true_eq]at c2 O;have r:k.length=2*M+1:=JF;have A:0<k.length:=JF;have D:M+1<k.length:=JF;refine aA (by simp;omega) (cX A rfl (aB (fun G=>?_) (fun c=>m (fun e=>?_))))
  case refine_2=>
   rw [beq_eq_false_iff_ne]at c;have:=(j e.1).1;rw [AA A,AB]at this;exact c this
  rw [beq_iff_eq]at G;refine aA (by simp;omega) ⟨(k.drop 1).take M,⟨by rw [AR,DM];omega,by rw [show M+1-1=M by omega,HI,FL]⟩,by rw [AR];omega,aB (fun R=>?_) (fun c=>m (fun e=>by rw [(j e.1).2.1]at c;cases c))⟩;refine aA (by simp;omega) (cX D rfl (aB (fun K=>?_) (fun c=>m (fun e=>?_))))
  case refine_2=>
   rw [beq_eq_false_iff_ne]at c;have:=(j e.1).2.2.1;rw [AA D,AB]at this;exact c this
  rw [beq_iff_eq]at K;refine aA (by simp;omega) ⟨k.drop (M+2),⟨by rw [DM],by rw [AM JH,FL]⟩,by rw [DM];omega,?_⟩;split
  ·rename_i y;have z:sI k=true:=b9H r JF JF (by rw [AA A,G]) R (by rw [AA D,K]) y;unfold bJ at g;rw [if_pos rfl,if_pos ⟨z,by simpa using V⟩]at g;exact g
  ·rename_i y;exact m (fun e=>y (j e.1).2.2.2)
 ·exact g.elim
def K7:=aV 100 O8 Ob
theorem Aq:aO env K7:=aF Kn (Wh)
def O6(xs:Y14)(h:Heap)(K:KT):Prop:=match xs with
 | [.vslice none e0 n0 3 c0,.agg [.int .i64 25,.int .i64 im,.vslice none e1 n1 1 c1],.vslice none e2 n2 1 c2]=> ∃(l:Y15)(ks k:Y12),(n0=l.length/\c0=l.flatMap cN)/\(n1=ks.length/\c1=ks.map (IV.int .i64))/\(n2=k.length/\c2=k.map (IV.int .i64))/\(ks.length=k.length/\k.length<=1000000/\l.length<=1000000/\(∀q∈ks,0<=q/\q<l.length)/\(k=[3]->eK l ⟨25,im,ks⟩%2=1)/\∀n∈l,n.ks.length<=1000000)/\K (.int .i64 (bJ (eK l ⟨25,im,ks⟩) 25 im k)) h
 |_=>False
theorem b2G(l:Y15)(im:Int)(ks k:Y12)(e0 j m:Nat)(h:Heap)(Q:KT):dF (aR K7) env 100 cS bK bK [.vslice none e0 (l).length 3 ((l).flatMap cN),.agg [.int .i64 25,.int .i64 im,.vslice none j ks.length 1 (ks.map (IV.int .i64))],.vslice none m (k).length 1 ((k).map (IV.int .i64))] h Q=(
 aC (aP [IV.vslice none 0 l.length 3 (List.flatMap cN l),IV.agg [.int .i64 25,iI im,IV.vslice none 0 ks.length 1 (List.map (IV.int .i64) ks)],IV.vslice none 0 k.length 1 (List.map (IV.int .i64) k)]) (aI ((ks.length:Int) !=1) (Q (.int .i64 0) h) (aI (!iH 25 im) (Q (.int .i64 0) h) (aC (true&&decide (0< (k.length:Int))) (aG .i64 (List.map (IV.int .i64) k) 0 fun q=>aI (q !=3) (Q (.int .i64 0) h) (aC (true&&decide (0< (ks.length:Int))) (aG .i64 (List.map (IV.int .i64) ks) 0 fun g=>aC (decide (0<=g) &&decide (g< (l.length:Int))) (aZ 1 (List.flatMap cN l) (g.toNat*3+2) fun(z:Y10)(y p:Nat)(r:Y14)=>aI (decide (im>=wW (Int.tdiv (p:Int) 2))) (Q (.int .i64 0) h) (Q (.int .i64 (wW ((if(im==0)=true then(1:Int)else(0:Int))+1))) h))))))))):=by kernel_rfl
theorem Kl: ∀xs h Q,O6 xs h Q->aL env 100 xs h Q:=by
 intro xs h Q g;unfold O6 at g;split at g
 ·rename_i e0 n0 z im L n1 c1 O n2 c2;obtain⟨l,ks,k,⟨rfl,rfl⟩,⟨rfl,rfl⟩,⟨rfl,rfl⟩,R,g⟩:=g;refine aN (Aq) (b2G l im ks k e0 L O h Q) ?_;delta wW iI;have tn: ∀x:Nat,(x:Int).toNat=x:=AK
  obtain⟨m,V,X,A,r,p⟩:=R;have y: ¬ (k=[3]/\0<=im/\im<=15/\2*im+3<=(eK l ⟨25,im,ks⟩:Int))->Q (.int .i64 0) h:=fun e=>by
   unfold bJ at g;rw [if_neg JG,if_neg JG,if_pos rfl,if_neg e]at g;exact g
  have K:iH 25 im=true ↔ (0<=im/\im<=15):=by
   have:B1 25=15:=JG;unfold iH
   rw [decide_eq_true_eq,this];omega
  refine aA (by simp only [aP,bG,bC,bR,AL]) (aB (fun c=>y (fun e=>?_)) (fun z=>aB (fun c=>y (fun e=>?_)) (fun c1=>?_)))
  ·rw [e.1]at m;rw [bne_iff_ne,m]at c;exact c rfl
  ·rw [K.2 ⟨e.2.1,e.2.2.1⟩]at c
   cases c
  rw [bne_eq_false_iff_eq]at z;rw [BO]at c1;rw [K]at c1
  match ks,k,m,z with
  | [q],[s],_,_=>
   have hq:=A q AY;refine aA JH (bT (l:=[s]) (i:=0) JH (aB (fun c=>y (fun e=>?_)) (fun c2=>?_)))
   ·rw [bne_iff_ne]at c;have:=e.1;rw [BI]at this;exact c this.1
   rw [bne_eq_false_iff_eq]at c2;have Z:s=3:=c2;subst Z;have Y:=r rfl;have j:q.toNat<l.length:=JF;have G:eK l ⟨25,im,[q]⟩=(l[q.toNat]).ks.length:=by
    show(l.getD q.toNat default).ks.length=_;rw [AC,AA j];rfl
   rw [G]at Y y;refine aA JH (bT (l:=[q]) (i:=0) JH (aA (by simp;omega) (sY j rfl (aB (fun c=>y (fun e=>?_)) (fun D=>?_)))))
   ·rw [decide_eq_true_eq,DA JF]at c;have h4:=p _ (AH j);rw [AF _ JF]at c;omega
   ·rw [decide_eq_false_iff_not,DA JF]at D;have h4:=p _ (AH j);rw [AF _ JF]at D;unfold bJ at g;rw [if_neg JG,if_neg JG,if_pos rfl,if_pos ⟨rfl,c1.1,c1.2,by rw [G];omega⟩]at g;refine cD g ?_
    congr 1
    by_cases e:im=0
    ·subst e;rfl
    ·rw [if_neg e,if_neg (by simpa using e)];rfl
 ·exact g.elim
def K6:=aV 100 O6 K7
theorem Ap:aO env K6:=aF Kl (Aq)
def O7(xs:Y14)(h:Heap)(K:KT):Prop:=match xs with
 | [.vslice none e0 n0 3 c0,.agg [.int .i64 30,.int .i64 im,.vslice none e1 n1 1 c1],.vslice none e2 n2 1 c2]=> ∃(l:Y15)(ks k:Y12),(n0=l.length/\c0=l.flatMap cN)/\(n1=ks.length/\c1=ks.map (IV.int .i64))/\(n2=k.length/\c2=k.map (IV.int .i64))/\(ks.length=k.length/\k.length<=1000000/\l.length<=1000000/\(∀q∈ks,0<=q/\q<l.length)/\(k=[3]->eK l ⟨30,im,ks⟩%2=1)/\∀n∈l,n.ks.length<=1000000)/\K (.int .i64 (bJ (eK l ⟨30,im,ks⟩) 30 im k)) h
 |_=>False
theorem b2H(l:Y15)(im:Int)(ks k:Y12)(e0 j m:Nat)(h:Heap)(Q:KT):dF (aR K6) env 100 cS bK bK [.vslice none e0 (l).length 3 ((l).flatMap cN),.agg [.int .i64 30,.int .i64 im,.vslice none j ks.length 1 (ks.map (IV.int .i64))],.vslice none m (k).length 1 ((k).map (IV.int .i64))] h Q=(
 aC (aP [IV.vslice none 0 l.length 3 (List.flatMap cN l),IV.agg [.int .i64 30,iI im,IV.vslice none 0 ks.length 1 (List.map (IV.int .i64) ks)],IV.vslice none 0 k.length 1 (List.map (IV.int .i64) k)]) (aI (!iH 30 im) (Q (.int .i64 0) h) (aI (decide ((k.length:Int)>=1)) (aI (decide ((k.length:Int)<=7)) (aC (true&&decide (0< (k.length:Int))) (aG .i64 (List.map (IV.int .i64) k) 0 fun p=>aI (p==2) (aC (true&& (decide (1<=(k.length:Int)) &&decide ((k.length:Int)<=(k.length:Int)))) (∃(g:Y12),((k.length:Int).toNat-1=g.length/\List.take (((k.length:Int).toNat-1)*1) (List.drop 1 (List.map (IV.int .i64) k))=List.map (IV.int .i64) g)/\g.length<=1000000000/\Q (.int .i64 (if(List.all g fun x=>decide (x=1))=true then(2:Int)else(0:Int))) h)) (Q (.int .i64 0) h))) (Q (.int .i64 0) h)) (Q (.int .i64 0) h)))):=by kernel_rfl
theorem Km: ∀xs h Q,O7 xs h Q->aL env 100 xs h Q:=by
 intro xs h Q g;unfold O7 at g;split at g
 ·rename_i e0 Y X im z Z c1 A n2 c2;obtain⟨l,ks,k,⟨rfl,rfl⟩,⟨rfl,rfl⟩,⟨rfl,rfl⟩,K,g⟩:=g;refine aN (Ap) (b2H l im ks k e0 z A h Q) ?_;delta iI;have tn: ∀x:Nat,(x:Int).toNat=x:=AK
  obtain⟨L,O,R,V,q,G⟩:=K;have m: ¬ (uM k=true/\iH 30 im=true)->Q (.int .i64 0) h:=fun e=>by
   unfold bJ at g;rw [if_neg JG,if_pos rfl,if_neg e]at g;exact g
  refine aA (by simp only [aP,bG,bC,bR,AL]) (aB (fun c=>m (fun e=>by rw [e.2]at c;cases c)) (fun p=>?_));rw [BO]at p
  cases k with
  |nil=>exact gO (fun c=>absurd c JH) (fun _=>m (fun e=>by cases e.1))
  |cons a r=>
   have j:(a::r).length=r.length+1:=AW;refine gO (fun _=>gO (fun y=>aA (by rw [BC,decide_eq_true_eq,j];omega) (dN (n:=a) rfl (aB (fun c2=>aA (by simp only [BC,AD,decide_eq_true_eq,j];omega) ⟨r,⟨by rw [AK,j];omega,?_⟩,JF,?_⟩) (fun c2=>m (fun e=>?_))))) (fun y=>m (fun e=>?_))) (fun c=>absurd c (by rw [j];omega))
   ·rw [AK,j,BP,EB,CZ,AM (by rw [BG];omega)]
   ·rw [beq_iff_eq]at c2;have D:r.length<=6:=JF
    by_cases ca:(r.all fun x=>decide (x=1))=true
    ·rw [if_pos ca];unfold bJ at g;rw [if_neg JG,if_pos rfl,if_pos ⟨by simp only [uM,AD,decide_eq_true_eq];exact⟨D,c2,ca⟩,p⟩]at g;exact g
    ·rw [if_neg ca];refine m (fun e=>ca ?_);have:=e.1;simp only [uM,AD]at this;exact this.2.2
   ·rw [beq_eq_false_iff_ne]at c2;have:=e.1;simp only [uM,AD,decide_eq_true_eq]at this;exact c2 this.2.1
   ·have:=e.1;simp only [uM,AD,decide_eq_true_eq]at this;omega
 ·exact g.elim
def Hk:=aV 100 O7 K6
theorem a0Z:aO env Hk:=aF Km (Ap)
def Eg(xs:Y14)(h:Heap)(K:KT):Prop:=match xs with
 | [.vslice none e0 n0 3 c0,.agg [.int .i64 op,.int .i64 im,.vslice none e1 n1 1 c1],.vslice none e2 n2 1 c2]=> ∃(l:Y15)(ks k:Y12),(n0=l.length/\c0=l.flatMap cN)/\(n1=ks.length/\c1=ks.map (IV.int .i64))/\(n2=k.length/\c2=k.map (IV.int .i64))/\(True/\ks.length=k.length/\k.length<=1000000/\l.length<=1000000/\(∀q∈ks,0<=q/\q<l.length)/\(k=[3]->eK l ⟨op,im,ks⟩%2=1)/\∀n∈l,n.ks.length<=1000000)/\K (.int .i64 (bJ (eK l ⟨op,im,ks⟩) op im k)) h
 |_=>False
theorem c0X: ∀xs h Q,Eg xs h Q->aL env 100 xs h Q:=by
 intro xs h Q g;unfold Eg at g;split at g
 ·rename_i e0 r m op im p y c1 q z c2;obtain⟨l,ks,k,⟨rfl,rfl⟩,⟨rfl,rfl⟩,⟨rfl,rfl⟩,⟨_,j⟩,g⟩:=g
  by_cases o31:op=31
  ·subst o31;exact Kn _ _ _ ⟨l,ks,k,⟨rfl,rfl⟩,⟨rfl,rfl⟩,⟨rfl,rfl⟩,j,g⟩
  by_cases o25:op=25
  ·subst o25;exact Kl _ _ _ ⟨l,ks,k,⟨rfl,rfl⟩,⟨rfl,rfl⟩,⟨rfl,rfl⟩,j,g⟩
  by_cases h30:op=30
  ·subst h30;exact Km _ _ _ ⟨l,ks,k,⟨rfl,rfl⟩,⟨rfl,rfl⟩,⟨rfl,rfl⟩,j,g⟩
  unfold bJ at g;rw [if_neg o31,if_neg h30,if_neg o25]at g;exact b1A _ _ _ ⟨l,ks,k,⟨rfl,rfl⟩,⟨rfl,rfl⟩,⟨rfl,rfl⟩,⟨⟨o25,h30,o31⟩,j.1,JF⟩,g⟩
 ·exact g.elim
def Cm:=aV 100 Eg Hk
theorem Jj:aO env Cm:=aF c0X (a0Z)
def d8I(l:Y15):Inv':= .or
 (eA Heap (fun _=>[(0,.v (.vslice none 0 (l).length 3 ((l).flatMap cN))),(4,.v (.int .i64 0)),(3,.v .nilslice)]) (fun _=>[]) (fun x=>x) (fun _=>True) (fun _=>l.length))
 (eA (Nat×Nat×Heap) (fun x=>[(0,.v (.vslice none 0 (l).length 3 ((l).flatMap cN))),(4,.v (.int .i64 x.1)),(3,.v (.vslice (some x.2.1) x.1 x.1 1 ((aE (l.take x.1)).map (IV.int .i64))))]) (fun _=>[]) (fun x=>x.2.2) (fun x=>SO l x.1 x.2.1 x.2.2) (fun x=>l.length-x.1))
def d8H(l:Y15):Inv':= .or
 (eA Heap (fun _=>[(0,.v (.vslice none 0 (l).length 3 ((l).flatMap cN))),(4,.v (.int .i64 0)),(3,.v .nilslice),(5,.v .nilslice),(6,.v (.bool true)),(7,.v (.int .i64 0))]) (fun _=>[]) (fun x=>x) (fun _=>0<l.length) (fun _=>l.length*1000002+dT l 0 0))
 (.or
 (eA (Nat×Nat×Heap) (fun x=>[(0,.v (.vslice none 0 (l).length 3 ((l).flatMap cN))),(4,.v (.int .i64 x.1)),(3,.v (.vslice (some x.2.1) x.1 x.1 1 ((aE (l.take x.1)).map (IV.int .i64)))),(5,.v .nilslice),(6,.v (.bool true)),(7,.v (.int .i64 0))]) (fun _=>[]) (fun x=>x.2.2) (fun x=>x.1<l.length/\SO l x.1 x.2.1 x.2.2) (fun x=>(l.length-x.1)*1000002+dT l x.1 0))
 (eA (Nat×Nat×Heap×Nat×Y12×Nat) (fun x=>[(0,.v (.vslice none 0 (l).length 3 ((l).flatMap cN))),(4,.v (.int .i64 x.1)),(3,.v (.vslice (some x.2.1) x.1 x.1 1 ((aE (l.take x.1)).map (IV.int .i64)))),(5,.v (.vslice (some x.2.2.2.2.2) x.2.2.2.2.1.length x.2.2.2.2.1.length 1 (x.2.2.2.2.1.map (IV.int .i64)))),(6,.v (.bool true)),(7,.v (.int .i64 x.2.2.2.1))]) (fun _=>[]) (fun x=>x.2.2.1)
  (fun x=>x.1<l.length/\SO l x.1 x.2.1 x.2.2.1/\uX l x.1 x.2.2.2.1 x.2.2.2.2.1/\SK x.2.2.2.2.1 x.2.1 x.2.2.2.2.2 x.2.2.1) (fun x=>(l.length-x.1)*1000002+dT l x.1 x.2.2.2.1)))
def Qr(xs:Y14)(h:Heap)(K:KT):Prop:=match xs with
 | [.vslice none e1 n1 3 c1]=> ∃l:Y15,(n1=l.length/\c1=l.flatMap cN)/\((∀x∈l,x.ks.length<=1000000/\True)/\l.length<=1000000)/\K (.vslice none 0 (aE l).length 1 ((aE l).map (IV.int .i64))) h
 |_=>False
def iS(l:Y15):=List.flatMap cN l
def fB(l:Y15):=l.length
def pF(l:Y15):=TV.v (.vslice none 0 (fB l) 3 (iS l))
def bX:=IV.int .i64
def iQ:=[iI 0]
def zF:=TV.v (.int .i64 0)
def Tr(g:Y15)(ks:Y12):=(∀(q:Int),q∈ks->0<=q/\q< (g.length:Int))
abbrev Ts(l g:Y15):=l.length=g.length/\List.flatMap cN l=List.flatMap cN g
def rU:=IObj.tip 1
def Tt(l:Y15):=true&&decide (0< ((fB l):Int))
def D0:=TV.v (.bool true)
def zG:=TV.v IV.nilslice
abbrev b6A(k:Y12):=(0:Nat)=k.length/\[]=List.map bX k
def hU(l:Y15)(g:Int)(j:IV)(m:Heap)(p:Nat):Prop:= ∃(q:Heap),some (pF l)=some (pF l)/\tI (g)=some zF/\some (TV.v (j))=some zG/\m=q/\True/\l.length<p
def iA(l:Y15)(j:Int)(m:IV)(p:Heap)(q:Nat):Prop:= ∃(g:Nat×Nat×Heap),some (pF l)=some (pF l)/\tI (j)=tI (g.1:Int)/\some (TV.v (m))=some (TV.v (.vslice (some g.2.1) g.1 g.1 1 (List.map bX (aE (List.take g.1 l)))))/\p=g.2.2/\((0<g.1/\g.1<=l.length)/\Heap.get g.2.2 g.2.1=IObj.tip g.1/\g.2.1<Heap.next
 g.2.2)/\l.length-g.1<q
def b5X(M:Nat)(l:Y15)(g:Int)(j:IV)(m:Heap):Prop:= ∃(p:Heap),some (pF l)=some (pF l)/\tI (g)=some zF/\some (TV.v (j))=some zG/\some zG=some zG/\some D0=some D0/\some zF=some zF/\m=p/\Nat.le 1 (fB l)/\l.length*1000002+dT l 0 0<=M
def Mu(l:Y15)(g p:Int)(j m:IV)(q:Heap)(r:Nat):Prop:= ∃(y:Heap),some (pF l)=some (pF l)/\tI (g)=some zF/\some (TV.v (j))=some zG/\some (TV.v (m))=some zG/\some D0=some D0/\tI (p)=some zF/\q=y/\Nat.le 1 (fB l)/\l.length*1000002+dT l 0 0<r
def b5Y(M:Nat)(l:Y15)(j:Int)(m:IV)(p:Heap):Prop:= ∃(g:Nat×Nat×Heap),some (pF l)=some (pF l)/\tI (j)=tI (g.1:Int)/\some (TV.v (m))=some (TV.v (.vslice (some g.2.1) g.1 g.1 1 (List.map bX (aE (List.take g.1 l)))))/\some zG=some zG/\some D0=some D0/\some zF=some zF/\p=g.2.2/\(g.1<l.length
 /\SO l g.1 g.2.1 g.2.2)/\(l.length-g.1)*1000002+dT l g.1 0<=M
def Mv(l:Y15)(j q:Int)(m p:IV)(r:Heap)(y:Nat):Prop:= ∃(g:Nat×Nat×Heap),some (pF l)=some (pF l)/\tI (j)=tI (g.1:Int)/\some (TV.v (m))=some (TV.v (.vslice (some g.2.1) g.1 g.1 1 (List.map bX (aE (List.take g.1 l)))))/\some (TV.v (p))=some zG/\some D0=some D0/\tI (q)=some zF/\r=g.2.2/\(g.1<l.length
 /\SO l g.1 g.2.1 g.2.2)/\(l.length-g.1)*1000002+dT l g.1 0<y
def b5Z(M:Nat)(l:Y15)(j:Int)(m:IV)(p:Heap):Prop:= ∃(g:Nat×Nat×Heap×Nat×Y12×Nat),some (pF l)=some (pF l)/\tI (j)=tI (g.1:Int)/\some (TV.v (m))=some (TV.v (.vslice (some g.2.1) g.1 g.1 1 (List.map bX (aE (List.take g.1 l)))))/\some zG=some (TV.v (.vslice (some g.2.2.2.2.2) g.2.2.2.2.1.length g.2.2.2.2.1.length
 1 (List.map bX g.2.2.2.2.1)))/\some D0=some D0/\some zF=tI (g.2.2.2.1:Int)/\p=g.2.2.1/\(g.1<l.length/\SO l g.1 g.2.1 g.2.2.1/\uX l g.1 g.2.2.2.1 g.2.2.2.2.1/\SK g.2.2.2.2.1 g.2.1 g.2.2.2.2.2 g.2.2.1)/\(l.length-g.1)*1000002+dT l g.1 g.2.2.2.1<=M
def Mw(l:Y15)(j q:Int)(m p:IV)(r:Heap)(y:Nat):Prop:= ∃(g:Nat×Nat×Heap×Nat×Y12×Nat),some (pF l)=some (pF l)/\tI (j)=tI (g.1:Int)/\some (TV.v (m))=some (TV.v (.vslice (some g.2.1) g.1 g.1 1 (List.map bX (aE (List.take g.1 l)))))/\some (TV.v (p))=some (TV.v (.vslice (some g.2.2.2.2.2) g.2.2.2.2.1.length
 g.2.2.2.2.1.length 1 (List.map bX g.2.2.2.2.1)))/\some D0=some D0/\tI (q)=tI (g.2.2.2.1:Int)/\r=g.2.2.1/\(g.1<l.length/\SO l g.1 g.2.1 g.2.2.1/\uX l g.1 g.2.2.2.1 g.2.2.2.2.1/\SK g.2.2.2.2.1 g.2.1 g.2.2.2.2.2 g.2.2.1)/\(l.length-g.1)*1000002+dT l g.1
 g.2.2.2.1<y
theorem d2Z(l:Y15)(e1:Nat)(h:Heap)(Q:KT):dF (aR Cm) env 55 cS (vC 4 (d8I l) (oE 1000009 (d8H l))) bK [.vslice none e1 (l).length 3 ((l).flatMap cN)] h Q=(
 aC (aP [IV.vslice none 0 (fB l) 3 (iS l)]) (((∃(x:Heap),some (pF l)=some (pF l)/\some zF=some zF/\some zG=some zG/\Heap.mk PT.nil 0=x/\True/\True) \/ ∃(x:Nat×Nat×Heap),some (pF l)=some (pF l)/\some zF=tI (x.1:Int)/\some zG=some (TV.v (.vslice (some x.2.1) x.1 x.1 1 (List.map bX (aE (List.take x.1 l)))))/\Heap.mk PT.nil 0=x.2.2/\((0<x.1/\x.1<=l.length)/\Heap.get x.2.2 x.2.1=IObj.tip x.1/\x.2.1<x.2.2.next)/\True)/\(∀(x:Heap)(b:FF),True->aI (decide (0< ((fB l):Int))) (∃(M:Nat),((b5X M l 0 IV.nilslice x) \/ (b5Y M l 0 IV.nilslice x) \/b5Z M l 0 IV.nilslice x)/\(∀(x:Heap)(b:FF),0<l.length->l.length*1000002+dT l 0 0<=M->aC (Tt l) (aZ 1 (iS l) 2 fun(i0:Y10)(e1 l2:Nat)(c3:Y14)=>aI (decide ((0:Int)< (l2:Int))) (aC (Tt l) (aZ 1 (iS l) 2 fun(i4:Y10)(e5 l6:Nat)(c7:Y14)=>aC (true&&decide (0< (l6:Int))) (aG .i64 c7 0 fun n8=>aI (decide (n8<0)) ((hU l 1 (IV.vslice (some (x.next)) 1 1 1 iQ) (x.push rU) (fB l)) \/iA l 1 (IV.vslice (some (x.next)) 1 1 1 iQ) (x.push rU) (fB l)) (aI (decide (n8>=0)) ((hU l 1 (IV.vslice (some (x.next)) 1 1 1 iQ) (x.push rU) (fB l)) \/iA l 1 (IV.vslice (some (x.next)) 1 1 1 iQ) (x.push rU) (fB l)) False)))) (aC (Tt l) (aG .i64 (iS l) 0 fun n9=>aG .i64 (iS l) 1 fun A=>aZ 1 (iS l) 2 fun(i6:Y10)(g5 c4:Nat)(b3:Y14)=> ∃(j:Y15)(ks k:Y12),(Ts l j)/\(c4=ks.length/\b3=List.map bX ks)/\(b6A k)/\(True/\ks.length=k.length/\k.length<=1000000/\j.length<=(1000000:Nat)/\(Tr j ks)/\(k=[(3:Int)]->eK j (Nd.mk n9 A ks)% (2:Nat)=1)/\∀(n:Nd),n∈j->List.length (Nd.ks n)<=1000000)/\((hU l 1 (IV.vslice (some (x.next)) 1 1 1 [iI (bJ (eK j (Nd.mk n9 A ks)) n9 A k)]) (x.push rU) (fB l)) \/iA l 1 (IV.vslice (some (x.next)) 1 1 1 [iI (bJ (eK j (Nd.mk n9 A ks)) n9 A k)]) (x.push rU) (fB l))))))/\(∀(x:Nat×Nat×Heap)(b:FF),x.1<l.length/\SO l (x.1) x.2.1 x.2.2->(l.length-x.1)*1000002+dT l x.1 0<=M->aC (decide (0<=(x.1:Int)) &&decide ((x.1:Int)< ((fB l):Int))) (aZ 1 (iS l) ((x.1:Int).toNat*(3:Nat)+2) fun(i7:Y10)(g6 c5:Nat)(g0:Y14)=>aI (decide (0< (c5:Int))) (aC (decide (0<=(x.1:Int)) &&decide ((x.1:Int)< ((fB l):Int))) (aZ 1 (iS l) ((x.1:Int).toNat*3+(2:Nat)) fun(i8:Y10)(g7 c6:Nat)(b4:Y14)=>aC (true&&decide (0< (c6:Int))) (aG .i64 b4 0 fun r=>aI (decide (r<0)) (cF x.2.2 x.2.1 fun(d9:Nat)=>aC (Nat.beq d9 (x.1) &&Nat.ble ((x.1+1)*8) 140737488355328) ((hU l (wW ((x.1:Int)+1)) (IV.vslice (some x.2.1) (x.1+1) (x.1+1) 1 (List.map bX (aE (List.take x.1 l))++iQ)) (x.2.2.set x.2.1 (IObj.tip (x.1+1))) (fB l)) \/iA l (wW ((x.1:Int)+1)) (IV.vslice (some x.2.1) (x.1+1) (x.1+1) 1 (List.map bX (aE (List.take x.1 l))++iQ)) (x.2.2.set x.2.1 (IObj.tip (x.1+1))) (fB l))) (aI (decide (r>=(x.1:Int))) (cF x.2.2 x.2.1 fun(e2:Nat)=>aC (Nat.beq e2 x.1&&Nat.ble ((x.1+1)*8) 140737488355328) ((hU l (wW ((x.1:Int)+1)) (IV.vslice (some x.2.1) (x.1+1) (x.1+1) 1 (List.map bX (aE (List.take x.1 l))++iQ)) (x.2.2.set x.2.1 (IObj.tip (x.1+1))) (fB l)) \/iA l (wW ((x.1:Int)+1)) (IV.vslice (some x.2.1) (x.1+1) (x.1+1) 1 (List.map bX (aE (List.take x.1 l))++iQ)) (x.2.2.set x.2.1 (IObj.tip (x.1+1))) (fB l))) (aC (decide (0<=r) &&decide (r< (x.1:Int))) (aG .i64 (List.map bX (aE (List.take x.1 l))) (r.toNat*1) fun f5=>aI (f5==0) (cF x.2.2 x.2.1 fun(e3:Nat)=>aC (Nat.beq e3 x.1&&Nat.ble ((x.1+1)*8) 140737488355328) ((hU l (wW ((x.1:Int)+(1:Int))) (IV.vslice (some x.2.1) (x.1+1) (x.1+1) 1 (List.map bX (aE (List.take x.1 l))++iQ)) (x.2.2.set x.2.1 (IObj.tip (x.1+1))) (fB l)) \/iA l (wW ((x.1:Int)+1)) (IV.vslice (some x.2.1) (x.1+1) (x.1+1) 1 (List.map bX (aE (List.take x.1 l))++iQ)) (x.2.2.set x.2.1 (IObj.tip (x.1+1))) (fB l))) (aC (decide (0<=r) &&decide (r< (x.1:Int))) (aG .i64 (List.map bX (aE (List.take x.1 l))) (r.toNat*1) fun Z=>(Mu l (x.1:Int) 1 (IV.vslice (some x.2.1) x.1 (x.1) 1 (List.map bX (aE (List.take x.1 l)))) (IV.vslice (some (x.2.2.next)) 1 1 1 [iI Z]) (x.2.2.push rU) ((l.length-x.1)*1000002+dT l x.1 0)) \/ (Mv l (x.1:Int) 1 (IV.vslice (some x.2.1) x.1 x.1 1 (List.map bX (aE (List.take x.1 l)))) (IV.vslice (some (x.2.2.next)) 1 1 1 [iI Z]) ((x.2.2).push rU) ((l.length-x.1)*1000002+dT l x.1 0)) \/Mw l (x.1:Int) 1 (IV.vslice (some x.2.1) x.1 x.1 1 (List.map bX (aE (List.take x.1 l)))) (IV.vslice (some (x.2.2.next)) 1 1 1 [iI Z]) (x.2.2.push rU) ((l.length-x.1)*1000002+dT l x.1 0))))))))) (aC (decide (0<=(x.1:Int)) &&decide ((x.1:Int)< ((fB l):Int))) (aG .i64 (iS l) ((x.1:Int).toNat*3) fun G=>aG .i64 (iS l) ((x.1:Int).toNat*3+1) fun K=>aZ 1 (iS l) ((x.1:Int).toNat*3+1+1) fun(i9:Y10)(g8 c8:Nat)(b5:Y14)=> ∃(j:Y15)(ks k:Y12),(Ts l j)/\(c8=ks.length/\b5=List.map bX ks)/\(b6A k)/\(True/\ks.length=k.length/\k.length<=1000000/\j.length<=1000000/\(Tr j ks)/\(k=[(3:Int)]->eK j (Nd.mk G K ks)% (2:Nat)=1)/\∀(n:Nd),n∈j->List.length (Nd.ks n)<=1000000)/\cF x.2.2 x.2.1 fun(e4:Nat)=>aC (Nat.beq e4 x.1&&Nat.ble ((x.1+1)*(8:Nat)) 140737488355328) ((hU l (wW ((x.1:Int)+1)) (IV.vslice (some x.2.1) (x.1+1) (x.1+1) 1 (List.map bX (aE (List.take x.1 l))++ [iI (bJ (eK j (Nd.mk G K ks)) G K k)])) (x.2.2.set x.2.1 (IObj.tip (x.1+1))) (fB l)) \/iA l (wW ((x.1:Int)+1)) (IV.vslice (some x.2.1) (x.1+1) (x.1+1) 1 (List.map bX (aE (List.take x.1 l))++ [iI (bJ (eK j (Nd.mk G K ks)) G K k)])) (x.2.2.set x.2.1 (IObj.tip (x.1+1))) (fB l))))))/\∀(x:Nat×Nat×Heap×Nat×Y12×Nat)(b:FF),x.1<l.length/\SO l x.1 x.2.1 x.2.2.1/\uX l x.1 x.2.2.2.1 x.2.2.2.2.1/\SK x.2.2.2.2.1 ((x.2).1) x.2.2.2.2.2 x.2.2.1->(l.length-x.1)*1000002+dT l x.1 x.2.2.2.1<=M->aC (decide (0<=(x.1:Int)) &&decide ((x.1:Int)< ((fB l):Int))) (aZ 1 (iS l) ((x.1:Int).toNat*3+2) fun(j0:Y10)(g9 c9:Nat)(g1:Y14)=>aI (decide ((x.2.2.2.1:Int)< (c9:Int))) (aC (decide (0<=(x.1:Int)) &&decide ((x.1:Int)< ((fB l):Int))) (aZ 1 (iS l) ((x.1:Int).toNat*3+2) fun(j1:Y10)(h0 d0:Nat)(b6:Y14)=>aC (decide (0<=(x.2.2.2.1:Int)) &&decide ((↑((x.2.2.2).1):Int)< (d0:Int))) (aG .i64 b6 ((x.2.2.2.1:Int).toNat*1) fun y=>aI (decide (y<0)) (cF x.2.2.1 x.2.1 fun(e6:Nat)=>aC (Nat.beq e6 x.1&&Nat.ble ((x.1+1)*8) 140737488355328) ((hU l (wW ((x.1:Int)+1)) (IV.vslice (some x.2.1) (x.1+1) (x.1+1) 1 (List.map bX (aE (List.take (x.1) l))++iQ)) (x.2.2.1.set x.2.1 (IObj.tip (x.1+1))) (fB l)) \/iA l (wW ((x.1:Int)+1)) (IV.vslice (some x.2.1) (x.1+1) (x.1+1) 1 (List.map bX (aE (List.take x.1 l))++iQ)) (x.2.2.1.set x.2.1 (IObj.tip (x.1+1))) (fB l))) (aI (decide (y>=(x.1:Int))) (cF x.2.2.1 x.2.1 fun(e7:Nat)=>aC (Nat.beq e7 x.1&&Nat.ble ((x.1+1)*8) 140737488355328) ((hU l (wW ((x.1:Int)+1)) (IV.vslice (some x.2.1) (x.1+1) (x.1+1) 1 (List.map bX (aE (List.take x.1 l))++iQ)) (x.2.2.1.set x.2.1 (IObj.tip (x.1+1))) (fB l)) \/iA l (wW ((x.1:Int)+1)) (IV.vslice (some x.2.1) (x.1+(1:Nat)) (x.1+1) 1 (List.map bX (aE (List.take x.1 l))++iQ)) (x.2.2.1.set x.2.1 (IObj.tip (x.1+1))) (fB l))) (aC (decide (0<=y) &&decide (y< (x.1:Int))) (aG .i64 (List.map bX (aE (List.take x.1 l))) (y.toNat*1) fun f6=>aI (f6==0) (cF x.2.2.1 x.2.1 fun(e8:Nat)=>aC (Nat.beq e8 x.1&&Nat.ble ((x.1+1)*8) 140737488355328) ((hU l (wW ((x.1:Int)+1)) (IV.vslice (some x.2.1) (x.1+1) (x.1+1) 1 (List.map bX (aE (List.take x.1 l))++iQ)) (x.2.2.1.set ((x.2).1) (IObj.tip (x.1+1))) (fB l)) \/iA l (wW ((x.1:Int)+1)) (IV.vslice (some x.2.1) (x.1+1) (x.1+1) 1 (List.map bX (aE (List.take x.1 l))++iQ)) ((x.2.2.1).set x.2.1 (IObj.tip (x.1+1))) (fB l))) (aC (decide (0<=y) &&decide (y< (x.1:Int))) (aG .i64 (List.map bX (aE (List.take x.1 l))) (y.toNat*1) fun a0=>cF (x.2.2.1) x.2.2.2.2.2 fun(e9:Nat)=>aC (Nat.beq e9 x.2.2.2.2.1.length&&Nat.ble ((x.2.2.2.2.1.length+1)*8) 140737488355328) ((Mu l (x.1:Int) (wW ((x.2.2.2.1:Int)+1)) (IV.vslice (some x.2.1) x.1 x.1 1 (List.map bX (aE (List.take x.1 l)))) (IV.vslice (some ((x.2.2.2.2).2)) (x.2.2.2.2.1.length+1) (x.2.2.2.2.1.length+1) 1 (List.map bX x.2.2.2.2.1++ [iI a0])) (x.2.2.1.set x.2.2.2.2.2 (IObj.tip (x.2.2.2.2.1.length+1))) ((l.length-x.1)*1000002+dT l x.1 (((x.2.2).2).1))) \/ (Mv l (x.1:Int) (wW ((x.2.2.2.1:Int)+1)) (IV.vslice (some x.2.1) x.1 x.1 1 (List.map bX (aE (List.take x.1 l)))) (IV.vslice (some (x.2.2.2.2.2)) (x.2.2.2.2.1.length+1) (x.2.2.2.2.1.length+1) 1 (List.map bX x.2.2.2.2.1++ [iI a0])) (x.2.2.1.set x.2.2.2.2.2 (IObj.tip (x.2.2.2.2.1.length+1))) ((l.length-x.1)*1000002+dT l x.1 ((x.2.2.2).1))) \/Mw l (x.1:Int) (wW ((x.2.2.2.1:Int)+1)) (IV.vslice (some x.2.1) x.1 x.1 1 (List.map bX (aE (List.take x.1 l)))) (IV.vslice (some x.2.2.2.2.2) (x.2.2.2.2.1.length+1) (x.2.2.2.2.1.length+1) 1 (List.map bX x.2.2.2.2.1++ [iI a0])) (x.2.2.1.set x.2.2.2.2.2 (IObj.tip (x.2.2.2.2.1.length+1))) ((l.length-x.1)*1000002+dT l x.1 (x.2.2.2.1))))))))))) (aC (decide (0<=(x.1:Int)) &&decide ((x.1:Int)< ((fB l):Int))) (aG .i64 (iS l) ((x.1:Int).toNat*3) fun L=>aG .i64 (iS l) ((x.1:Int).toNat*(3:Nat)+1) fun O=>aZ 1 (iS l) ((x.1:Int).toNat*3+1+1) fun(j2:Y10)(h5 d1:Nat)(b7:Y14)=> ∃(j:Y15)(ks k:Y12),(Ts l j)/\(d1=ks.length/\b7=List.map bX ks)/\(x.2.2.2.2.1.length=k.length/\List.map bX x.2.2.2.2.1=List.map bX k)/\(True/\ks.length=k.length/\k.length<=1000000/\j.length<=1000000/\(Tr j ks)/\(k=[(3:Int)]->eK j (Nd.mk L O ks)% (2:Nat)=1)/\∀(n:Nd),n∈j->List.length (Nd.ks n)<=1000000)/\cF x.2.2.1 x.2.1 fun(f0:Nat)=>aC (Nat.beq f0 x.1&&Nat.ble ((x.1+1)*(8:Nat)) 140737488355328) ((hU l (wW ((x.1:Int)+1)) (IV.vslice (some x.2.1) (x.1+1) (x.1+1) 1 (List.map bX (aE (List.take x.1 l))++ [iI (bJ (eK j (Nd.mk L O ks)) L O k)])) (x.2.2.1.set x.2.1 (IObj.tip (x.1+1))) (fB l)) \/iA l (wW ((x.1:Int)+1)) (IV.vslice (some x.2.1) (x.1+1) (x.1+(1:Nat)) 1 (List.map bX (aE (List.take x.1 l))++ [iI (bJ (eK j (Nd.mk L O ks)) L O k)])) (x.2.2.1.set x.2.1 (IObj.tip (x.1+1))) (fB l)))))) (Q (.vslice none 0 0 1 []) h))/\∀(x:Nat×Nat×Heap)(b:FF),SO l x.1 x.2.1 x.2.2->aI (decide ((x.1:Int)< ((fB l):Int))) (∃(M:Nat),((b5X M l (x.1:Int) (IV.vslice (some x.2.1) x.1 x.1 1 (List.map bX (aE (List.take x.1 l)))) x.2.2) \/ (b5Y M l (x.1:Int) (IV.vslice (some x.2.1) x.1 x.1 1 (List.map bX (aE (List.take x.1 l)))) x.2.2) \/b5Z M l ((x.1):Int) (IV.vslice (some x.2.1) x.1 x.1 1 (List.map bX (aE (List.take x.1 l)))) x.2.2)/\(∀(g:Heap)(b:FF),0<l.length->l.length*1000002+dT l 0 0<=M->aC (Tt l) (aZ 1 (iS l) 2 fun(j3:Y10)(h6 d2:Nat)(g2:Y14)=>aI (decide (0< (d2:Int))) (aC (Tt l) (aZ 1 (iS l) 2 fun(j4:Y10)(h7 d3:Nat)(b9:Y14)=>aC (true&&decide (0< (d3:Int))) (aG .i64 b9 0 fun b2=>aI (decide (b2<0)) ((hU l 1 (IV.vslice (some (g.next)) 1 1 1 iQ) (g.push rU) (l.length-x.1)) \/iA l 1 (IV.vslice (some (g.next)) 1 1 1 iQ) (g.push rU) (l.length-x.1)) (aI (decide (b2>=0)) ((hU l 1 (IV.vslice (some (g.next)) 1 1 1 iQ) (g.push rU) (l.length-x.1)) \/iA l 1 (IV.vslice (some (g.next)) 1 1 1 iQ) (g.push rU) (l.length-x.1)) False)))) (aC (Tt l) (aG .i64 (iS l) 0 fun R=>aG .i64 (iS l) 1 fun V=>aZ 1 (iS l) 2 fun(j5:Y10)(h8 d4:Nat)(c0:Y14)=> ∃(j:Y15)(ks k:Y12),(Ts l j)/\(d4=ks.length/\c0=List.map bX ks)/\(b6A k)/\(True/\ks.length=k.length/\k.length<=1000000/\j.length<=1000000/\(Tr j ks)/\(k=[(3:Int)]->eK j (Nd.mk R V ks)% (2:Nat)=1)/\∀(n:Nd),n∈j->List.length (Nd.ks n)<=1000000)/\((hU l 1 (IV.vslice (some (g.next)) 1 1 1 [iI (bJ (eK j (Nd.mk R V ks)) R V k)]) (g.push rU) (l.length-x.1)) \/iA l 1 (IV.vslice (some (g.next)) 1 1 1 [iI (bJ (eK j (Nd.mk R V ks)) R V k)]) (g.push rU) (l.length-x.1))))))/\(∀(g:Nat×Nat×Heap)(b:FF),g.1<l.length/\SO l g.1 ((g.2).1) g.2.2->(l.length-g.1)*1000002+dT l g.1 0<=M->aC (decide (0<=(g.1:Int)) &&decide ((g.1:Int)< ((fB l):Int))) (aZ 1 (iS l) ((g.1:Int).toNat*3+(2:Nat)) fun(j6:Y10)(h9 d5:Nat)(g3:Y14)=>aI (decide (0< (d5:Int))) (aC (decide (0<=(g.1:Int)) &&decide ((g.1:Int)< ((fB l):Int))) (aZ 1 (iS l) ((g.1:Int).toNat*3+2) fun(j7:Y10)(i1 d6:Nat)(c1:Y14)=>aC (true&&decide (0< (d6:Int))) (aG .i64 c1 0 fun z=>aI (decide (z<0)) (cF g.2.2 g.2.1 fun(f1:Nat)=>aC (Nat.beq f1 g.1&&Nat.ble ((g.1+1)*8) 140737488355328) ((hU l (wW ((g.1:Int)+1)) (IV.vslice (some g.2.1) (g.1+1) (g.1+1) 1 (List.map bX (aE (List.take (g.1) l))++iQ)) (g.2.2.set g.2.1 (IObj.tip (g.1+1))) (l.length-x.1)) \/iA l (wW ((g.1:Int)+1)) (IV.vslice (some g.2.1) (g.1+1) (g.1+1) 1 (List.map bX (aE (List.take g.1 l))++iQ)) (g.2.2.set g.2.1 (IObj.tip (g.1+1))) (l.length-x.1))) (aI (decide (z>=(g.1:Int))) (cF g.2.2 (g.2.1) fun(f2:Nat)=>aC (Nat.beq f2 g.1&&Nat.ble ((g.1+1)*8) 140737488355328) ((hU l (wW ((g.1:Int)+1)) (IV.vslice (some g.2.1) (g.1+1) (g.1+1) 1 (List.map bX (aE (List.take g.1 l))++iQ)) (g.2.2.set g.2.1 (IObj.tip (g.1+1))) (l.length-x.1)) \/iA l (wW ((g.1:Int)+1)) (IV.vslice (some g.2.1) (g.1+1) (g.1+1) 1 (List.map bX (aE (List.take g.1 l))++iQ)) (g.2.2.set g.2.1 (IObj.tip (g.1+1))) (l.length-x.1))) (aC (decide (0<=z) &&decide (z< (g.1:Int))) (aG .i64 (List.map bX (aE (List.take g.1 l))) (z.toNat*1) fun f7=>aI (f7==0) (cF g.2.2 g.2.1 fun(f3:Nat)=>aC (Nat.beq f3 (g.1) &&Nat.ble ((g.1+1)*8) 140737488355328) ((hU l (wW ((g.1:Int)+1)) (IV.vslice (some g.2.1) (g.1+1) (g.1+1) 1 (List.map bX (aE (List.take (g.1) l))++iQ)) (g.2.2.set g.2.1 (IObj.tip (g.1+1))) (l.length-x.1)) \/iA l (wW ((g.1:Int)+1)) (IV.vslice (some g.2.1) (g.1+1) (g.1+1) 1 (List.map bX (aE (List.take g.1 l))++iQ)) (g.2.2.set g.2.1 (IObj.tip (g.1+1))) (l.length-x.1))) (aC (decide (0<=z) &&decide (z< (g.1:Int))) (aG .i64 (List.map bX (aE (List.take g.1 l))) (z.toNat*1) fun a1=>(Mu l (g.1:Int) 1 (IV.vslice (some g.2.1) g.1 g.1 1 (List.map bX (aE (List.take g.1 l)))) (IV.vslice (some (g.2.2.next)) 1 1 1 [iI a1]) (g.2.2.push rU) ((l.length-g.1)*1000002+dT l g.1 0)) \/ (Mv l (g.1:Int) 1 (IV.vslice (some (g.2.1)) g.1 g.1 1 (List.map bX (aE (List.take g.1 l)))) (IV.vslice (some (g.2.2.next)) 1 1 1 [iI a1]) (g.2.2.push rU) ((l.length-g.1)*(1000002:Nat)+dT l g.1 0)) \/Mw l (g.1:Int) 1 (IV.vslice (some g.2.1) g.1 g.1 1 (List.map bX (aE (List.take g.1 l)))) (IV.vslice (some (g.2.2.next)) 1 1 1 [iI a1]) (g.2.2.push rU) ((l.length-g.1)*1000002+dT l g.1 0))))))))) (aC (decide (0<=(g.1:Int)) &&decide ((g.1:Int)< ((fB l):Int))) (aG .i64 (iS l) ((g.1:Int).toNat*3) fun X=>aG .i64 (iS l) ((g.1:Int).toNat*3+1) fun Y=>aZ 1 (iS l) ((g.1:Int).toNat*3+1+1) fun(j8:Y10)(i2 d7:Nat)(c2:Y14)=> ∃(j:Y15)(ks k:Y12),(Ts l j)/\(d7=ks.length/\c2=List.map bX ks)/\(b6A k)/\(True/\ks.length=k.length/\k.length<=1000000/\j.length<=1000000/\(Tr j ks)/\(k=[(3:Int)]->eK j (Nd.mk X Y ks)% (2:Nat)=1)/\∀(n:Nd),n∈j->List.length (Nd.ks n)<=1000000)/\cF g.2.2 g.2.1 fun(f4:Nat)=>aC (Nat.beq f4 g.1&&Nat.ble ((g.1+1)*8) 140737488355328) ((hU l (wW ((g.1:Int)+1)) (IV.vslice (some g.2.1) (g.1+1) (g.1+1) 1 (List.map bX (aE (List.take g.1 l))++ [iI (bJ (eK j (Nd.mk X Y ks)) X Y k)])) (g.2.2.set g.2.1 (IObj.tip (g.1+1))) (l.length-x.1)) \/iA l (wW ((g.1:Int)+1)) (IV.vslice (some g.2.1) (g.1+1) (g.1+1) 1 (List.map bX (aE (List.take g.1 l))++ [iI (bJ (eK j (Nd.mk X Y ks)) X Y k)])) (g.2.2.set g.2.1 (IObj.tip (g.1+1))) (l.length-x.1))))))/\∀(g:Nat×Nat×Heap×Nat×Y12×Nat)(b:FF),g.1<l.length/\SO l g.1 g.2.1 g.2.2.1/\uX l g.1 g.2.2.2.1 g.2.2.2.2.1/\SK (g.2.2.2.2.1) g.2.1 g.2.2.2.2.2 g.2.2.1->(l.length-g.1)*1000002+dT l g.1 g.2.2.2.1<=M->aC (decide (0<=(g.1:Int)) &&decide ((g.1:Int)< ((fB l):Int))) (aZ 1 (iS l) ((g.1:Int).toNat*3+2) fun(j9:Y10)(i3 d8:Nat)(g4:Y14)=>aI (decide ((↑((((g.2).2).2).1):Int)< (d8:Int))) (aC (decide (0<=(g.1:Int)) &&decide ((g.1:Int)< ((fB l):Int))) (aZ 1 (iS l) ((g.1:Int).toNat*3+2) fun(l0:Y10)(i5 a4:Nat)(a2:Y14)=>aC (decide (0<=(g.2.2.2.1:Int)) &&decide ((g.2.2.2.1:Int)< (a4:Int))) (aG .i64 a2 ((g.2.2.2.1:Int).toNat*1) fun m=>aI (decide (m< (0:Int))) (cF g.2.2.1 g.2.1 fun(a6:Nat)=>aC (Nat.beq a6 g.1&&Nat.ble ((g.1+1)*8) 140737488355328) ((hU l (wW ((g.1:Int)+1)) (IV.vslice (some g.2.1) (g.1+1) (g.1+1) 1 (List.map bX (aE (List.take g.1 l))++iQ)) (g.2.2.1.set g.2.1 (IObj.tip (g.1+1))) (l.length-x.1)) \/iA l (wW ((g.1:Int)+1)) (IV.vslice (some g.2.1) (g.1+1) (g.1+1) 1 (List.map bX (aE (List.take g.1 l))++iQ)) (g.2.2.1.set ((g.2).1) (IObj.tip (g.1+1))) (l.length-x.1))) (aI (decide (m>=(g.1:Int))) (cF g.2.2.1 g.2.1 fun(a7:Nat)=>aC (Nat.beq a7 g.1&&Nat.ble ((g.1+1)*8) 140737488355328) ((hU l (wW ((g.1:Int)+1)) (IV.vslice (some g.2.1) (g.1+1) (g.1+1) 1 (List.map bX (aE (List.take g.1 l))++iQ)) (g.2.2.1.set g.2.1 (IObj.tip (g.1+1))) (l.length-x.1)) \/iA l (wW ((g.1:Int)+1)) (IV.vslice (some g.2.1) (g.1+1) (g.1+1) 1 (List.map bX (aE (List.take g.1 l))++iQ)) (g.2.2.1.set g.2.1 (IObj.tip (g.1+1))) (l.length-x.1))) (aC (decide (0<=m) &&decide (m< (g.1:Int))) (aG .i64 (List.map bX (aE (List.take g.1 l))) (m.toNat*1) fun b1=>aI (b1==0) (cF g.2.2.1 g.2.1 fun(a8:Nat)=>aC (Nat.beq a8 g.1&&Nat.ble ((g.1+1)*8) 140737488355328) ((hU l (wW ((g.1:Int)+1)) (IV.vslice (some g.2.1) (g.1+1) (g.1+1) 1 (List.map bX (aE (List.take g.1 l))++iQ)) (g.2.2.1.set (g.2.1) (IObj.tip (g.1+1))) (l.length-x.1)) \/iA l (wW ((g.1:Int)+1)) (IV.vslice (some g.2.1) (g.1+1) (g.1+1) 1 (List.map bX (aE (List.take g.1 l))++iQ)) (g.2.2.1.set g.2.1 (IObj.tip (g.1+1))) (l.length-x.1))) (aC (decide (0<=m) &&decide (m< (g.1:Int))) (aG .i64 (List.map bX (aE (List.take g.1 l))) (m.toNat*1) fun D=>cF g.2.2.1 g.2.2.2.2.2 fun(a9:Nat)=>aC (Nat.beq a9 g.2.2.2.2.1.length&&Nat.ble ((g.2.2.2.2.1.length+1)*8) 140737488355328) ((Mu l (g.1:Int) (wW ((g.2.2.2.1:Int)+1)) (IV.vslice (some g.2.1) g.1 g.1 1 (List.map bX (aE (List.take g.1 l)))) (IV.vslice (some g.2.2.2.2.2) (g.2.2.2.2.1.length+1) ((((((g.2).2).2).2).1).length+1) 1 (List.map bX g.2.2.2.2.1++ [iI D])) (g.2.2.1.set g.2.2.2.2.2 (IObj.tip (((((g.2.2).2).2).1).length+1))) ((l.length-g.1)*1000002+dT l g.1 g.2.2.2.1)) \/ (Mv l (g.1:Int) (wW ((g.2.2.2.1:Int)+1)) (IV.vslice (some g.2.1) g.1 g.1 1 (List.map bX (aE (List.take g.1 l)))) (IV.vslice (some g.2.2.2.2.2) (g.2.2.2.2.1.length+1) (g.2.2.2.2.1.length+1) 1 (List.map bX g.2.2.2.2.1++ [iI D])) (g.2.2.1.set g.2.2.2.2.2 (IObj.tip (g.2.2.2.2.1.length+1))) ((l.length-g.1)*1000002+dT l g.1 g.2.2.2.1)) \/Mw l (g.1:Int) (wW ((↑(((g.2.2).2).1):Int)+1)) (IV.vslice (some g.2.1) g.1 g.1 1 (List.map bX (aE (List.take g.1 l)))) (IV.vslice (some g.2.2.2.2.2) (((((g.2.2).2).2).1).length+1) (g.2.2.2.2.1.length+1) 1 (List.map bX g.2.2.2.2.1++ [iI D])) (g.2.2.1.set (((g.2.2.2).2).2) (IObj.tip (g.2.2.2.2.1.length+1))) ((l.length-g.1)*1000002+dT l g.1 g.2.2.2.1)))))))))) (aC (decide (0<=(g.1:Int)) &&decide ((g.1:Int)< ((fB l):Int))) (aG .i64 (iS l) ((g.1:Int).toNat*3) fun p=>aG .i64 (iS l) ((g.1:Int).toNat*3+1) fun q=>aZ 1 (iS l) ((g.1:Int).toNat*3+1+1) fun(f9:Y10)(f8 a5:Nat)(a3:Y14)=> ∃(j:Y15)(ks k:Y12),(Ts l j)/\(a5=ks.length/\a3=List.map bX ks)/\((((((g.2).2).2).2).1).length=k.length/\List.map bX g.2.2.2.2.1=List.map bX k)/\(True/\ks.length=k.length/\k.length<=1000000/\j.length<=1000000/\(Tr j ks)/\(k=[(3:Int)]->eK j (Nd.mk p q ks)% (2:Nat)=1)/\∀(n:Nd),n∈j->List.length (Nd.ks n)<=1000000)/\cF g.2.2.1 g.2.1 fun(b0:Nat)=>aC (Nat.beq b0 g.1&&Nat.ble ((g.1+1)*8) 140737488355328) ((hU l (wW ((g.1:Int)+1)) (IV.vslice (some g.2.1) (g.1+1) (g.1+1) 1 (List.map bX (aE (List.take g.1 l))++ [iI (bJ (eK j (Nd.mk p q ks)) p q k)])) ((g.2.2.1).set g.2.1 (IObj.tip (g.1+1))) (l.length-x.1)) \/iA l (wW ((g.1:Int)+1)) (IV.vslice (some g.2.1) (g.1+1) (g.1+1) 1 (List.map bX (aE (List.take g.1 l))++ [iI (bJ (eK j (Nd.mk p q ks)) p q k)])) (g.2.2.1.set g.2.1 (IObj.tip (g.1+1))) (l.length-x.1)))))) (aC (aP [IV.vslice none 0 x.1 1 (List.map bX (aE (List.take x.1 l)))]) (Q (.vslice none 0 x.1 1 (List.map bX (aE (List.take x.1 l)))) h)))):=by kernel_rfl
theorem b1G: ∀xs h Q,Qr xs h Q->aL env 55 xs h Q:=by
 intro xs h Q hk;unfold Qr at hk;split at hk
 ·rename_i e1 n1 c1;obtain⟨l,⟨rfl,rfl⟩,hb,hk⟩:=hk;refine aN (Jj) (d2Z l e1 h Q) ?_;delta hU iA b5X Mu b5Y Mv b5Z Mw pF bX iQ zF Tr iS Ts rU fB Tt D0 zG b6A tI wW iI;have tn: ∀x:Nat,(x:Int).toNat=x:=AK
  obtain⟨D,a0⟩:=hb;have a1: ∀{i:Nat}(h:i<l.length),l[i].ks.length<=1000000:=fun h=>(D _ (AH h)).1
  have b3: ∀i,dT l i 0<=1000000:=fun i=>by
   rcases BB i l.length with q|q
   ·rw [fF q];have:=a1 q;omega
   ·unfold dT
    rw [BH q];exact BE _
  refine aA (by simp only [aP,bG,bR,AL]) ⟨.inl ⟨Heap.empty,JJ,JJ,JJ,JJ,trivial,trivial⟩,?_,?_⟩
  ·rintro g _ _;refine aB (fun c=>?_) (fun c=>?_)
   ·rw [decide_eq_true_eq]at c;have a3:0<l.length:=JF;refine⟨l.length*1000002+dT l 0 0,.inl ⟨g,JJ,JJ,JJ,JJ,JJ,JJ,JJ,a3,AG _⟩,?_,?_,?_⟩
    ·rintro g _ y hM;refine aA (by simp;omega) (sY y rfl (aB (fun c1=>?_) (fun c1=>?_)))
     ·rw [decide_eq_true_eq]at c1;have X:0<l[0].ks.length:=JF;have Y:l[0].ks[0] ∈l[0].ks:=AH X;refine aA (by simp;omega) (sY y rfl (aA (by simp;omega) (cX X rfl (aB (fun c2=>?_) (fun c2=>aB (fun O=>?_) (fun O=>?_))))))
      ·rw [decide_eq_true_eq]at c2;exact(.inr ⟨(1,g.next,g.push (.tip 1)),JJ,JJ,(by rw [bP y,bV Y (lD c2)];rfl),JJ,⟨⟨Nat.one_pos,y⟩,aT,AV _⟩,JK⟩)
      ·rw [decide_eq_true_eq]at O;exact(.inr ⟨(1,g.next,g.push (.tip 1)),JJ,JJ,(by rw [bP y,bV Y (lC (by show(0:Int)<=_;omega))];rfl),JJ,⟨⟨Nat.one_pos,y⟩,aT,AV _⟩,JK⟩)
      ·rw [decide_eq_false_iff_not]at c2 O;omega
     ·rw [decide_eq_false_iff_not]at c1;have z:=(uX.zero y).lst y JF;refine aA (by simp;omega) (pK (i:=0) (o:=0) y rfl ⟨l,l[0].ks,[],⟨rfl,rfl⟩,⟨rfl,rfl⟩,⟨rfl,rfl⟩,⟨(D _ (AH y)).2,z.2.1.symm,JH,a0,z.2.2.1,z.2.2.2,fun n hn=>(D n hn).1⟩,?_⟩);exact(.inr ⟨(1,g.next,g.push (.tip 1)),JJ,JJ,(by rw [bP y,show cA (l.take 0) (aE (l.take 0)) l[0]=bJ (eK l l[0]) l[0].op l[0].im []from z.1];rfl),JJ,⟨⟨Nat.one_pos,y⟩,aT,AV _⟩,JK⟩)
    ·rintro⟨i,id,g⟩ _ ⟨m,⟨⟨G,K⟩,r,p⟩⟩ hM;dsimp only at m G K r p hM⊢;have a8:(aE (l.take i)).length=i:=by rw [aY,AR];omega
     have a7:=a1 m;simp only [fF m]at hM;refine aA (by simp;omega) (sY m (by rw [tn]) (aB (fun c1=>?_) (fun c1=>?_)))
     ·rw [decide_eq_true_eq]at c1;have X:0<l[i].ks.length:=JF;have Y:l[i].ks[0] ∈l[i].ks:=AH X;refine aA (by simp;omega) (sY m (by rw [tn]) (aA (by simp;omega) (cX X rfl (aB (fun c2=>?_) (fun c2=>aB (fun O=>?_) (fun O=>?_))))))
      ·rw [decide_eq_true_eq]at c2;exact aS r (aA (by simp only [AO,AD,bL,AS,true_and];omega) (.inr ⟨(i+1,id,g.set id (.tip (i+1))),JJ,(by rw [AF _ JF];rfl),(by rw [bP m,bV Y (lD c2)];simp),JJ,⟨⟨CN _,m⟩,aK,p⟩,JK⟩))
      ·rw [decide_eq_true_eq]at O;exact aS r (aA (by simp only [AO,AD,bL,AS,true_and];omega) (.inr ⟨(i+1,id,g.set id (.tip (i+1))),JJ,(by rw [AF _ JF];rfl),(by rw [bP m,bV Y (lC JF)];simp),JJ,⟨⟨CN _,m⟩,aK,p⟩,JK⟩))
      rw [decide_eq_false_iff_not]at c2 O;have R:(l[i].ks[0]).toNat< (aE (l.take i)).length:=JF;refine aA (by simp;omega) (cX R (AO _) (aB (fun A=>?_) (fun A=>?_)))
      ·rw [beq_iff_eq]at A;exact aS r (aA (by simp only [AO,AD,bL,AS,true_and];omega) (.inr ⟨(i+1,id,g.set id (.tip (i+1))),JJ,(by rw [AF _ JF];rfl),(by rw [bP m,bV Y (lE R A)];simp),JJ,⟨⟨CN _,m⟩,aK,p⟩,JK⟩))
      rw [beq_eq_false_iff_ne]at A;obtain⟨k1,k2⟩:=jR JF R A;have hs:=(uX.zero m).step m X k1;rw [k2]at hs;refine aA (by simp;omega) (cX R (AO _) (.inr (.inr ⟨(i,id,g.push (.tip 1),1,[(aE (l.take i))[(l[i].ks[0]).toNat]],g.next),JJ,JJ,JJ,JJ,JJ,JJ,JJ,⟨m,⟨⟨G,K⟩,by rw [aQ p];exact r,BY p⟩,hs,⟨Nat.one_pos,aT,AV _,JK⟩⟩,?_⟩)));dsimp only;rw [fF m,fF m];omega
     ·rw [decide_eq_false_iff_not]at c1;have z:=(uX.zero m).lst m JF;refine aA (by simp;omega) (pK m (by rw [tn]) ⟨l,l[i].ks,[],⟨rfl,rfl⟩,⟨rfl,rfl⟩,⟨rfl,rfl⟩,⟨(D _ (AH m)).2,z.2.1.symm,JH,a0,z.2.2.1,z.2.2.2,fun n hn=>(D n hn).1⟩,?_⟩);exact aS r (aA (by simp only [AO,AD,bL,AS,true_and];omega) (.inr ⟨(i+1,id,g.set id (.tip (i+1))),JJ,(by rw [AF _ JF];rfl),(by rw [bP m,z.1];simp),JJ,⟨⟨CN _,m⟩,aK,p⟩,JK⟩))
    ·rintro⟨i,id,g,j,k,a4⟩ _ ⟨m,⟨⟨G,K⟩,r,p⟩,V,⟨a6,a2,Z,L⟩⟩ hM;dsimp only at m G K r p V a6 a2 Z L hM⊢;have a8:(aE (l.take i)).length=i:=by rw [aY,AR];omega
     have a7:=a1 m;have b2:k.length=j:=by obtain⟨n,_,h2,_⟩:=V;exact h2.2
     simp only [fF m]at hM;refine aA (by simp;omega) (sY m (by rw [tn]) (aB (fun c1=>?_) (fun c1=>?_)))
     ·rw [decide_eq_true_eq]at c1;have X:j<l[i].ks.length:=JF;have Y:l[i].ks[j] ∈l[i].ks:=AH X;refine aA (by simp;omega) (sY m (by rw [tn]) (aA (by simp;omega) (cX X (by rw [AO,tn]) (aB (fun c2=>?_) (fun c2=>aB (fun O=>?_) (fun O=>?_))))))
      ·rw [decide_eq_true_eq]at c2;exact aS r (aA (by simp only [AO,AD,bL,AS,true_and];omega) (.inr ⟨(i+1,id,g.set id (.tip (i+1))),JJ,(by rw [AF _ JF];rfl),(by rw [bP m,bV Y (lD c2)];simp),JJ,⟨⟨CN _,m⟩,aK,p⟩,JK⟩))
      ·rw [decide_eq_true_eq]at O;exact aS r (aA (by simp only [AO,AD,bL,AS,true_and];omega) (.inr ⟨(i+1,id,g.set id (.tip (i+1))),JJ,(by rw [AF _ JF];rfl),(by rw [bP m,bV Y (lC JF)];simp),JJ,⟨⟨CN _,m⟩,aK,p⟩,JK⟩))
      rw [decide_eq_false_iff_not]at c2 O;have R:(l[i].ks[j]).toNat< (aE (l.take i)).length:=JF;refine aA (by simp;omega) (cX R (AO _) (aB (fun A=>?_) (fun A=>?_)))
      ·rw [beq_iff_eq]at A;exact aS r (aA (by simp only [AO,AD,bL,AS,true_and];omega) (.inr ⟨(i+1,id,g.set id (.tip (i+1))),JJ,(by rw [AF _ JF];rfl),(by rw [bP m,bV Y (lE R A)];simp),JJ,⟨⟨CN _,m⟩,aK,p⟩,JK⟩))
      rw [beq_eq_false_iff_ne]at A;obtain⟨k1,k2⟩:=jR JF R A;have hs:=V.step m X k1;rw [k2]at hs;refine aA (by simp;omega) (cX R (AO _) (aS a2 (aA (by simp only [AO,AD,bL,AS,true_and];omega) (.inr (.inr ⟨(i,id,g.set a4 (.tip (k.length+1)),j+1,k++ [(aE (l.take i))[(l[i].ks[j]).toNat]],a4),JJ,JJ,JJ,?_,JJ,?_,JJ,⟨m,⟨⟨G,K⟩,by rw [aH L.symm];exact r,p⟩,hs,⟨JH,by rw [aK];simp,Z,L⟩⟩,?_⟩)))))
      ·simp
      ·rw [AF _ JF];rfl
      ·dsimp only;rw [fF m,fF m];omega
     ·rw [decide_eq_false_iff_not]at c1;have z:=V.lst m JF;refine aA (by simp;omega) (pK m (by rw [tn]) ⟨l,l[i].ks,k,⟨rfl,rfl⟩,⟨rfl,rfl⟩,⟨rfl,rfl⟩,⟨(D _ (AH m)).2,z.2.1.symm,JF,a0,z.2.2.1,z.2.2.2,fun n hn=>(D n hn).1⟩,?_⟩);exact aS r (aA (by simp only [AO,AD,bL,AS,true_and];omega) (.inr ⟨(i+1,id,g.set id (.tip (i+1))),JJ,(by rw [AF _ JF];rfl),(by rw [bP m,z.1];simp),JJ,⟨⟨CN _,m⟩,aK,p⟩,JK⟩))
   ·rw [decide_eq_false_iff_not]at c;have:l=[]:=CS JF;subst this;exact hk
  ·rintro⟨i0,b4,g0⟩ _ ⟨⟨a9,b0⟩,b1,a5⟩;dsimp only at a9 b0 b1 a5⊢;have b5:=b3 i0;refine aB (fun c=>?_) (fun c=>?_)
   ·rw [decide_eq_true_eq]at c;have a3:i0<l.length:=JF;refine⟨(l.length-i0)*1000002+dT l i0 0,.inr (.inl ⟨(i0,b4,g0),JJ,JJ,JJ,JJ,JJ,JJ,JJ,⟨a3,⟨⟨a9,b0⟩,b1,a5⟩⟩,AG _⟩),?_,?_,?_⟩
    ·rintro g _ y hM;exfalso;omega
    ·rintro⟨i,id,g⟩ _ ⟨m,⟨⟨G,K⟩,r,p⟩⟩ hM;dsimp only at m G K r p hM⊢;have a8:(aE (l.take i)).length=i:=by rw [aY,AR];omega
     have a7:=a1 m;simp only [fF m]at hM;refine aA (by simp;omega) (sY m (by rw [tn]) (aB (fun c1=>?_) (fun c1=>?_)))
     ·rw [decide_eq_true_eq]at c1;have X:0<l[i].ks.length:=JF;have Y:l[i].ks[0] ∈l[i].ks:=AH X;refine aA (by simp;omega) (sY m (by rw [tn]) (aA (by simp;omega) (cX X rfl (aB (fun c2=>?_) (fun c2=>aB (fun O=>?_) (fun O=>?_))))))
      ·rw [decide_eq_true_eq]at c2;exact aS r (aA (by simp only [AO,AD,bL,AS,true_and];omega) (.inr ⟨(i+1,id,g.set id (.tip (i+1))),JJ,(by rw [AF _ JF];rfl),(by rw [bP m,bV Y (lD c2)];simp),JJ,⟨⟨CN _,m⟩,aK,p⟩,JK⟩))
      ·rw [decide_eq_true_eq]at O;exact aS r (aA (by simp only [AO,AD,bL,AS,true_and];omega) (.inr ⟨(i+1,id,g.set id (.tip (i+1))),JJ,(by rw [AF _ JF];rfl),(by rw [bP m,bV Y (lC JF)];simp),JJ,⟨⟨CN _,m⟩,aK,p⟩,JK⟩))
      rw [decide_eq_false_iff_not]at c2 O;have R:(l[i].ks[0]).toNat< (aE (l.take i)).length:=JF;refine aA (by simp;omega) (cX R (AO _) (aB (fun A=>?_) (fun A=>?_)))
      ·rw [beq_iff_eq]at A;exact aS r (aA (by simp only [AO,AD,bL,AS,true_and];omega) (.inr ⟨(i+1,id,g.set id (.tip (i+1))),JJ,(by rw [AF _ JF];rfl),(by rw [bP m,bV Y (lE R A)];simp),JJ,⟨⟨CN _,m⟩,aK,p⟩,JK⟩))
      rw [beq_eq_false_iff_ne]at A;obtain⟨k1,k2⟩:=jR JF R A;have hs:=(uX.zero m).step m X k1;rw [k2]at hs;refine aA (by simp;omega) (cX R (AO _) (.inr (.inr ⟨(i,id,g.push (.tip 1),1,[(aE (l.take i))[(l[i].ks[0]).toNat]],g.next),JJ,JJ,JJ,JJ,JJ,JJ,JJ,⟨m,⟨⟨G,K⟩,by rw [aQ p];exact r,BY p⟩,hs,⟨Nat.one_pos,aT,AV _,JK⟩⟩,?_⟩)));dsimp only;rw [fF m,fF m];omega
     ·rw [decide_eq_false_iff_not]at c1;have z:=(uX.zero m).lst m JF;refine aA (by simp;omega) (pK m (by rw [tn]) ⟨l,l[i].ks,[],⟨rfl,rfl⟩,⟨rfl,rfl⟩,⟨rfl,rfl⟩,⟨(D _ (AH m)).2,z.2.1.symm,JH,a0,z.2.2.1,z.2.2.2,fun n hn=>(D n hn).1⟩,?_⟩);exact aS r (aA (by simp only [AO,AD,bL,AS,true_and];omega) (.inr ⟨(i+1,id,g.set id (.tip (i+1))),JJ,(by rw [AF _ JF];rfl),(by rw [bP m,z.1];simp),JJ,⟨⟨CN _,m⟩,aK,p⟩,JK⟩))
    ·rintro⟨i,id,g,j,k,a4⟩ _ ⟨m,⟨⟨G,K⟩,r,p⟩,V,⟨a6,a2,Z,L⟩⟩ hM;dsimp only at m G K r p V a6 a2 Z L hM⊢;have a8:(aE (l.take i)).length=i:=by rw [aY,AR];omega
     have a7:=a1 m;have b2:k.length=j:=by obtain⟨n,_,h2,_⟩:=V;exact h2.2
     simp only [fF m]at hM;refine aA (by simp;omega) (sY m (by rw [tn]) (aB (fun c1=>?_) (fun c1=>?_)))
     ·rw [decide_eq_true_eq]at c1;have X:j<l[i].ks.length:=JF;have Y:l[i].ks[j] ∈l[i].ks:=AH X;refine aA (by simp;omega) (sY m (by rw [tn]) (aA (by simp;omega) (cX X (by rw [AO,tn]) (aB (fun c2=>?_) (fun c2=>aB (fun O=>?_) (fun O=>?_))))))
      ·rw [decide_eq_true_eq]at c2;exact aS r (aA (by simp only [AO,AD,bL,AS,true_and];omega) (.inr ⟨(i+1,id,g.set id (.tip (i+1))),JJ,(by rw [AF _ JF];rfl),(by rw [bP m,bV Y (lD c2)];simp),JJ,⟨⟨CN _,m⟩,aK,p⟩,JK⟩))
      ·rw [decide_eq_true_eq]at O;exact aS r (aA (by simp only [AO,AD,bL,AS,true_and];omega) (.inr ⟨(i+1,id,g.set id (.tip (i+1))),JJ,(by rw [AF _ JF];rfl),(by rw [bP m,bV Y (lC JF)];simp),JJ,⟨⟨CN _,m⟩,aK,p⟩,JK⟩))
      rw [decide_eq_false_iff_not]at c2 O;have R:(l[i].ks[j]).toNat< (aE (l.take i)).length:=JF;refine aA (by simp;omega) (cX R (AO _) (aB (fun A=>?_) (fun A=>?_)))
      ·rw [beq_iff_eq]at A;exact aS r (aA (by simp only [AO,AD,bL,AS,true_and];omega) (.inr ⟨(i+1,id,g.set id (.tip (i+1))),JJ,(by rw [AF _ JF];rfl),(by rw [bP m,bV Y (lE R A)];simp),JJ,⟨⟨CN _,m⟩,aK,p⟩,JK⟩))
      rw [beq_eq_false_iff_ne]at A;obtain⟨k1,k2⟩:=jR JF R A;have hs:=V.step m X k1;rw [k2]at hs;refine aA (by simp;omega) (cX R (AO _) (aS a2 (aA (by simp only [AO,AD,bL,AS,true_and];omega) (.inr (.inr ⟨(i,id,g.set a4 (.tip (k.length+1)),j+1,k++ [(aE (l.take i))[(l[i].ks[j]).toNat]],a4),JJ,JJ,JJ,?_,JJ,?_,JJ,⟨m,⟨⟨G,K⟩,by rw [aH L.symm];exact r,p⟩,hs,⟨JH,by rw [aK];simp,Z,L⟩⟩,?_⟩)))))
      ·simp
      ·rw [AF _ JF];rfl
      ·dsimp only;rw [fF m,fF m];omega
     ·rw [decide_eq_false_iff_not]at c1;have z:=V.lst m JF;refine aA (by simp;omega) (pK m (by rw [tn]) ⟨l,l[i].ks,k,⟨rfl,rfl⟩,⟨rfl,rfl⟩,⟨rfl,rfl⟩,⟨(D _ (AH m)).2,z.2.1.symm,JF,a0,z.2.2.1,z.2.2.2,fun n hn=>(D n hn).1⟩,?_⟩);exact aS r (aA (by simp only [AO,AD,bL,AS,true_and];omega) (.inr ⟨(i+1,id,g.set id (.tip (i+1))),JJ,(by rw [AF _ JF];rfl),(by rw [bP m,z.1];simp),JJ,⟨⟨CN _,m⟩,aK,p⟩,JK⟩))
   ·rw [decide_eq_false_iff_not]at c;obtain rfl:i0=l.length:=JF;rw [DH];exact aA (by simp only [aP,bG,bC,AL]) (cD hk (by rw [aY]))
 ·exact hk.elim
def Oo:=aV 55 Qr Cm
theorem Wu:aO env Oo:=aF b1G (Jj)
def Eh(xs:Y14)(h:Heap)(K:KT):Prop:=match xs with
 | [.vslice none e1 n1 3 c1,.int .i64 i]=> ∃l:Y15,(n1=l.length/\c1=l.flatMap cN)/\((∀x∈l,x.ks.length<=1000000/\True)/\l.length<=1000000/\0<=i/\i<l.length)/\K (.int .i64 ((aE l).getD i.toNat 0)) h
 |_=>False
theorem c2E(l:Y15)(i:Int)(j:Nat)(h:Heap)(Q:KT):dF (aR Oo) env 28 cS bK bK [.vslice none j (l).length 3 ((l).flatMap cN),.int .i64 i] h Q=(
 aC (aP [IV.vslice none 0 l.length 3 (List.flatMap cN l),iI i]) (aI (decide (i<0)) (Q (.int .i64 0) h) (aI (decide (i>=(l.length:Int))) (Q (.int .i64 0) h) (aC (true&& (decide (0<=wW (i+1)) &&decide (wW (i+1)<=(l.length:Int)))) (∃(g:Y15),((wW (i+1)).toNat-0=g.length/\List.take (((wW (i+1)).toNat-0)*3) (List.drop 0 (List.flatMap cN l))=List.flatMap cN g)/\((∀(x:Nd),x∈g->List.length (Nd.ks x)<=1000000/\True)/\g.length<=1000000)/\aC (decide (0<=i) &&decide (i< (↑((aE g).length):Int))) (aG .i64 (List.map (IV.int .i64) (aE g)) (i.toNat*1) fun m=>Q (.int .i64 m) h)))))):=by kernel_rfl
theorem c0Y: ∀xs h Q,Eh xs h Q->aL env 28 xs h Q:=by
 intro xs h Q g;unfold Eh at g;split at g
 ·rename_i q L c1 i;obtain⟨l,⟨rfl,rfl⟩,r,g⟩:=g;refine aN (Wu) (c2E l i q h Q) ?_;delta wW iI;obtain⟨j,y,z,A⟩:=r;have G:IntKind.i64.wrap (i+1)=i+1:=AF _ JF;rw [G];have D:i.toNat<l.length:=JF;have p:(i+1).toNat-0=i.toNat+1:=JF;refine aA (by simp only [aP,bG,bR,AL]) (aB (fun c=>absurd (of_decide_eq_true c) JF) (fun _=>aB (fun c=>absurd (of_decide_eq_true c) JF) (fun _=>aA (by simp;omega) ⟨l.take (i.toNat+1),⟨by rw [p,AR];omega,by rw [p,CZ,Co]⟩,⟨fun x K=>j x (FK K),by rw [AR];omega⟩,?_⟩)));have m:i.toNat< (aE (l.take (i.toNat+1))).length:=by rw [aY,AR];omega
  refine aA (by simp;omega) (cX m (AO _) (cD g ?_))
  congr 1
  rw [tD (lI (ED (i.toNat+1) l)) m,AC,AA m];rfl
 ·exact g.elim
def Cp:=aV 28 Eh Oo
theorem Jk:aO env Cp:=aF c0Y (Wu)
def Dz(xs:Y14)(h:Heap)(K:KT):Prop:=match xs with
 | [.int .i64 op]=>K (.tuple [.int .i64 (ar op),.bool (mC op)]) h
 |_=>False
def tT:=IV.tuple [.int .i64 0,IV.bool true]
def tU:=IV.tuple [.int .i64 1,IV.bool true]
def tV:=IV.tuple [.int .i64 2,IV.bool true]
def U8:=IV.tuple [.int .i64 (-1),IV.bool true]
def U9:=IV.tuple [.int .i64 0,IV.bool false]
def V0:=IV.tuple [.int .i64 3,IV.bool true]
theorem c2A(op:Int)(h:Heap)(Q:KT):dF (aR Cp) env 294 cS bK bK [.int .i64 op] h Q=(
 aI (op==1) (Q tT h) (aI (op==2) (Q tT h) (aI (op==3) (Q tT h) (aI (op==26) (Q tT h) (aI (op==20) (Q tU h) (aI (op==21) (Q tU h) (aI (op==24) (Q tU h) (aI (op==25) (Q tU h) (aI (op==(23:Int)) (Q tV h) (aI (op==27) (Q tV h) (aI (op==29) (Q tV h) (aI (op==22) (Q V0 h) (aI (op==28) (Q V0 h) (aI (op==30) (Q U8 h) (aI (op==31) (Q U8 h) (aI (decide (op>=4)) (aI (decide (op<=19)) (Q tV h) (Q U9 h)) (Q U9 h))))))))))))))))):=by kernel_rfl
theorem c0R: ∀xs h Q,Dz xs h Q->aL env 294 xs h Q:=by
 intro xs h Q g;unfold Dz at g;split at g
 ·rename_i op;refine aN (Jk) (c2A op h Q) ?_;delta tT tU tV U8 U9 V0
  repeat' (first|refine aA ?_ ?_|refine aB (fun _=>?_) (fun _=>?_)|refine And.intro ?_ ?_)
  all_goals first|assumption|omega| (refine cD g ?_;simp only [IV.agg.injEq,IV.tuple.injEq,IV.int.injEq,IV.bool.injEq,BI,true_and,and_true];grind [ar,mC])
 ·exact g.elim
def Ch:=aV 294 Dz Cp
theorem Jf:aO env Ch:=aF c0R (Jk)
def a7G(xs:Y14)(h:Heap)(K:KT):Prop:=match xs with
 | [.int .i64 op]=>K (.vslice none 0 (uO op).length 1 ((uO op).map (IV.int .i64))) h
 |_=>False
theorem d9H(op:Int)(h:Heap)(Q:KT):dF (aR Ch) env 298 cS bK bK [.int .i64 op] h Q=(
 aI (op==22) (Q (.vslice none 0 3 1 [iI 1,iI 1,iI 1]) h) (aI (op==23) (Q (.vslice none 0 2 1 [iI 2,iI 1]) h) (aI (op==27) (Q (.vslice none 0 2 1 [iI 2,iI 1]) h) (aI (op==29) (Q (.vslice none 0 2 1 [iI 2,iI 1]) h) (aI (op==28) (Q (.vslice none 0 3 1 [iI 2,iI 1,iI 1]) h) (aI (op==24) (Q (.vslice none 0 1 1 [iI 2]) h) (aI (op==25) (Q (.vslice none 0 1 1 [iI 3]) h) (Q (.vslice none 0 2 1 [iI 1,iI 1]) h)))))))):=by kernel_rfl
theorem d7P: ∀xs h Q,a7G xs h Q->aL env 298 xs h Q:=by
 intro xs h Q g;unfold a7G at g;split at g
 ·rename_i op;refine aN (Jf) (d9H op h Q) ?_;delta iI;have fin: ∀w:Y12,uO op=w->Q (.vslice none 0 (w).length 1 ((w).map (IV.int .i64))) h:=by
   rintro _ rfl;exact g
  repeat' (refine aB (fun _=>?_) (fun _=>?_))
  all_goals simp only [beq_iff_eq,beq_eq_false_iff_ne]at*
  all_goals first|exact fin [1,1,1] (by simp [uO, *])|exact fin [2,1] (by simp [uO, *])|exact fin [2,1,1] (by simp [uO, *])|exact fin [2] (by simp [uO, *])|exact fin [3] (by simp [uO, *])|exact fin [1,1] (by simp [uO, *])
 ·exact g.elim
def a4P:=aV 298 a7G Ch
theorem a9J:aO env a4P:=aF d7P (Jf)
def d6L(s w:Y12):Inv':=eA Nat (fun i=>[(0,.v (.vslice none 0 (s).length 1 ((s).map (IV.int .i64)))),(1,.v (.vslice none 0 (w).length 1 ((w).map (IV.int .i64)))),(5,.v (.int .i64 i))]) (fun _=>[]) (fun _=>Heap.empty)
 (fun i=>i<=s.length/\∀j,j<i->s[j]?=w[j]?) (fun i=>s.length-i)
def Qa(xs:Y14)(h:Heap)(K:KT):Prop:=match xs with
 | [.vslice none e1 n1 1 c1,.vslice none e2 n2 1 c2]=> ∃s w:Y12,(n1=s.length/\c1=s.map (IV.int .i64))/\(n2=w.length/\c2=w.map (IV.int .i64))/\(s.length<=w.length/\s.length<=1000000000)/\K (.bool (decide (s=w.take s.length))) h
 |_=>False
def V1:=IV.int .i64
def Mp(s:Y12):=TV.v (.vslice none 0 s.length 1 (List.map V1 s))
def Mq(w:Y12):=TV.v (.vslice none 0 w.length 1 (List.map V1 w))
theorem d2G(s w:Y12)(l m:Nat)(h:Heap)(Q:KT):dF (aR a4P) env 296 cS (oE 3 (d6L s w)) bK [.vslice none l (s).length 1 ((s).map (IV.int .i64)),.vslice none m (w).length 1 ((w).map (IV.int .i64))] h Q=(
 aC (aP [IV.vslice none 0 s.length 1 (List.map V1 s),IV.vslice none 0 w.length 1 (List.map V1 w)]) ((∃(x:Nat),some (Mp s)=some (Mp s)/\some (Mq w)=some (Mq w)/\tI 0=tI (x:Int)/\Heap.mk PT.nil 0=Heap.mk PT.nil 0/\(x<=s.length/\∀(j:Nat),j<x->s[j]?=w[j]?)/\True)/\∀(x:Nat)(b:FF),(x<=s.length/\∀(j:Nat),j<x->s[j]?=w[j]?)->aI (decide ((x:Int)< (s.length:Int))) (aC (decide ((0:Int)<=(x:Int)) &&decide ((x:Int)< (s.length:Int))) (aG .i64 (List.map V1 s) ((x:Int).toNat*1) fun p=>aC (decide (0<=(x:Int)) &&decide ((x:Int)< (w.length:Int))) (aG .i64 (List.map V1 w) ((x:Int).toNat*1) fun q=>aI (p !=q) (Q (.bool false) h) (∃(g:Nat),some (Mp s)=some (Mp s)/\some (Mq w)=some (Mq w)/\tI (wW ((x:Int)+1))=tI (g:Int)/\Heap.mk PT.nil 0=Heap.mk PT.nil 0/\(g<=s.length/\∀(j:Nat),j<g->s[j]?=w[j]?)/\s.length-g<s.length-x)))) (Q (.bool true) h))):=by kernel_rfl
theorem d0S: ∀xs h Q,Qa xs h Q->aL env 296 xs h Q:=by
 intro xs h Q m;unfold Qa at m;split at m
 ·rename_i y L c1 z O c2;obtain⟨s,w,⟨rfl,rfl⟩,⟨rfl,rfl⟩,r,m⟩:=m;refine aN (a9J) (d2G s w y z h Q) ?_;delta Mp Mq V1 tI wW;have G: ∀x:Nat,(x:Int).toNat=x:=AK
  obtain⟨K,r⟩:=r;refine aA (by simp only [aP,bG,bC,AL]) ⟨⟨0,JJ,JJ,JJ,JJ,⟨BE _,fun j D=>JF⟩,trivial⟩,?_⟩;rintro i _ ⟨A,p⟩
  try dsimp only at A p⊢
  refine aB (fun c=>?_) (fun c=>?_)
  ·rw [decide_eq_true_eq]at c;have g:i<s.length:=JF;have l:i<w.length:=JF;simp only [G];rw [AO];refine aA (by simp;omega) (bT g (aA (by simp;omega) (bT l (aB (fun c1=>?_) (fun c1=>⟨i+1,JJ,JJ,?_,JJ,⟨g,fun j D=>?_⟩,by(try dsimp only);omega⟩)))))
   ·rw [decide_eq_false (fun e=>?_)]at m
    ·exact m
    ·have:s[i]?=(w.take s.length)[i]?:=by rw [<-e]
     rw [DD g,AA g,AA l,AB]at this;rw [this]at c1;simp at c1
   ·rw [AF _ JF];rfl
   ·rcases BB j i with q|q
    ·exact p j q
    ·obtain rfl:j=i:=JF;rw [bne_eq_false_iff_eq]at c1;rw [AA g,AA l,c1]
  ·rw [decide_eq_false_iff_not]at c;rw [decide_eq_true (CY fun j=>?_)]at m
   ·exact m
   ·rcases BB j s.length with q|q
    ·rw [DD q,p j JF]
    ·rw [BH q,BH (by simp;omega)]
 ·exact m.elim
def Nz:=aV 296 Qa a4P
theorem Wf:aO env Nz:=aF d0S (a9J)
def Pz(xs:Y14)(h:Heap)(K:KT):Prop:=match xs with
 | [.int .i64 k]=>(1<=k/\k<=1000000)/\K (.int .i64 ((k-1)/2)) h
 |_=>False
theorem d2F(k:Int)(h:Heap)(Q:KT):dF (aR Nz) env 295 cS bK bK [.int .i64 k] h Q=(
 Q (.int .i64 (wW (Int.tdiv (wW (k-1)) 2))) h):=by kernel_rfl
theorem d0R: ∀xs h Q,Pz xs h Q->aL env 295 xs h Q:=by
 intro xs h Q g;unfold Pz at g;split at g
 ·rename_i k;obtain⟨j,g⟩:=g;refine aN (Wf) (d2F k h Q) ?_;delta wW;refine cD g ?_
  congr 1
  rw [AF (k-1) JF,DA JF,AF _ JF]
 ·exact g.elim
def a4M:=aV 295 Pz Nz
theorem b9Y:aO env a4M:=aF d0R (Wf)
def Ed(xs:Y14)(h:Heap)(K:KT):Prop:=match xs with
 | [.int .i64 k]=> ∃m:Nat,(1<=m/\m<=16)/\k=2*(m:Int)+1/\∀w:Y12,w=lsL m->K (.vslice none 0 (w).length 1 ((w).map (IV.int .i64))) h
 |_=>False
theorem c0V: ∀xs h Q,Ed xs h Q->aL env 297 xs h Q:=by
 intro xs h Q g;unfold Ed at g;split at g
 ·rename_i k;obtain⟨m,j,rfl,g⟩:=g;have h2:m=1\/m=2\/m=3\/m=4\/m=5\/m=6\/m=7\/m=8\/m=9\/m=10\/m=11\/m=12\/m=13\/m=14\/m=15\/m=16:=JF;rcases h2 with rfl|rfl|rfl|rfl|rfl|rfl|rfl|rfl|rfl|rfl|rfl|rfl|rfl|rfl|rfl|rfl
  all_goals exact⟨400,_,h,by kernel_rfl,g _ rfl⟩
 ·exact g.elim
def Ck:=aV 297 Ed a4M
theorem Jh:aO env Ck:=aF c0V (b9Y)
def a7S(xs:Y14)(h:Heap)(K:KT):Prop:=match xs with
 | [.vslice none e0 n0 3 c0,.agg [.int .i64 op,.int .i64 im,.vslice none e1 n1 1 c1]]=> ∃(l:Y15)(ks:Y12),(n0=l.length/\c0=l.flatMap cN)/\(n1=ks.length/\c1=ks.map (IV.int .i64))/\op≠25/\K (.bool (iH op im)) h
 |_=>False
def yZ(im:Int):=decide (im>=0)
def vN:=IV.bool false
theorem d9S(l:Y15)(op im:Int)(ks:Y12)(e0 m:Nat)(h:Heap)(Q:KT):dF (aR Ck) env 250 cS bK bK [.vslice none e0 (l).length 3 ((l).flatMap cN),.agg [.int .i64 op,.int .i64 im,.vslice none m ks.length 1 (ks.map (IV.int .i64))]] h Q=(
 aC (aP [IV.vslice none 0 l.length 3 (List.flatMap cN l),IV.agg [.int .i64 op,iI im,IV.vslice none 0 ks.length 1 (List.map (IV.int .i64) ks)]]) (aI (op==1) (Q (.bool true) h) (aI (op==2) (aI (yZ im) (Q (.bool (decide (im<=5))) h) (Q vN h)) (aI (op==3) (aI (yZ im) (Q (.bool (decide (im<=255))) h) (Q vN h)) (aI (op==23) (aI (yZ im) (Q (.bool (decide (im<=3))) h) (Q vN h)) (aI (op==28) (aI (yZ im) (Q (.bool (decide (im<=3))) h) (Q vN h)) (aI (op==27) (aI (decide (im>=1)) (Q (.bool (decide (im<=1000016))) h) (Q vN h)) (aI (op==30) (aI (yZ im) (Q (.bool (decide (im<=7))) h) (Q vN h)) (aI (op==31) (aI (yZ im) (Q (.bool (decide (im<=15))) h) (Q vN h)) (aI (op==25) (aC (true&&decide (0< (ks.length:Int))) (aG .i64 (List.map (IV.int .i64) ks) 0 fun j=>aC (decide (0<=j) &&decide (j< (l.length:Int))) (aZ 1 (List.flatMap cN l) (j.toNat*3+2) fun(r:Y10)(q g:Nat)(p:Y14)=>(1<=(g:Int)/\(g:Int)<=1000000)/\aI (yZ im) (Q (.bool (decide (im<=wW (((g:Int)-1)/ (2:Int)-1)))) h) (Q vN h)))) (aI (yZ im) (Q (.bool (decide (im<=0))) h) (Q vN h)))))))))))):=by kernel_rfl
theorem c5W: ∀xs h Q,a7S xs h Q->aL env 250 xs h Q:=by
 intro xs h Q g;unfold a7S at g;split at g
 ·rename_i e0 O K op im A R c1;obtain⟨l,ks,⟨rfl,rfl⟩,⟨rfl,rfl⟩,D,g⟩:=g;refine aN (Jh) (d9S l op im ks e0 A h Q) ?_;delta yZ vN wW iI;have fin: ∀b:Bool,(b=true ↔ iH op im=true)->Q (.bool b) h:=fun b e=>by
   rw [<-Bool.eq_iff_iff]at e;rw [e];exact g
  have L:B1 2=5/\B1 3=255/\B1 23=3/\B1 28=3/\B1 27=1000016/\B1 30=7/\B1 31=15:=JG;refine aA (by simp only [aP,bG,bC,bR,AL]) ?_;unfold iH at fin;simp only [decide_eq_true_eq]at fin;refine aB (fun c1=>?_) (fun c1=>?_)
  ·exact fin _ (by rw [beq_iff_eq]at c1;simp [c1])
  refine aB (fun c2=>?_) (fun c2=>?_)
  ·rw [beq_iff_eq]at c2;subst c2;refine aB (fun d=>fin _ ?_) (fun d=>fin _ ?_)
   ·rw [decide_eq_true_eq]at d⊢;omega
   ·rw [decide_eq_false_iff_not]at d;simp only [AU,false_iff];omega
  refine aB (fun c2=>?_) (fun m=>?_)
  ·rw [beq_iff_eq]at c2;subst c2;refine aB (fun d=>fin _ ?_) (fun d=>fin _ ?_)
   ·rw [decide_eq_true_eq]at d⊢;omega
   ·rw [decide_eq_false_iff_not]at d;simp only [AU,false_iff];omega
  refine aB (fun c2=>?_) (fun p=>?_)
  ·rw [beq_iff_eq]at c2;subst c2;refine aB (fun d=>fin _ ?_) (fun d=>fin _ ?_)
   ·rw [decide_eq_true_eq]at d⊢;omega
   ·rw [decide_eq_false_iff_not]at d;simp only [AU,false_iff];omega
  refine aB (fun c2=>?_) (fun q=>?_)
  ·rw [beq_iff_eq]at c2;subst c2;refine aB (fun d=>fin _ ?_) (fun d=>fin _ ?_)
   ·rw [decide_eq_true_eq]at d⊢;omega
   ·rw [decide_eq_false_iff_not]at d;simp only [AU,false_iff];omega
  refine aB (fun c2=>?_) (fun r=>?_)
  ·rw [beq_iff_eq]at c2;subst c2;refine aB (fun d=>fin _ ?_) (fun d=>fin _ ?_)
   ·rw [decide_eq_true_eq]at d⊢;omega
   ·rw [decide_eq_false_iff_not]at d;simp only [AU,false_iff];omega
  refine aB (fun c2=>?_) (fun y=>?_)
  ·rw [beq_iff_eq]at c2;subst c2;refine aB (fun d=>fin _ ?_) (fun d=>fin _ ?_)
   ·rw [decide_eq_true_eq]at d⊢;omega
   ·rw [decide_eq_false_iff_not]at d;simp only [AU,false_iff];omega
  refine aB (fun c2=>?_) (fun z=>?_)
  ·rw [beq_iff_eq]at c2;subst c2;refine aB (fun d=>fin _ ?_) (fun d=>fin _ ?_)
   ·rw [decide_eq_true_eq]at d⊢;omega
   ·rw [decide_eq_false_iff_not]at d;simp only [AU,false_iff];omega
  refine aB (fun j=>absurd (beq_iff_eq.1 j) D) (fun j=>?_);rw [beq_eq_false_iff_ne]at c1 c2 m p q r y z j;have G:B1 op= -1:=by unfold B1;rw [if_neg JF,if_neg JF,if_neg JF,if_neg JF,if_neg JF,if_neg JF]
  rw [G]at fin;refine aB (fun d=>fin _ ?_) (fun d=>fin _ ?_)
  ·rw [decide_eq_true_eq]at d⊢;omega
  ·rw [decide_eq_false_iff_not]at d;simp only [AU,false_iff];omega
 ·exact g.elim
def a5C:=aV 250 a7S Ck
theorem a9S:aO env a5C:=aF c5W (Jh)
def a7T(xs:Y14)(h:Heap)(K:KT):Prop:=match xs with
 | [.agg [.int .i64 op,.int .i64 im,.vslice none e1 n1 1 c1],.vslice none e2 n2 1 c2]=> ∃(ks s:Y12),(n1=ks.length/\c1=ks.map (IV.int .i64))/\(n2=s.length/\c2=s.map (IV.int .i64))/\((op≠25/\op≠30/\op≠31)/\s.length<=1000000)/\K (.bool (wP op s)) h
 |_=>False
def Me(op:Int)(s:Y12)(h:Heap)(Q:KT):=(∃(g w:Y12),(s.length=g.length/\List.map (IV.int .i64) s=List.map (IV.int .i64) g)/\((uO op).length=w.length/\List.map (IV.int .i64) (uO op)=List.map (IV.int .i64) w)/\(g.length<=w.length/\g.length<=1000000000)/\Q (.bool (decide (g=List.take g.length w)))
 h)
def oP:=IV.bool false
def b4P(s:Y12)(h:Heap)(Q:KT):=aI (decide ((s.length:Int)>=3)) (aI (Int.tmod (s.length:Int) 2==1) ((1<=(s.length:Int)/\(s.length:Int)<=1000000)/\aI (decide (((s.length:Int)-1)/ (2:Int)<=16)) (∃(m:Nat),(1<=m/\m<=16)/\(s.length:Int)=2*(m:Int)+1/\∀(w:Y12),w=2::(List.replicate
 m 1++(2:Int)::List.replicate (m-1) 1)-> ∃(g j:Y12),(s.length=g.length/\List.map (IV.int .i64) s=List.map (IV.int .i64) g)/\(w.length=j.length/\List.map (IV.int .i64) w=List.map (IV.int .i64) j)/\(g.length<=j.length/\g.length<=1000000000)
 /\Q (.bool (decide (g=List.take g.length j))) h) (Q oP h)) (Q oP h)) (Q oP h)
def vM(s:Y12):=List.map (IV.int .i64) s
def Mf(s:Y12):=true&&decide (0< (s.length:Int))
def b4Q(s:Y12):=aC (true&& (decide (1<=(s.length:Int)) &&decide ((s.length:Int)<=(s.length:Int)))) False
theorem d9T(op im:Int)(ks s:Y12)(g j:Nat)(h:Heap)(Q:KT):dF (aR a5C) env 249 cS bK bK [.agg [.int .i64 op,.int .i64 im,.vslice none g ks.length 1 (ks.map (IV.int .i64))],.vslice none j (s).length 1 ((s).map (IV.int .i64))] h Q=(
 aC (aP [IV.agg [.int .i64 op,iI im,IV.vslice none 0 ks.length 1 (List.map (IV.int .i64) ks)],IV.vslice none 0 s.length 1 (vM s)]) (aI (!mC op) (Q oP h) (aI (decide (ar op>=0)) (aI (ar op !=((s.length):Int)) (Q oP h) (aI (op==31) (b4P s h Q) (aI (op==30) (aI (decide ((s.length:Int)<1)) (Q oP h) (aI (decide ((s.length:Int)>7)) (Q oP h) (aC (Mf s) (aG .i64 (vM s) 0 fun l=>aI (l !=(2:Int)) (Q oP h) (b4Q s))))) (aI (op==22) (aC (true&&decide (1< (s.length:Int))) (aG .i64 (vM s) 1 fun m=>aI (m==2) (aC (Mf s) (aG .i64 (vM s) 0 fun p=>aI (p==1) (aC (true&&decide (2< (s.length:Int))) (aG .i64 (vM s) 2 fun q=>Q (.bool (q==2)) h)) (Q oP h))) (Me op s h Q))) (Me op s h Q))))) (aI (op==31) (b4P s h Q) (aI (op==30) (aI (decide ((s.length:Int)< (1:Int))) (Q oP h) (aI (decide ((s.length:Int)>7)) (Q oP h) (aC (Mf s) (aG .i64 (vM s) 0 fun r=>aI (r !=2) (Q oP h) (b4Q s))))) (aI (op==22) (aC (true&&decide (1< (s.length:Int))) (aG .i64 (vM s) 1 fun y=>aI (y==2) (aC (Mf s) (aG .i64 (vM s) 0 fun z=>aI (z==1) (aC (true&&decide (2< (s.length:Int))) (aG .i64 (vM s) 2 fun A=>Q (.bool (A==(2:Int))) h)) (Q oP h))) (Me op s h Q))) (Me op s h Q))))))):=by kernel_rfl
theorem c5X: ∀xs h Q,a7T xs h Q->aL env 249 xs h Q:=by
 intro xs h Q g;unfold a7T at g;split at g
 ·rename_i op im p D c1 m G c2;obtain⟨ks,s,⟨rfl,rfl⟩,⟨rfl,rfl⟩,r,g⟩:=g;refine aN (a9S) (d9T op im ks s p m h Q) ?_;delta Me b4P vM Mf b4Q oP iI;obtain⟨h3,A⟩:=r;refine aA (by simp only [aP,bG,bC,AL]) (aB (fun c=>?_) (fun c=>?_))
  ·have e:wP op s=false:=by unfold wP;simp at c;simp [c]
   rw [e]at g;exact g
  rw [BO]at c;have z:=d0C c h3;refine aB (fun _=>?_) (fun d=>by rw [decide_eq_false_iff_not]at d;omega);refine aB (fun c1=>?_) (fun c1=>?_)
  ·have e:wP op s=false:=by unfold wP;rw [bne_iff_ne]at c1;simp [Ne.symm c1]
   rw [e]at g;exact g
  rw [bne_eq_false_iff_eq]at c1;have y:wP op s=(if op=22/\s.getD 1 0=2 then decide (s=[1,2,2])else decide (s=(uO op).take s.length)):=by
   unfold wP
   rw [c,decide_eq_true c1.symm];rfl
  rw [y]at g;refine aB (fun d=>absurd (beq_iff_eq.1 d) h3.2.2) (fun _=>aB (fun d=>absurd (beq_iff_eq.1 d) h3.2.1) (fun _=>aB (fun d=>?_) (fun d=>?_)))
  ·rw [beq_iff_eq]at d;subst d;obtain⟨a,b,e,rfl⟩:=b9G (c1.symm.trans JG);refine aA JH (bT (l:=[a,b,e]) (i:=1) JH (aB (fun f=>aA JH (bT (l:=[a,b,e]) (i:=0) JH (aB (fun j=>aA JH (bT (l:=[a,b,e]) (i:=2) JH ?_)) (fun j=>?_)))) (fun f=>⟨[a,b,e],uO 22,⟨rfl,rfl⟩,⟨rfl,rfl⟩,⟨by show 3<=(uO 22).length;decide,JH⟩,?_⟩)))
   ·simp at f j;subst f j;simp at g;simp only [GB,GA];have m:(e==2)=decide (e=2):=rfl;rw [m];exact g
   ·simp at f j;subst f;simp [j]at g;exact g
   ·simp at f;rw [if_neg (by simp [f])]at g;exact g
  ·rw [beq_eq_false_iff_ne]at d;rw [if_neg (fun q=>d q.1)]at g;exact⟨s,uO op,⟨rfl,rfl⟩,⟨rfl,rfl⟩,⟨JF,JF⟩,g⟩
 ·exact g.elim
def a5D:=aV 249 a7T a5C
theorem a9U:aO env a5D:=aF c5X (a9S)
def Eu(xs:Y14)(h:Heap)(K:KT):Prop:=match xs with
 | [.vslice none e0 n0 3 c0,.agg [.int .i64 25,.int .i64 im,.vslice none e1 n1 1 c1]]=> ∃(l:Y15)(ks:Y12),(n0=l.length/\c0=l.flatMap cN)/\(n1=ks.length/\c1=ks.map (IV.int .i64))/\(∃q:Int,ks=[q]/\(0<=q/\q<l.length)/\3<=(l.getD q.toNat default).ks.length/\(l.getD q.toNat default).ks.length<=33)/\K (.bool (decide (0<=im/\2*im+3<=(l.getD (ks.getD 0 0).toNat default).ks.length))) h
 |_=>False
theorem c2K(l:Y15)(im:Int)(ks:Y12)(e0 m:Nat)(h:Heap)(Q:KT):dF (aR a5D) env 250 cS bK bK [.vslice none e0 (l).length 3 ((l).flatMap cN),.agg [.int .i64 25,.int .i64 im,.vslice none m ks.length 1 (ks.map (IV.int .i64))]] h Q=(
 aC (aP [IV.vslice none 0 l.length 3 (List.flatMap cN l),IV.agg [.int .i64 25,iI im,IV.vslice none 0 ks.length 1 (List.map (IV.int .i64) ks)]]) (aC (true&&decide (0< (ks.length:Int))) (aG .i64 (List.map (IV.int .i64) ks) 0 fun j=>aC (decide (0<=j) &&decide (j< (l.length:Int))) (aZ 1 (List.flatMap cN l) (j.toNat*3+2) fun(r:Y10)(q g:Nat)(p:Y14)=>(1<=(g:Int)/\(g:Int)<=1000000)/\aI (decide (im>=0)) (Q (.bool (decide (im<=wW (((g:Int)-1)/ (2:Int)-1)))) h) (Q (.bool false) h))))):=by kernel_rfl
theorem Xk: ∀xs h Q,Eu xs h Q->aL env 250 xs h Q:=by
 intro xs h Q g;unfold Eu at g;split at g
 ·rename_i e0 G A im p K c1;obtain⟨l,ks,⟨rfl,rfl⟩,⟨rfl,rfl⟩,y,g⟩:=g;refine aN (a9U) (c2K l im ks e0 p h Q) ?_;delta wW iI;obtain⟨q,rfl,D,h3,m⟩:=y;have j:q.toNat<l.length:=JF;have r:(l.getD q.toNat default).ks.length=(l[q.toNat]).ks.length:=by rw [AC,AA j];rfl
  replace g:=(show Q (.bool (decide (0<=im/\2*im+3<=((l.getD q.toNat default).ks.length:Int)))) h from g);rw [r]at h3 m g;refine aA (by simp only [aP,bG,bC,bR,AL]) (aA JH (bT (l:=[q]) (i:=0) JH (aA (by simp;omega) (sY j rfl ⟨⟨JF,JF⟩,?_⟩))));have z:IntKind.i64.wrap ((((l[q.toNat]).ks.length:Int)-1)/2-1)=(((l[q.toNat]).ks.length:Int)-1)/2-1:=AF _ JF;rw [z];refine aB (fun c=>?_) (fun c=>?_)
  ·rw [decide_eq_true_eq]at c;refine cD g ?_
   congr 1
   rw [FS,decide_eq_true_eq,decide_eq_true_eq];omega
  ·rw [decide_eq_false_iff_not]at c;refine cD g ?_
   congr 1
   rw [decide_eq_false_iff_not];omega
 ·exact g.elim
def Ug:=aV 250 Eu a5D
theorem a9T:aO env Ug:=aF Xk (a9U)
def Qu(xs:Y14)(h:Heap)(K:KT):Prop:=match xs with
 | [.vslice none e0 n0 3 c0,.agg [.int .i64 op,.int .i64 im,.vslice none e1 n1 1 c1]]=> ∃(l:Y15)(ks:Y12),(n0=l.length/\c0=l.flatMap cN)/\(n1=ks.length/\c1=ks.map (IV.int .i64))/\(op=25-> ∃q:Int,ks=[q]/\(0<=q/\q<l.length)/\3<=(l.getD q.toNat default).ks.length/\(l.getD q.toNat default).ks.length<=33)/\K (.bool (yJ (eK l ⟨op,im,ks⟩) op im)) h
 |_=>False
theorem d1K: ∀xs h Q,Qu xs h Q->aL env 250 xs h Q:=by
 intro xs h Q g;unfold Qu at g;split at g
 ·rename_i e0 q m op im p r c1;obtain⟨l,ks,⟨rfl,rfl⟩,⟨rfl,rfl⟩,j,g⟩:=g;unfold yJ at g
  by_cases o25:op=25
  ·subst o25;rw [if_pos rfl]at g;exact Xk _ _ _ ⟨l,ks,⟨rfl,rfl⟩,⟨rfl,rfl⟩,j rfl,g⟩
  ·rw [if_neg o25]at g;exact c5W _ _ _ ⟨l,ks,⟨rfl,rfl⟩,⟨rfl,rfl⟩,o25,g⟩
 ·exact g.elim
def Ou:=aV 250 Qu Ug
theorem Wx:aO env Ou:=aF d1K (a9T)
def Ey(xs:Y14)(h:Heap)(K:KT):Prop:=match xs with
 | [.agg [.int .i64 31,.int .i64 im,.vslice none e1 n1 1 c1],.vslice none e2 n2 1 c2]=> ∃(ks s:Y12),(n1=ks.length/\c1=ks.map (IV.int .i64))/\(n2=s.length/\c2=s.map (IV.int .i64))/\s.length<=1000000/\K (.bool (sI s)) h
 |_=>False
theorem c2N(im:Int)(ks s:Y12)(l p:Nat)(h:Heap)(Q:KT):dF (aR Ou) env 249 cS bK bK [.agg [.int .i64 31,.int .i64 im,.vslice none l ks.length 1 (ks.map (IV.int .i64))],.vslice none p (s).length 1 ((s).map (IV.int .i64))] h Q=(
 aC (aP [IV.agg [.int .i64 31,iI im,IV.vslice none 0 ks.length 1 (List.map (IV.int .i64) ks)],IV.vslice none 0 s.length 1 (List.map (IV.int .i64) s)]) (aI (decide ((s.length:Int)>=3)) (aI (Int.tmod (s.length:Int) 2==1) ((1<=(s.length:Int)/\(s.length:Int)<=1000000)/\aI (decide (((s.length:Int)-1)/ (2:Int)<=16)) (∃(m:Nat),(1<=m/\m<=16)/\(s.length:Int)=2*(m:Int)+1/\∀(w:Y12),w=2::(List.replicate m 1++(2:Int)::List.replicate (m-1) 1)-> ∃(g j:Y12),(s.length=g.length/\List.map (IV.int .i64) s=List.map (IV.int .i64) g)/\(w.length=j.length/\List.map (IV.int .i64) w=List.map (IV.int .i64) j)/\(g.length<=j.length/\g.length<=1000000000)/\Q (.bool (decide (g=List.take g.length j))) h) (Q (.bool false) h)) (Q (.bool false) h)) (Q (.bool false) h))):=by kernel_rfl
theorem Xn: ∀xs h Q,Ey xs h Q->aL env 249 xs h Q:=by
 intro xs h Q g;unfold Ey at g;split at g
 ·rename_i im y G c1 z K c2;obtain⟨ks,s,⟨rfl,rfl⟩,⟨rfl,rfl⟩,D,g⟩:=g;refine aN (Wx) (c2N im ks s y z h Q) ?_;delta iI;have m: ¬sI s=true->Q (.bool false) h:=fun e=>by
   rw [FH]at e;rw [e]at g;exact g
  have j:=fun q:sI s=true=>pN q
  refine aA (by simp only [aP,bG,bC,AL]) (aB (fun c1=>?_) (fun c=>m (fun q=>by rw [decide_eq_false_iff_not]at c;have:=j q;omega)));rw [decide_eq_true_eq]at c1;rw [EM JF];refine aB (fun c2=>⟨⟨JF,JF⟩,?_⟩) (fun c=>m (fun q=>by rw [beq_eq_false_iff_ne]at c;have:=j q;omega));rw [beq_iff_eq]at c2;refine aB (fun r=>?_) (fun c=>m (fun q=>by rw [decide_eq_false_iff_not]at c;have:=j q;omega));rw [decide_eq_true_eq]at r;refine⟨s.length/2,⟨JF,JF⟩,JF,fun w l=>?_⟩;have p:w=lsL (s.length/2):=l;have A:w.length=s.length:=by rw [p,Vp JF];omega
  refine⟨s,w,⟨rfl,rfl⟩,⟨rfl,rfl⟩,⟨JF,JF⟩,cD g ?_⟩
  congr 1
  rw [AM JF,p,FS,decide_eq_true_eq];exact⟨fun q=>(j q).2.2.2,fun q=>by unfold sI;simp only [AD,decide_eq_true_eq];exact⟨JF,JF,JF,q⟩⟩
 ·exact g.elim
def Cz:=aV 249 Ey Ou
theorem Js:aO env Cz:=aF Xn (Wx)
def Ev(xs:Y14)(h:Heap)(K:KT):Prop:=match xs with
 | [.agg [.int .i64 25,.int .i64 im,.vslice none e1 n1 1 c1],.vslice none e2 n2 1 c2]=> ∃(ks s:Y12),(n1=ks.length/\c1=ks.map (IV.int .i64))/\(n2=s.length/\c2=s.map (IV.int .i64))/\s.length<=1000000/\K (.bool (decide (s=[3]))) h
 |_=>False
theorem c2L(im:Int)(ks s:Y12)(j l:Nat)(h:Heap)(Q:KT):dF (aR Cz) env 249 cS bK bK [.agg [.int .i64 25,.int .i64 im,.vslice none j ks.length 1 (ks.map (IV.int .i64))],.vslice none l (s).length 1 ((s).map (IV.int .i64))] h Q=(
 aC (aP [IV.agg [.int .i64 25,iI im,IV.vslice none 0 ks.length 1 (List.map (IV.int .i64) ks)],IV.vslice none 0 s.length 1 (List.map (IV.int .i64) s)]) (aI ((1:Int) !=(s.length:Int)) (Q (.bool false) h) (∃(g w:Y12),(s.length=g.length/\List.map (IV.int .i64) s=List.map (IV.int .i64) g)/\((1:Nat)=w.length/\[iI 3]=List.map (IV.int .i64) w)/\(g.length<=w.length/\g.length<=1000000000)/\Q (.bool (decide (g=List.take g.length w))) h))):=by kernel_rfl
theorem Xl: ∀xs h Q,Ev xs h Q->aL env 249 xs h Q:=by
 intro xs h Q g;unfold Ev at g;split at g
 ·rename_i im l q c1 m r c2;obtain⟨ks,s,⟨rfl,rfl⟩,⟨rfl,rfl⟩,p,g⟩:=g;refine aN (Js) (c2L im ks s l m h Q) ?_;delta iI;refine aA (by simp only [aP,bG,bC,AL]) (aB (fun c=>?_) (fun c=>?_))
  ·rw [decide_eq_false (fun e=>by rw [e]at c;simp at c)]at g;exact g
  ·rw [bne_eq_false_iff_eq]at c;have j:s.length=1:=JF;refine⟨s,[3],⟨rfl,rfl⟩,⟨rfl,rfl⟩,⟨by simp [j],JF⟩,?_⟩;rw [j];exact g
 ·exact g.elim
def Cy:=aV 249 Ev Cz
theorem Jr:aO env Cy:=aF Xl (Js)
def e4C(s:Y12):Inv':=eA (Nat×Nat×Y12) (fun x=>[(72,.v (.vslice none x.2.1 x.2.2.length 1 (x.2.2.map (IV.int .i64)))),(73,.v (.int .i64 (x.2.2.length:Int))),(74,.v (.int .i64 (x.1:Int)))]) (fun _=>[]) (fun _=>Heap.empty)
 (fun x=>x.2.2=s.drop 1/\x.1<=x.2.2.length/\∀j,j<x.1->x.2.2[j]?=some 1) (fun x=>x.2.2.length-x.1)
def Ew(xs:Y14)(h:Heap)(K:KT):Prop:=match xs with
 | [.agg [.int .i64 30,.int .i64 im,.vslice none e1 n1 1 c1],.vslice none e2 n2 1 c2]=> ∃(ks s:Y12),(n1=ks.length/\c1=ks.map (IV.int .i64))/\(n2=s.length/\c2=s.map (IV.int .i64))/\s.length<=1000000/\K (.bool (uM s)) h
 |_=>False
def tL(x:Nat×Nat×Y12):=x.2.2
def F7:=IV.int .i64
def b2P(s:Y12)(x:Nat×Nat×Y12):=(x.2.2=List.drop 1 s/\x.1<=List.length (tL x)/\∀(j:Nat),j<x.1->(tL x)[j]?=some (1:Int))
def b2Q(x:Nat×Nat×Y12):=TV.v (.vslice none x.2.1 ((tL x).length) 1 (List.map F7 (tL x)))
def Ye(s:Y12):=(s.length:Int).toNat-1
theorem c2M(im:Int)(ks s:Y12)(l m:Nat)(h:Heap)(Q:KT):dF (aR Cy) env 249 cS (oE 11 (e4C s)) bK [.agg [.int .i64 30,.int .i64 im,.vslice none l ks.length 1 (ks.map (IV.int .i64))],.vslice none m (s).length 1 ((s).map (IV.int .i64))] h Q=(
 aC (aP [IV.agg [.int .i64 30,iI im,IV.vslice none 0 ks.length 1 (List.map F7 ks)],IV.vslice none 0 s.length 1 (List.map F7 s)]) (aI (decide ((s.length:Int)<1)) (Q (.bool false) h) (aI (decide ((s.length:Int)>7)) (Q (.bool false) h) (aC (true&&decide (0< (s.length:Int))) (aG .i64 (List.map F7 s) 0 fun p=>aI (p !=2) (Q (.bool false) h) (aC (true&& (decide (1<=(s.length:Int)) &&decide ((s.length:Int)<=(s.length:Int)))) ((∃(x:Nat×Nat×Y12),some (TV.v (.vslice none ((0:Nat)- (s.length- (s.length:Int).toNat)*1) (Ye s) 1 (List.take ((Ye s)*1) (List.drop 1 (List.map F7 s)))))=some (b2Q x)/\tI ((Ye s):Int)=tI (↑((tL x).length):Int)/\tI 0=tI (x.1:Int)/\Heap.mk PT.nil 0=Heap.mk PT.nil 0/\(b2P s x)/\True)/\∀(x:Nat×Nat×Y12)(b:FF),(b2P s x)->aI (decide ((x.1:Int)< (↑((tL x).length):Int))) (aC (decide (0<=(x.1:Int)) &&decide ((x.1:Int)< (↑((tL x).length):Int))) (aG .i64 (List.map F7 (tL x)) ((x.1:Int).toNat*1) fun q=>aI (q !=1) (Q (.bool false) h) (∃(g:Nat×Nat×Y12),some (b2Q x)=some (TV.v (.vslice none g.2.1 g.2.2.length 1 (List.map F7 ((g.2).2))))/\tI (↑((tL x).length):Int)=tI (g.2.2.length:Int)/\tI (wW ((x.1:Int)+1))=tI ((g.1):Int)/\Heap.mk PT.nil 0=Heap.mk PT.nil 0/\(g.2.2=List.drop 1 s/\g.1<=g.2.2.length/\∀(j:Nat),j<g.1->g.2.2[j]?=some (1:Int))/\g.2.2.length-g.1< (tL x).length-x.1))) (Q (.bool true) h)))))))):=by kernel_rfl
theorem Xm: ∀xs h Q,Ew xs h Q->aL env 249 xs h Q:=by
 intro xs h Q l;unfold Ew at l;split at l
 ·rename_i im D n1 c1 Z n2 c2;obtain⟨ks,s,⟨rfl,rfl⟩,⟨rfl,rfl⟩,hl,l⟩:=l;refine aN (Jr) (c2M im ks s D Z h Q) ?_;delta tL F7 b2P b2Q Ye tI wW iI;have A:uM s=false->Q (.bool false) h:=fun e=>by rw [e]at l;exact l
  have ht:uM s=true->Q (.bool true) h:=fun e=>by rw [e]at l;exact l
  have R: ∀{p:Prop},(uM s=true->p)-> ¬p->uM s=false:=fun f n=>by
   cases e:uM s
   ·rfl
   ·exact absurd (f e) n
  refine aA (by simp only [aP,bG,bC,AL]) ?_
  cases s with
  |nil=>exact gO (fun c=>A rfl) (fun c=>absurd (show(([]:Y12).length:Int)<1 by simp) c)
  |cons a r=>
   have g:(a::r).length=r.length+1:=AW;have G:uM (a::r)=true->r.length<=6/\a=2/\(r.all fun x=>decide (x=1))=true:=fun e=>by
    simp only [uM,AD,decide_eq_true_eq]at e;exact e
   refine gO (fun c=>absurd c (by rw [g];omega)) (fun _=>gO (fun c=>A (R G (fun q=>by have:=q.1;rw [g]at c;omega))) (fun X=>aA (by rw [BC,decide_eq_true_eq,g];omega) (dN (n:=a) rfl (aB (fun c=>A (R G (fun q=>?_))) (fun c2=>aA (by simp only [BC,AD,decide_eq_true_eq,g];omega) ?_)))))
   ·rw [bne_iff_ne]at c;exact c q.2.1
   rw [bne_eq_false_iff_eq]at c2;have D:(((a::r).length:Nat):Int).toNat-1=r.length:=by rw [AK,g];rfl
   rw [D,BP,EB,CZ,AM (by rw [BG];omega)];refine⟨⟨(0,_,r),rfl,rfl,rfl,rfl,⟨rfl,BE _,fun j y=>absurd y (CF _)⟩,True.intro⟩,?_⟩;rintro⟨i,e,r2⟩ _ ⟨V,hi,y⟩;have V:r2=r:=V;subst V;dsimp only at hi y⊢;refine gO (fun Y=>?_) (fun Y=>ht ?_)
   ·have m:i<r2.length:=JF;refine aW JF (dN (n:=r2[i]) (by rw [AK,AO,BL,AA m];rfl) (aB (fun c=>A (R G (fun q=>?_))) (fun c=>⟨(i+1,e,r2),rfl,rfl,(by(try dsimp only);rw [AF _ JF];rfl),rfl,⟨rfl,m,fun j K=>?_⟩,JK⟩)))
    ·rw [bne_iff_ne]at c;exact c (by simpa using BQ.1 q.2.2 _ (AH m))
    ·rw [bne_eq_false_iff_eq]at c;rcases BB j i with z|z
     ·exact y j z
     ·have L:j=i:=by
       have:j<i+1:=K;omega
      subst L;rw [AA m,c]
   ·have h6:r2.length<=6:=by rw [g]at X;omega
    simp only [uM,AD,decide_eq_true_eq];refine⟨h6,c2,BQ.2 fun x hx=>?_⟩;obtain⟨j,O,rfl⟩:=CT.1 hx;have:=y j JF;rw [AA O,AB]at this;simpa using this
 ·exact l.elim
def Uh:=aV 249 Ew Cy
theorem a9V:aO env Uh:=aF Xm (Jr)
def Qw(xs:Y14)(h:Heap)(K:KT):Prop:=match xs with
 | [.agg [.int .i64 op,.int .i64 im,.vslice none e1 n1 1 c1],.vslice none e2 n2 1 c2]=> ∃(ks s:Y12),(n1=ks.length/\c1=ks.map (IV.int .i64))/\(n2=s.length/\c2=s.map (IV.int .i64))/\(True/\True/\s.length<=1000000)/\K (.bool (rZ op s)) h
 |_=>False
theorem d1M: ∀xs h Q,Qw xs h Q->aL env 249 xs h Q:=by
 intro xs h Q g;unfold Qw at g;split at g
 ·rename_i op im l p c1 m q c2;obtain⟨ks,s,⟨rfl,rfl⟩,⟨rfl,rfl⟩,⟨_,_,j⟩,g⟩:=g;unfold rZ at g
  by_cases h30:op=30
  ·subst h30;rw [if_pos rfl]at g;exact Xm _ _ _ ⟨ks,s,⟨rfl,rfl⟩,⟨rfl,rfl⟩,j,g⟩
  rw [if_neg h30]at g;unfold T5 at g
  by_cases o31:op=31
  ·subst o31;rw [if_pos rfl]at g;exact Xn _ _ _ ⟨ks,s,⟨rfl,rfl⟩,⟨rfl,rfl⟩,j,g⟩
  rw [if_neg o31]at g
  by_cases o25:op=25
  ·subst o25;rw [if_pos rfl]at g;exact Xl _ _ _ ⟨ks,s,⟨rfl,rfl⟩,⟨rfl,rfl⟩,j,g⟩
  rw [if_neg o25]at g;exact c5X _ _ _ ⟨ks,s,⟨rfl,rfl⟩,⟨rfl,rfl⟩,⟨⟨o25,h30,o31⟩,j⟩,g⟩
 ·exact g.elim
def Ow:=aV 249 Qw Uh
theorem Wz:aO env Ow:=aF d1M (a9V)
def d8F(l:Y15)(i e0 id:Nat)(k0:Y12)(h:Heap):Inv':= .or
 (eA (Nat×Nd) (fun x=>[(0,.v (.vslice none e0 (l).length 3 ((l).flatMap cN))),(1,.v (.int .i64 i)),(2,.v (.hslice id 0 k0.length 1)),(7,.l 7 0),(16,.v (.vslice none 0 (x.2.ks).length 1 ((x.2.ks).map (IV.int .i64)))),(17,.v (.int .i64 x.2.ks.length)),(18,.v (.int .i64 x.1)),(8,.v .nilslice)]) (fun x=>[(7,[.int .i64 x.2.op,.int .i64 x.2.im,.vslice none 0 (x.2.ks).length 1 ((x.2.ks).map (IV.int .i64))])]) (fun _=>h) (fun x=>l[i]?=some x.2/\x.1=0) (fun x=>x.2.ks.length-x.1))
 (eA (Nat×Nd×Y12×Nat×Heap) (fun x=>[(0,.v (.vslice none e0 (l).length 3 ((l).flatMap cN))),(1,.v (.int .i64 i)),(2,.v (.hslice id 0 k0.length 1)),(7,.l 7 0),(16,.v (.vslice none 0 (x.2.1.ks).length 1 ((x.2.1.ks).map (IV.int .i64)))),(17,.v (.int .i64 x.2.1.ks.length)),(18,.v (.int .i64 x.1)),(8,.v (.vslice (some x.2.2.2.1) x.2.2.1.length x.2.2.1.length 1 (x.2.2.1.map (IV.int .i64))))]) (fun x=>[(7,[.int .i64 x.2.1.op,.int .i64 x.2.1.im,.vslice none 0 (x.2.1.ks).length 1 ((x.2.1.ks).map (IV.int .i64))])]) (fun x=>x.2.2.2.2) (fun x=>l[i]?=some x.2.1/\uX l i x.1 x.2.2.1/\(0<x.1/\x.2.2.2.2.get x.2.2.2.1= .tip x.2.2.1.length/\x.2.2.2.1≠id)/\(x.2.2.2.2.get id=h.get id/\h.next<=x.2.2.2.2.next)) (fun x=>x.2.1.ks.length-x.1))
def c9C(xs:Y14)(h:Heap)(K:KT):Prop:=match xs with
 | [.vslice none e0 n0 3 c0,.int .i64 q,.hslice id 0 n2 1]=> ∃(l:Y15)(i:Nat)(k0:Y12),(n0=l.length/\c0=l.flatMap cN/\q=(i:Int)/\n2=k0.length)/\SPH h id l i k0/\∀h2:Heap,h2.get id=h.get id/\h.next<=h2.next->K (.int .i64 (cA (l.take i) (aE (l.take i)) (l.getD i default))) h2
 |_=>False
def pY(l:Y15)(e0:Nat):=TV.v (.vslice none e0 l.length 3 (List.flatMap cN l))
def cV:=IV.int .i64
def pZ(id:Nat)(k0:Y12):=TV.v (.hslice id 0 k0.length 1)
def qA(i:Nat):=TV.v (.int .i64 (i:Int))
def nV:=iI 2
def qB:=iI 0
def qC:=TV.l 7 0
def U4:=iI 1
def Lv(g:Y15)(q:Int):=Nd.ks (List.getD g q.toNat default)
def b3J(h:Heap)(g:Int):=TV.v (.vslice (some (h.next)) 1 1 1 [iI g])
def Br:=TV.v IV.nilslice
theorem e4T(l:Y15)(i:Nat)(e0 id:Nat)(k0:Y12)(h:Heap)(Q:KT):dF (aR Ow) env 194 cS (oE 5 (d8F l i e0 id k0 h)) bK [.vslice none e0 (l).length 3 ((l).flatMap cN),.int .i64 i,.hslice id 0 k0.length 1] h Q=(
 aC (decide (0<=(i:Int)) &&decide ((i:Int)< (l.length:Int))) (aG .i64 (List.flatMap cN l) ((i:Int).toNat*3) fun R=>aG .i64 (List.flatMap cN l) ((i:Int).toNat*3+1) fun V=>aZ 1 (List.flatMap cN l) ((i:Int).toNat*3+1+1) fun(G:Y10)(D r:Nat)(A:Y14)=>((∃(x:Nat×Nd),some (pY l e0)=some (pY l e0)/\some (qA i)=some (qA i)/\some (pZ id k0)=some (pZ id k0)/\some qC=some qC/\some (TV.v (.vslice G D r 1 A))=some (TV.v (.vslice none 0 ((Nd.ks x.2).length) 1 (List.map cV (Nd.ks x.2))))/\tI (r:Int)=tI (↑((Nd.ks x.2).length):Int)/\some (TV.v qB)=tI (x.1:Int)/\some Br=some Br/\some [iI R,iI V,IV.vslice G D r 1 A]=some [iI (Nd.op x.2),iI (Nd.im x.2),IV.vslice none 0 ((Nd.ks (x.2)).length) 1 (List.map cV (Nd.ks x.2))]/\h=h/\(l[i]?=some x.2/\x.1=0)/\True) \/ ∃(x:Nat×Nd×Y12×Nat×Heap),some (pY l e0)=some (pY l e0)/\some (qA i)=some (qA i)/\some (pZ id k0)=some (pZ id k0)/\some qC=some qC/\some (TV.v (.vslice G D r 1 A))=some (TV.v (.vslice none 0 ((Nd.ks x.2.1).length) 1 (List.map cV (Nd.ks x.2.1))))/\tI (r:Int)=tI (↑((Nd.ks x.2.1).length):Int)/\some (TV.v qB)=tI (x.1:Int)/\some Br=some (TV.v (.vslice (some x.2.2.2.1) x.2.2.1.length x.2.2.1.length 1 (List.map cV x.2.2.1)))/\some [iI R,iI V,IV.vslice G D r 1 A]=some [iI (Nd.op x.2.1),iI (Nd.im x.2.1),IV.vslice none 0 ((Nd.ks x.2.1).length) 1 (List.map cV (Nd.ks x.2.1))]/\h=x.2.2.2.2/\(l[i]?=some x.2.1/\uX l i x.1 x.2.2.1/\(0<x.1/\Heap.get (((x.2.2).2).2) x.2.2.2.1=IObj.tip x.2.2.1.length/\x.2.2.2.1≠id)/\Heap.get x.2.2.2.2 id=h.get id/\Heap.next h<=Heap.next (((x.2.2).2).2))/\True)/\(∀(x:Nat×Nd)(b:FF),l[i]?=some x.2/\x.1=0->aI (decide ((x.1:Int)< (↑((Nd.ks x.2).length):Int))) (aC (decide (0<=(x.1:Int)) &&decide ((x.1:Int)< (↑((Nd.ks (x.2)).length):Int))) (aG .i64 (List.map cV (Nd.ks x.2)) ((x.1:Int).toNat*1) fun p=>aI (decide (p<0)) (Q qB h) (aI (decide (p>=(i:Int))) (Q qB h) (aC (decide (0<=p) &&decide (p< (k0.length:Int))) (aJ h id fun r7=>aG .i64 r7 ((0:Nat)+p.toNat*1) fun X=>aI (X==0) (Q qB h) (aC (decide (0<=p) &&decide (p< (k0.length:Int))) (aJ h id fun r9=>aG .i64 r9 ((0:Nat)+p.toNat*(1:Nat)) fun y=>(∃(g:Nat×Nd),some (pY l e0)=some (pY l e0)/\some (qA i)=some (qA i)/\some (pZ id k0)=some (pZ id k0)/\some qC=some qC/\some (TV.v (.vslice none 0 ((Nd.ks x.2).length) 1 (List.map cV (Nd.ks (x.2)))))=some (TV.v (.vslice none 0 ((Nd.ks g.2).length) 1 (List.map cV (Nd.ks g.2))))/\tI (↑((Nd.ks x.2).length):Int)=tI (↑((Nd.ks g.2).length):Int)/\tI (wW ((x.1:Int)+1))=tI (g.1:Int)/\some (b3J h y)=some Br/\some [iI (Nd.op x.2),iI (Nd.im x.2),IV.vslice none 0 ((Nd.ks x.2).length) 1 (List.map cV (Nd.ks x.2))]=some [iI (Nd.op g.2),iI (Nd.im g.2),IV.vslice none 0 ((Nd.ks g.2).length) 1 (List.map cV (Nd.ks g.2))]/\Heap.push h (IObj.tip 1)=h/\(l[i]?=some g.2/\g.1=0)/\List.length (Nd.ks g.2)-g.1< (Nd.ks x.2).length-x.1) \/ ∃(g:Nat×Nd×Y12×Nat×Heap),some (pY l e0)=some (pY l e0)/\some (qA i)=some (qA i)/\some (pZ id k0)=some (pZ id k0)/\some qC=some qC/\some (TV.v (.vslice none 0 ((Nd.ks x.2).length) 1 (List.map cV (Nd.ks x.2))))=some (TV.v (.vslice none 0 ((Nd.ks g.2.1).length) 1 (List.map cV (Nd.ks (g.2.1)))))/\tI (↑((Nd.ks x.2).length):Int)=tI (↑((Nd.ks g.2.1).length):Int)/\tI (wW ((x.1:Int)+1))=some (TV.v (iI (g.1:Int)))/\some (b3J h y)=some (TV.v (.vslice (some g.2.2.2.1) g.2.2.1.length g.2.2.1.length 1 (List.map cV (((g.2).2).1))))/\some [iI (Nd.op x.2),iI (Nd.im x.2),IV.vslice none 0 ((Nd.ks x.2).length) 1 (List.map cV (Nd.ks x.2))]=some [iI (Nd.op g.2.1),iI (Nd.im (g.2.1)),IV.vslice none 0 ((Nd.ks g.2.1).length) 1 (List.map cV (Nd.ks g.2.1))]/\Heap.push h (IObj.tip 1)=g.2.2.2.2/\(l[i]?=some g.2.1/\uX l i g.1 g.2.2.1/\(0<g.1/\Heap.get g.2.2.2.2 g.2.2.2.1=IObj.tip g.2.2.1.length/\g.2.2.2.1≠id)/\Heap.get (g.2.2.2.2) id=h.get id/\Heap.next h<=Heap.next g.2.2.2.2)/\List.length (Nd.ks g.2.1)-g.1< (Nd.ks x.2).length-x.1))))))) (∃(ks s:Y12),((Nd.ks x.2).length=ks.length/\List.map cV (Nd.ks x.2)=List.map cV ks)/\((0:Nat)=s.length/\[]=List.map cV s)/\(True/\True/\s.length<=1000000)/\aI (!rZ (Nd.op x.2) s) (Q qB h) (∃(j:Y15)(ks:Y12),(l.length=j.length/\List.flatMap cN l=List.flatMap cN j)/\((Nd.ks x.2).length=ks.length/\List.map cV (Nd.ks x.2)=List.map cV ks)/\(Nd.op x.2=25-> ∃(q:Int),ks=[q]/\(0<=q/\q< (j.length:Int))/\3<=List.length (Lv j q)/\List.length (Lv j q)<=33)/\aI (!yJ (eK j (Nd.mk (Nd.op x.2) (Nd.im x.2) ks)) (Nd.op x.2) (Nd.im x.2)) (Q qB h) (aI (Nd.op x.2==31) (Q (.int .i64 3) h) (aI (Nd.op x.2==26) (Q nV h) (aI (Nd.op x.2==27) (Q nV h) (aI (Nd.op x.2==28) (Q nV h) (aI (Nd.op x.2==29) (Q nV h) (aI (Nd.op x.2==30) (Q nV h) (aI (Nd.op x.2==22) False (aI (Nd.op x.2==3) (aI (Int.tmod (Nd.im x.2) 16==0) (Q nV h) (Q U4 h)) (aI (Nd.op x.2==25) (aI (Nd.im x.2==0) (Q nV h) (Q U4 h)) (Q U4 h)))))))))))))/\∀(x:Nat×Nd×Y12×Nat×Heap)(b:FF),l[i]?=some x.2.1/\uX l i x.1 x.2.2.1/\(0<x.1/\Heap.get x.2.2.2.2 x.2.2.2.1=IObj.tip x.2.2.1.length/\x.2.2.2.1≠id)/\Heap.get x.2.2.2.2 id=h.get id/\Heap.next h<=Heap.next x.2.2.2.2->aI (decide ((x.1:Int)< (↑((Nd.ks x.2.1).length):Int))) (aC (decide (0<=(x.1:Int)) &&decide ((x.1:Int)< (↑((Nd.ks x.2.1).length):Int))) (aG .i64 (List.map cV (Nd.ks x.2.1)) ((x.1:Int).toNat*1) fun m=>aI (decide (m<0)) (Q qB x.2.2.2.2) (aI (decide (m>=(i:Int))) (Q qB x.2.2.2.2) (aC (decide (0<=m) &&decide (m< (k0.length:Int))) (aJ x.2.2.2.2 id fun G9=>aG .i64 G9 ((0:Nat)+m.toNat*(1:Nat)) fun L=>aI (L==0) (Q qB x.2.2.2.2) (aC (decide (0<=m) &&decide (m< (k0.length:Int))) (aJ x.2.2.2.2 id fun Gp=>aG .i64 Gp ((0:Nat)+m.toNat*1) fun z=>cF x.2.2.2.2 x.2.2.2.1 fun(K:Nat)=>aC (Nat.beq K x.2.2.1.length&&Nat.ble ((x.2.2.1.length+1)*8) 140737488355328) ((∃(g:Nat×Nd),some (pY l e0)=some (pY l e0)/\some (qA i)=some (qA i)/\some (pZ id k0)=some (pZ id k0)/\some qC=some qC/\some (TV.v (.vslice none 0 ((Nd.ks x.2.1).length) 1 (List.map cV (Nd.ks x.2.1))))=some (TV.v (.vslice none 0 ((Nd.ks g.2).length) 1 (List.map cV (Nd.ks g.2))))/\tI (↑((Nd.ks x.2.1).length):Int)=tI (↑((Nd.ks g.2).length):Int)/\tI (wW ((x.1:Int)+1))=tI (g.1:Int)/\some (TV.v (.vslice (some x.2.2.2.1) ((((x.2).2).1).length+1) (x.2.2.1.length+1) 1 (List.map cV x.2.2.1++ [iI z])))=some Br/\some [iI (Nd.op x.2.1),iI (Nd.im x.2.1),IV.vslice none 0 ((Nd.ks x.2.1).length) 1 (List.map cV (Nd.ks x.2.1))]=some [iI (Nd.op g.2),iI (Nd.im g.2),IV.vslice none 0 ((Nd.ks g.2).length) 1 (List.map cV (Nd.ks g.2))]/\Heap.set x.2.2.2.2 x.2.2.2.1 (IObj.tip (x.2.2.1.length+1))=h/\(l[i]?=some g.2/\g.1=0)/\List.length (Nd.ks g.2)-g.1< (Nd.ks x.2.1).length-x.1) \/ ∃(g:Nat×Nd×Y12×Nat×Heap),some (pY l e0)=some (pY l e0)/\some (qA i)=some (qA i)/\some (pZ id k0)=some (pZ id k0)/\some qC=some qC/\some (TV.v (.vslice none 0 ((Nd.ks x.2.1).length) 1 (List.map cV (Nd.ks x.2.1))))=some (TV.v (.vslice none 0 ((Nd.ks g.2.1).length) 1 (List.map cV (Nd.ks g.2.1))))/\tI (↑((Nd.ks (x.2.1)).length):Int)=tI (↑((Nd.ks g.2.1).length):Int)/\tI (wW ((x.1:Int)+1))=tI (g.1:Int)/\some (TV.v (.vslice (some x.2.2.2.1) (x.2.2.1.length+1) (x.2.2.1.length+1) 1 (List.map cV x.2.2.1++ [iI z])))=some (TV.v (.vslice (some (g.2.2.2.1)) g.2.2.1.length g.2.2.1.length 1 (List.map cV g.2.2.1)))/\some [iI (Nd.op x.2.1),iI (Nd.im (x.2.1)),IV.vslice none 0 ((Nd.ks x.2.1).length) 1 (List.map cV (Nd.ks x.2.1))]=some [iI (Nd.op g.2.1),iI (Nd.im g.2.1),IV.vslice none 0 ((Nd.ks g.2.1).length) 1 (List.map cV (Nd.ks g.2.1))]/\Heap.set x.2.2.2.2 x.2.2.2.1 (IObj.tip (x.2.2.1.length+1))=((g.2.2).2).2/\(l[i]?=some g.2.1/\uX l i g.1 g.2.2.1/\(0<g.1/\Heap.get g.2.2.2.2 g.2.2.2.1=IObj.tip ((((g.2).2).1).length)/\g.2.2.2.1≠id)/\Heap.get g.2.2.2.2 id=h.get id/\Heap.next h<=Heap.next g.2.2.2.2)/\List.length (Nd.ks g.2.1)-g.1< (Nd.ks (x.2.1)).length-x.1)))))))) (∃(ks s:Y12),((Nd.ks x.2.1).length=ks.length/\List.map cV (Nd.ks x.2.1)=List.map cV ks)/\(x.2.2.1.length=s.length/\List.map cV ((x.2.2).1)=List.map cV s)/\(True/\True/\s.length<=1000000)/\aI (!rZ (Nd.op x.2.1) s) (Q qB x.2.2.2.2) (∃(j:Y15)(ks:Y12),(l.length=j.length/\List.flatMap cN l=List.flatMap cN j)/\((Nd.ks x.2.1).length=ks.length/\List.map cV (Nd.ks x.2.1)=List.map cV ks)/\(Nd.op x.2.1=25-> ∃(q:Int),ks=[q]/\(0<=q/\q< (j.length:Int))/\3<=List.length (Lv j q)/\List.length (Lv j q)<=33)/\aI (!yJ (eK j (Nd.mk (Nd.op x.2.1) (Nd.im x.2.1) ks)) (Nd.op x.2.1) (Nd.im x.2.1)) (Q qB x.2.2.2.2) (aI (Nd.op x.2.1==31) (Q (iI 3) x.2.2.2.2) (aI (Nd.op x.2.1==26) (Q nV x.2.2.2.2) (aI (Nd.op x.2.1==27) (Q nV x.2.2.2.2) (aI (Nd.op x.2.1==28) (Q nV x.2.2.2.2) (aI (Nd.op x.2.1==29) (Q nV x.2.2.2.2) (aI (Nd.op x.2.1==30) (Q nV ((((x.2).2).2).2)) (aI (Nd.op x.2.1==22) (aC (true&&decide (1< (x.2.2.1.length:Int))) (aG .i64 (List.map cV x.2.2.1) 1 fun O=>Q (.int .i64 O) (((x.2.2).2).2))) (aI (Nd.op x.2.1==3) (aI (Int.tmod (Nd.im x.2.1) 16==0) (Q nV x.2.2.2.2) (Q U4 x.2.2.2.2)) (aI (Nd.op x.2.1==25) (aI (Nd.im x.2.1==0) (Q nV x.2.2.2.2) (Q U4 x.2.2.2.2)) (Q U4 x.2.2.2.2)))))))))))))):=by kernel_rfl
theorem e3S: ∀xs h Q,c9C xs h Q->aL env 194 xs h Q:=by
 intro xs h Q Z;unfold c9C at Z;split at Z
 ·rename_i e0 n0 c0 q id n2;obtain⟨l,i,k0,⟨rfl,rfl,rfl,rfl⟩,hb,Z⟩:=Z;refine aN (Wz) (e4T l i e0 id k0 h Q) ?_;delta pY cV pZ qA nV qB qC U4 Lv b3J Br tI wW iI;have tn: ∀x:Nat,(x:Int).toNat=x:=AK
  obtain⟨⟨D,R,b4⟩,hg,a3,b2,b0⟩:=hb;have a6:=(R _ (AH D)).2;have b3:=(R _ (AH D)).1;have eD:l.getD i default=l[i]:=by rw [AC,AA D];rfl
  rw [eD]at Z;have fin: ∀(v:Int)(h2:Heap),v=cA (l.take i) (aE (l.take i)) l[i]->h2.get id=h.get id/\h.next<=h2.next->Q (.int .i64 v) h2:=by
   rintro _ h2 rfl e;exact Z h2 e
  have b5:(aE (l.take i)).length=i:=by rw [aY,AR];omega
  have a4: ∀q,(hq:q<i)-> ∃h2:q<k0.length,∃h3:q< (aE (l.take i)).length,k0[q]=(aE (l.take i))[q]:=fun q hq=>by
   refine⟨JF,JF,?_⟩;have e:(k0.take i)[q]?=(aE (l.take i))[q]?:=by rw [b0]
   rw [DD hq,AA JF,AA JF,AB]at e;exact e
  have V:=fun(k:Y12)(h:uX l i l[i].ks.length k)=>Go.M10.uX.finH h D (AG _)
  refine aA (by simp;omega) (pK D (by rw [tn]) ⟨.inl ⟨(0,l[i]),JJ,JJ,JJ,JJ,JJ,JJ,JJ,JJ,JJ,JJ,⟨AA D,rfl⟩,trivial⟩,?_,?_⟩)
  ·rintro⟨j,n⟩ _ ⟨K,hj⟩;dsimp only at K hj⊢;obtain rfl:l[i]=n:=by rw [AA D]at K;exact BF K
   subst hj;refine aB (fun c=>?_) (fun c=>?_)
   ·rw [decide_eq_true_eq]at c;have y:0<l[i].ks.length:=JF;have hm:l[i].ks[0] ∈l[i].ks:=AH y;refine aA (by simp;omega) (cX y rfl (aB (fun c2=>?_) (fun c2=>aB (fun X=>?_) (fun X=>?_))))
    ·rw [decide_eq_true_eq]at c2;exact fin _ _ (bV hm (lD c2)).symm ⟨rfl,AG _⟩
    ·rw [decide_eq_true_eq]at X;exact fin _ _ (bV hm (lC JF)).symm ⟨rfl,AG _⟩
    rw [decide_eq_false_iff_not]at c2 X;obtain⟨q1,q2,q3⟩:=a4 (l[i].ks[0]).toNat JF;refine aA (by simp;omega) (aD hg (cX q1 JF (aB (fun G=>?_) (fun G=>?_))))
    ·rw [beq_iff_eq,q3]at G;exact fin _ _ (bV hm (lE q2 G)).symm ⟨rfl,AG _⟩
    rw [beq_eq_false_iff_ne,q3]at G;obtain⟨k1,k2⟩:=jR JF q2 G;have hs:=(uX.zero D).step D y k1;rw [k2]at hs;refine aA (by simp;omega) (aD hg (cX q1 JF (.inr ⟨(1,l[i],[(aE (l.take i))[(l[i].ks[0]).toNat]],h.next,h.push (.tip 1)),JJ,JJ,JJ,JJ,JJ,JJ,JJ,(by rw [q3];rfl),JJ,JJ,⟨K,hs,⟨Nat.one_pos,aT,FU a3⟩,aQ a3,EE _⟩,JK⟩)))
   ·rw [decide_eq_false_iff_not]at c;have hz:l[i].ks.length=0:=JF;obtain⟨O,t2⟩:=V [] (by rw [hz];exact uX.zero D);refine⟨l[i].ks,[],⟨rfl,rfl⟩,⟨rfl,rfl⟩,⟨a6,trivial,JH⟩,?_⟩;refine aB (fun c1=>fin _ _ ?_ ⟨rfl,AG _⟩) (fun c1=>⟨l,l[i].ks,⟨rfl,rfl⟩,⟨rfl,rfl⟩,t2.2 (by simpa using c1),aB (fun c2=>fin _ _ ?_ ⟨rfl,AG _⟩) (fun c2=>?_)⟩)
    ·rw [CC]at c1;rw [O,if_neg (fun e=>by rw [c1]at e;exact EI e.1)]
    ·rw [CC]at c2;rw [O,if_neg (fun e=>by rw [c2]at e;exact EI e.2)]
    rw [BO]at c1 c2;rw [if_pos ⟨c1,c2⟩]at O;have m: ∀{a o:Int},(a==o)=false-> ¬a=o:=fun c=>by simpa using c
    have A: ∀v:Int,So l[i].op l[i].im []=v->Q (.int .i64 v) h:=fun v e=>fin v _ (by rw [O,e]) ⟨rfl,AG _⟩
    by_cases o30:l[i].op=30
    ·simp only [o30];exact aB (fun d=>absurd d JG) (fun _=>aB (fun d=>absurd d JG) (fun _=>aB (fun d=>absurd d JG) (fun _=>aB (fun d=>absurd d JG) (fun _=>aB (fun d=>absurd d JG) (fun _=>aB (fun _=>A 2 (if_pos o30)) (fun d=>absurd d JG))))))
    have z: ∀v:Int,H0 l[i].op l[i].im []=v->Q (.int .i64 v) h:=fun v e=>A v ((Xt o30).trans e)
    have p:l[i].op≠31->l[i].op≠25-> ∀v:Int,Sn l[i].op l[i].im []=v->Q (.int .i64 v) h:=fun h1 h2 v e=>z v (by unfold H0;rw [if_neg h1,if_neg h2];exact e)
    refine aB (fun d=>z 3 (if_pos (beq_iff_eq.1 d))) (fun Y=>?_)
    by_cases o25:l[i].op=25
    ·simp only [o25];refine aB (fun d=>absurd d JG) (fun _=>aB (fun d=>absurd d JG) (fun _=>aB (fun d=>absurd d JG) (fun _=>aB (fun d=>absurd d JG) (fun _=>aB (fun d=>absurd d JG) (fun _=>aB (fun d=>absurd d JG) (fun _=>aB (fun d=>absurd d JG) (fun _=>aB (fun _=>?_) (fun d=>absurd d JG))))))));refine aB (fun e=>z 2 ?_) (fun e=>z 1 ?_)
     ·unfold H0;rw [o25,if_neg JG,if_pos rfl,if_pos (beq_iff_eq.1 e)]
     ·unfold H0;rw [o25,if_neg JG,if_pos rfl,if_neg (m e)]
    replace p:=p (m Y) o25;unfold Sn at p;refine aB (fun d=>p _ (if_pos (.inl (beq_iff_eq.1 d)))) (fun d2=>aB (fun d=>p _ (if_pos (.inr (.inl (beq_iff_eq.1 d))))) (fun d3=>aB (fun d=>p _ (if_pos (.inr (.inr (.inl (beq_iff_eq.1 d)))))) (fun d4=>aB (fun d=>p _ (if_pos (.inr (.inr (.inr (beq_iff_eq.1 d)))))) (fun d5=>aB (fun d=>absurd (beq_iff_eq.1 d) o30) (fun d6=>?_)))));have nn: ¬ (l[i].op=26\/l[i].op=27\/l[i].op=28\/l[i].op=29):=by
     have:=m d2;have:=m d3;have:=m d4;have:=m d5;omega
    rw [if_neg nn]at p;refine aB (fun d=>?_) (fun d7=>aB (fun d=>?_) (fun d8=>aB (fun d=>absurd (beq_iff_eq.1 d) o25) (fun _=>p _ (by rw [if_neg (m d7),if_neg (m d8)]))))
    ·rw [beq_iff_eq]at d;have h3:wP 22 []=false:=JG;unfold rZ T5 at c1;rw [d,if_neg JG,if_neg JG,if_neg JG,h3]at c1
     cases c1
    ·rw [if_neg (m d7),if_pos (beq_iff_eq.1 d)]at p;refine aB (fun e=>p _ (if_pos (beq_iff_eq.1 e))) (fun e=>p _ (if_neg (m e)))
  ·rintro⟨j,n,k,a7,g⟩ _ ⟨K,L,⟨a9,a2,a0⟩,r⟩;dsimp only at K L a9 a2 a0 r⊢;obtain rfl:l[i]=n:=by rw [AA D]at K;exact BF K
   have b1:k.length=j/\j<=l[i].ks.length:=by
    obtain⟨n,h1,h2,_⟩:=L;rw [K]at h1
    cases h1
    exact⟨h2.2,h2.1⟩
   have a1:g.get id= .cells (k0.map (IV.int .i64)):=r.1.trans hg;refine aB (fun c=>?_) (fun c=>?_)
   ·rw [decide_eq_true_eq]at c;have y:j<l[i].ks.length:=JF;have hm:l[i].ks[j] ∈l[i].ks:=AH y;refine aA (by simp;omega) (cX y (by rw [AO,tn]) (aB (fun c2=>?_) (fun c2=>aB (fun X=>?_) (fun X=>?_))))
    ·rw [decide_eq_true_eq]at c2;exact fin _ _ (bV hm (lD c2)).symm r
    ·rw [decide_eq_true_eq]at X;exact fin _ _ (bV hm (lC JF)).symm r
    rw [decide_eq_false_iff_not]at c2 X;obtain⟨q1,q2,q3⟩:=a4 (l[i].ks[j]).toNat JF;refine aA (by simp;omega) (aD a1 (cX q1 JF (aB (fun G=>?_) (fun G=>?_))))
    ·rw [beq_iff_eq,q3]at G;exact fin _ _ (bV hm (lE q2 G)).symm r
    rw [beq_eq_false_iff_ne,q3]at G;obtain⟨k1,k2⟩:=jR JF q2 G;have hs:=L.step D y k1;rw [k2]at hs;refine aA (by simp;omega) (aD a1 (cX q1 JF (aS a2 (aA (by simp only [AD,bL,AS,true_and];omega) (.inr ⟨(j+1,l[i],k++ [(aE (l.take i))[(l[i].ks[j]).toNat]],a7,g.set a7 (.tip (k.length+1))),JJ,JJ,JJ,JJ,JJ,JJ,?_,?_,JJ,?_,⟨K,hs,⟨CN _,by rw [aK];simp,a0⟩,by rw [aH a0.symm];exact r.1,r.2⟩,JK⟩)))))
    ·rw [AF _ JF];rfl
    ·rw [q3];simp
    ·rfl
   ·rw [decide_eq_false_iff_not]at c;obtain rfl:j=l[i].ks.length:=JF;obtain⟨O,t2⟩:=V k L;refine⟨l[i].ks,k,⟨rfl,rfl⟩,⟨rfl,rfl⟩,⟨a6,trivial,JF⟩,?_⟩;refine aB (fun c1=>fin _ _ ?_ r) (fun c1=>⟨l,l[i].ks,⟨rfl,rfl⟩,⟨rfl,rfl⟩,t2.2 (by simpa using c1),aB (fun c2=>fin _ _ ?_ r) (fun c2=>?_)⟩)
    ·rw [CC]at c1;rw [O,if_neg (fun e=>by rw [c1]at e;exact EI e.1)]
    ·rw [CC]at c2;rw [O,if_neg (fun e=>by rw [c2]at e;exact EI e.2)]
    rw [BO]at c1 c2;rw [if_pos ⟨c1,c2⟩]at O;have m: ∀{a o:Int},(a==o)=false-> ¬a=o:=fun c=>by simpa using c
    have A: ∀v:Int,So l[i].op l[i].im k=v->Q (.int .i64 v) g:=fun v e=>fin v _ (by rw [O,e]) r
    by_cases o30:l[i].op=30
    ·simp only [o30];exact aB (fun d=>absurd d JG) (fun _=>aB (fun d=>absurd d JG) (fun _=>aB (fun d=>absurd d JG) (fun _=>aB (fun d=>absurd d JG) (fun _=>aB (fun d=>absurd d JG) (fun _=>aB (fun _=>A 2 (if_pos o30)) (fun d=>absurd d JG))))))
    have z: ∀v:Int,H0 l[i].op l[i].im k=v->Q (.int .i64 v) g:=fun v e=>A v ((Xt o30).trans e)
    have p:l[i].op≠31->l[i].op≠25-> ∀v:Int,Sn l[i].op l[i].im k=v->Q (.int .i64 v) g:=fun h1 h2 v e=>z v (by unfold H0;rw [if_neg h1,if_neg h2];exact e)
    refine aB (fun d=>z 3 (if_pos (beq_iff_eq.1 d))) (fun Y=>?_)
    by_cases o25:l[i].op=25
    ·simp only [o25];refine aB (fun d=>absurd d JG) (fun _=>aB (fun d=>absurd d JG) (fun _=>aB (fun d=>absurd d JG) (fun _=>aB (fun d=>absurd d JG) (fun _=>aB (fun d=>absurd d JG) (fun _=>aB (fun d=>absurd d JG) (fun _=>aB (fun d=>absurd d JG) (fun _=>aB (fun _=>?_) (fun d=>absurd d JG))))))));refine aB (fun e=>z 2 ?_) (fun e=>z 1 ?_)
     ·unfold H0;rw [o25,if_neg JG,if_pos rfl,if_pos (beq_iff_eq.1 e)]
     ·unfold H0;rw [o25,if_neg JG,if_pos rfl,if_neg (m e)]
    replace p:=p (m Y) o25;unfold Sn at p;refine aB (fun d=>p _ (if_pos (.inl (beq_iff_eq.1 d)))) (fun d2=>aB (fun d=>p _ (if_pos (.inr (.inl (beq_iff_eq.1 d))))) (fun d3=>aB (fun d=>p _ (if_pos (.inr (.inr (.inl (beq_iff_eq.1 d)))))) (fun d4=>aB (fun d=>p _ (if_pos (.inr (.inr (.inr (beq_iff_eq.1 d)))))) (fun d5=>aB (fun d=>absurd (beq_iff_eq.1 d) o30) (fun d6=>?_)))));have nn: ¬ (l[i].op=26\/l[i].op=27\/l[i].op=28\/l[i].op=29):=by
     have:=m d2;have:=m d3;have:=m d4;have:=m d5;omega
    rw [if_neg nn]at p;refine aB (fun d=>?_) (fun d7=>aB (fun d=>?_) (fun d8=>aB (fun d=>absurd (beq_iff_eq.1 d) o25) (fun _=>p _ (by rw [if_neg (m d7),if_neg (m d8)]))))
    ·rw [beq_iff_eq]at d;rw [if_pos d]at p;have a5:(k.length:Int)=ar l[i].op:=by
      unfold rZ T5 at c1;rw [d,if_neg JG,if_neg JG,if_neg JG]at c1;unfold wP at c1;rw [<-d]at c1;simp only [AD,decide_eq_true_eq]at c1;exact c1.2.1
     have a8:ar 22=3:=JG;rw [d,a8]at a5;have y:1<k.length:=JF;refine aA (by simp;omega) (cX y JF (p _ ?_));rw [AC,AA y];rfl
    ·rw [if_neg (m d7),if_pos (beq_iff_eq.1 d)]at p;refine aB (fun e=>p _ (if_pos (beq_iff_eq.1 e))) (fun e=>p _ (if_neg (m e)))
 ·exact Z.elim
def c7N:=aV 194 c9C Ow
theorem c5O:aO env c7N:=aF e3S (Wz)
def d6C(l:Y15)(g:Nat):Inv':=eA (Nat×Nat×Heap×Y12) (fun x=>[(0,.v (.vslice none g (l).length 3 ((l).flatMap cN))),(3,.v (.hslice x.2.1 0 l.length 1)),(9,.v (.int .i64 l.length)),(10,.v (.int .i64 x.1))]) (fun _=>[]) (fun x=>x.2.2.1)
 (fun x=>x.1<=l.length/\x.2.2.1.get x.2.1= .cells (x.2.2.2.map (IV.int .i64))/\x.2.2.2.length=l.length/\x.2.1<x.2.2.1.next/\x.2.2.2.take x.1=aE (l.take x.1)) (fun x=>l.length-x.1)
def Ea(xs:Y14)(h:Heap)(K:KT):Prop:=match xs with
 | [.vslice none e1 n1 3 c1]=> ∃l:Y15,(n1=l.length/\c1=l.flatMap cN)/\((∀x∈l,x.ks.length<=1000000/\True)/\l.length<=1000000)/\∀(h2:Heap)(id:Nat),h2.get id= .cells ((aE l).map (IV.int .i64))->K (.hslice id 0 l.length 1) h2
 |_=>False
def mJ(l:Y15):=l.length
def Ll(l:Y15)(g:Nat):=TV.v (.vslice none g (mJ l) 3 (List.flatMap cN l))
def mI(x:Nat×Nat×Heap×Y12):=x.2.2
def Lm(l:Y15):=TV.v (.int .i64 ((mJ l):Int))
def tN(x:Nat×Nat×Heap×Y12):=x.2.1
theorem c2B(l:Y15)(m:Nat)(h:Heap)(Q:KT):dF (aR c7N) env 134 cS (oE 4 (d6C l m)) bK [.vslice none m (l).length 3 ((l).flatMap cN)] h Q=(
 aC (decide (0<=((mJ l):Int)) && (decide (((mJ l):Int)<=((mJ l):Int)) && (decide (((mJ l):Int)<=9223372036854775807) &&decide ((8:Int)*((mJ l):Int)<=140737488355328)))) ((∃(x:Nat×Nat×Heap×Y12),some (Ll l m)=some (Ll l m)/\some (TV.v (.hslice (h.next) 0 (((mJ l):Int).toNat) 1))=some (TV.v (.hslice (tN x) 0 (mJ l) 1))/\some (Lm l)=some (Lm l)/\tI 0=tI (x.1:Int)/\Heap.push h (IObj.cells (dY (((mJ l):Int).toNat) [iI 0]))=(mI x).1/\(x.1<=l.length/\Heap.get ((mI x).1) (tN x)=IObj.cells (List.map (IV.int .i64) ((mI x).2))/\List.length ((mI x).2)=l.length/\x.2.1< ((mI x).1).next/\List.take x.1 ((mI x).2)=aE (List.take x.1 l))/\True)/\∀(x:Nat×Nat×Heap×Y12)(b:FF),x.1<=l.length/\Heap.get ((mI x).1) (tN x)=IObj.cells (List.map (IV.int .i64) ((mI x).2))/\List.length ((mI x).2)=l.length/\x.2.1< ((mI x).1).next/\List.take x.1 ((mI x).2)=aE (List.take x.1 l)->aI (decide ((x.1:Int)< ((mJ l):Int))) (∃(j:Y15)(i:Nat)(k0:Y12),(l.length=j.length/\List.flatMap cN l=List.flatMap cN j/\(x.1:Int)=(i:Int)/\l.length=k0.length)/\SPH ((mI x).1) (tN x) j i k0/\∀(h2:Heap),h2.get (tN x)=((mI x).1).get (tN x)/\Heap.next ((mI x).1)<=Heap.next h2->aC (decide (0<=(x.1:Int)) &&decide ((x.1:Int)< ((mJ l):Int))) (aJ h2 (tN x) fun r0=>aC (Nat.ble ((0:Nat)+(x.1:Int).toNat*1+1) r0.length) (∃(g:Nat×Nat×Heap×Y12),some (Ll l m)=some (Ll l m)/\some (TV.v (.hslice (tN x) 0 (mJ l) 1))=some (TV.v (.hslice g.2.1 0 (mJ l) 1))/\some (Lm l)=some (Lm l)/\tI (wW ((x.1:Int)+1))=tI (g.1:Int)/\Heap.set h2 (tN x) (IObj.cells (List.take ((0:Nat)+(x.1:Int).toNat*1) r0++ [iI (cA (List.take i j) (aE (List.take i j)) (List.getD j i default))]++List.drop ((0:Nat)+(x.1:Int).toNat*1+1) r0))=g.2.2.1/\(g.1<=l.length/\Heap.get g.2.2.1 g.2.1=IObj.cells (List.map (IV.int .i64) (((g.2).2).2))/\g.2.2.2.length=l.length/\g.2.1<g.2.2.1.next/\List.take g.1 g.2.2.2=aE (List.take g.1 l))/\l.length-g.1<l.length-x.1))) (Q (.hslice (tN x) 0 (mJ l) 1) ((mI x).1)))):=by kernel_rfl
theorem c0S: ∀xs h Q,Ea xs h Q->aL env 134 xs h Q:=by
 intro xs h Q r;unfold Ea at r;split at r
 ·rename_i G Y c1;obtain⟨l,⟨rfl,rfl⟩,O,r⟩:=r;refine aN (c5O) (c2B l G h Q) ?_;delta Ll mI Lm tN mJ tI wW iI;have D: ∀x:Nat,(x:Int).toNat=x:=AK
  obtain⟨y,A⟩:=O;refine aA (by simp;omega) ⟨⟨(0,h.next,h.push (.cells (dY (l.length:Int).toNat [.int .i64 0])),List.replicate l.length 0),JJ,(by rw [D]),JJ,JJ,JJ,⟨BE _,(by rw [aT,D,mW]),JH,AV _,rfl⟩,trivial⟩,?_⟩;rintro⟨i,id,g,k0⟩ _ ⟨R,z,q,p,j⟩;dsimp only at R z q p j⊢;refine aB (fun c=>?_) (fun c=>?_)
  ·rw [decide_eq_true_eq]at c;have m:i<l.length:=JF;refine⟨l,i,k0,⟨rfl,rfl,rfl,q.symm⟩,⟨⟨m,y,A⟩,z,p,q,j⟩,fun h2 ⟨K,X⟩=>aA (by simp;omega) (aD (K.trans z) (aA (by rw [AS];simp;omega) ?_))⟩;have L:l.getD i default=l[i]:=by rw [AC,AA m];rfl
   rw [L];have V:(k0.map (IV.int .i64)).take (0+(i:Int).toNat*1)++ [.int .i64 (cA (l.take i) (aE (l.take i)) l[i])]++(k0.map (IV.int .i64)).drop (0+(i:Int).toNat*1+1)=(k0.take i++ [cA (l.take i) (aE (l.take i)) l[i]]++k0.drop (i+1)).map (IV.int .i64):=by
    rw [D,AX,AO];simp
   have h1:(k0.take i).length=i:=by rw [AR];omega
   refine⟨(i+1,id,h2.set id (.cells ((k0.take i++ [cA (l.take i) (aE (l.take i)) l[i]]++k0.drop (i+1)).map (IV.int .i64))),k0.take i++ [cA (l.take i) (aE (l.take i)) l[i]]++k0.drop (i+1)),JJ,JJ,JJ,?_,?_,⟨m,aK,?_,BS p X,?_⟩,JK⟩
   ·rw [AF _ JF];rfl
   ·rw [V]
   ·simp;omega
   ·rw [bP m,<-j];dsimp only;rw [CM (by simp;omega),AM (by simp;omega)]
  ·rw [decide_eq_false_iff_not]at c;obtain rfl:i=l.length:=JF;rw [AM JF,DH]at j;subst j;exact r g id z
 ·exact r.elim
def Ci:=aV 134 Ea c7N
theorem Jg:aO env Ci:=aF c0S (c5O)
def Pw(xs:Y14)(h:Heap)(K:KT):Prop:=match xs with
 | [.vslice none e1 n1 3 c1,.int .i64 i]=> ∃l:Y15,(n1=l.length/\c1=l.flatMap cN)/\((∀x∈l,x.ks.length<=1000000/\True)/\l.length<=1000000/\0<=i/\i<l.length)/\K (.int .i64 ((aE l).getD i.toNat 0)) h
 |_=>False
theorem d2B(l:Y15)(i:Int)(j:Nat)(h:Heap)(Q:KT):dF (aR Ci) env 92 cS bK bK [.vslice none j (l).length 3 ((l).flatMap cN),.int .i64 i] h Q=(
 aC (aP [IV.vslice none 0 l.length 3 (List.flatMap cN l),iI i]) (aI (decide (i<0)) (Q (.int .i64 0) h) (aI (decide (i>=(l.length:Int))) (Q (.int .i64 0) h) (aC (true&& (decide (0<=wW (i+1)) &&decide (wW (i+1)<=(l.length:Int)))) (∃(g:Y15),((wW (i+1)).toNat-0=g.length/\List.take (((wW (i+1)).toNat-0)*3) (List.drop 0 (List.flatMap cN l))=List.flatMap cN g)/\((∀(x:Nd),x∈g->List.length (Nd.ks x)<=1000000/\True)/\g.length<=1000000)/\∀(h2:Heap)(id:Nat),h2.get id=IObj.cells (List.map (IV.int .i64) (aE g))->aC (decide (0<=i) &&decide (i< (g.length:Int))) (aJ h2 id fun r0=>aG .i64 r0 ((0:Nat)+i.toNat*1) fun m=>Q (.int .i64 m) h)))))):=by kernel_rfl
theorem d0O: ∀xs h Q,Pw xs h Q->aL env 92 xs h Q:=by
 intro xs h Q g;unfold Pw at g;split at g
 ·rename_i q O c1 i;obtain⟨l,⟨rfl,rfl⟩,r,g⟩:=g;refine aN (Jg) (d2B l i q h Q) ?_;delta wW iI;have R: ∀x:Nat,(x:Int).toNat=x:=AK
  obtain⟨j,y,A,D⟩:=r;have K:IntKind.i64.wrap (i+1)=i+1:=AF _ JF;rw [K];have G:i.toNat<l.length:=JF;have p:(i+1).toNat-0=i.toNat+1:=JF;refine aA (by simp only [aP,bG,bR,AL]) (aB (fun c=>absurd (of_decide_eq_true c) JF) (fun _=>aB (fun c=>absurd (of_decide_eq_true c) JF) (fun _=>aA (by simp;omega) ⟨l.take (i.toNat+1),⟨by rw [p,AR];omega,by rw [p,CZ,Co]⟩,⟨fun x L=>j x (FK L),by rw [AR];omega⟩,fun h2 id z=>?_⟩)));have m:i.toNat< (aE (l.take (i.toNat+1))).length:=by rw [aY,AR];omega
  refine aA (by simp;omega) (aD z (cX m JF (cD g ?_)))
  congr 1
  rw [tD (lI (ED (i.toNat+1) l)) m,AC,AA m];rfl
 ·exact g.elim
def Nw:=aV 92 Pw Ci
theorem Wc:aO env Nw:=aF d0O (Jg)
def alI(l:Y15)(g k:Nat)(h:Heap):Inv':= .or
 (eA Nat (fun x=>[(0,.v (.vslice (some g) (l.length*3+6) (l.length+2) 3 (l.flatMap cN++ [.int .i64 26,.int .i64 0,.vslice none 0 0 1 [],.int .i64 1,.int .i64 0,.vslice none 0 0 1 []]))),(1,.v (.int .i64 (k:Int))),(6,.v (.int .i64 (l.length:Int))),(7,.v (.vslice none 1 1 1 [.int .i64 (l.length:Int)])),(8,.v (.int .i64 1))]) (fun _=>[]) (fun _=>h.set g (.tip (l.length*3+6))) (fun x=>x=1/\True) (fun x=>k-x))
 (eA (Nat×Heap×Nat×Y12) (fun x=>[(0,.v (.vslice (some g) (l.length*3+6) (l.length+2) 3 (l.flatMap cN++ [.int .i64 26,.int .i64 0,.vslice none 0 0 1 [],.int .i64 1,.int .i64 0,.vslice none 0 0 1 []]))),(1,.v (.int .i64 (k:Int))),(6,.v (.int .i64 (l.length:Int))),(7,.v (.vslice (some x.2.2.1) x.2.2.2.length x.2.2.2.length 1 (x.2.2.2.map (IV.int .i64)))),(8,.v (.int .i64 (x.1:Int)))]) (fun _=>[]) (fun x=>x.2.1)
 (fun x=>(1<=x.1/\x.1<=k/\x.2.2.2=(l.length:Int)::List.replicate (x.1-1) ((l.length:Int)+1))/\x.2.1.get g= .tip (l.length*3+6)/\x.2.1.get x.2.2.1= .tip x.2.2.2.length/\x.2.2.1≠g/\h.next<=x.2.2.1/\x.2.2.1<x.2.1.next/\∀j,j<h.next->j≠g->x.2.1.get j=h.get j) (fun x=>k-x.1))
def Vg(xs:Y14)(h:Heap)(K:KT):Prop:=match xs with
 | [.vslice (some io) e0 n0 3 c0,.int .i64 q]=> ∃(l:Y15)(k:Nat),(n0=l.length/\e0=l.length*3/\c0=l.flatMap cN/\q=(k:Int))/\(1<=k/\k<=16/\l.length<=100000)/\h.get io= .tip (l.length*3)/\io<h.next/\∀(h2:Heap)(g:Y14),g=l.flatMap cN++Keep.loopC l.length k->h2.get io= .tip ((l.length+3)*3)/\h.next<=h2.next/\(∀j,j<h.next->j≠io->h2.get j=h.get j)->K (.tuple [.vslice (some io) ((l.length+3)*3) (l.length+3) 3 g,.int .i64 ((l.length+2:Nat):Int)]) h2
 |_=>False
def qG:=[iI 26,iI 0,IV.vslice none 0 0 1 [],iI 1,iI 0,IV.vslice none 0 0 1 []]
def eZ(l:Y15):=l.length*3+6
def gY(l:Y15)(g:Nat):=TV.v (.vslice (some g) (eZ l) (l.length+2) 3 (List.flatMap cN l++qG))
def Mg(l:Y15):=(l.length:Int)+1
def mB(l:Y15):=wW (Mg l)
def kX(l:Y15):=TV.v (.int .i64 (l.length:Int))
def kY(l:Y15):=TV.v (.vslice none 1 1 1 [iI (l.length:Int)])
def kZ(k:Nat):=(k:Int).toNat-0
def mL(l:Y15):=l.length*3+6+3
def lA(k:Nat):=TV.v (.int .i64 (k:Int))
def mM(l:Y15)(g:Nat)(h:Heap):=(h.set g (IObj.tip (eZ l))).push (IObj.tip 2)
def jE(l:Y15):=l.length+2+1
def oQ(l:Y15):=[iI (l.length:Int),iI (mB l)]
def zA(l:Y15):=wW ((l.length:Int)+2)
def vO:=TV.v (.int .i64 1)
def oR:=IV.int .i64
def tR(g:Nat×Heap×Nat×Y12):=g.2.2
def Ca(l:Y15):=[iI (mB l)]
def wV(h:Heap)(m k:Nat)(l:Y15)(p:IV)(q:Int)(r:Heap)(y:Nat):Prop:= ∃(g:Nat×Heap×Nat×Y12),some (gY l m)=some (gY l m)/\some (lA k)=some (lA k)/\some (kX l)=some (kX l)/\some (TV.v (p))=some (TV.v (.vslice (some ((tR g).1)) (((tR g).2).length) (((tR g).2).length) 1 (List.map oR
 ((tR g).2))))/\tI (q)=tI (g.1:Int)/\r=g.2.1/\((1<=g.1/\g.1<=k/\Prod.snd (tR g)=(l.length:Int)::List.replicate (g.1-1) (Mg l))/\Heap.get g.2.1 m=IObj.tip (eZ l)/\Heap.get g.2.1 ((tR g).1)=IObj.tip (((tR g).2).length)
 /\Prod.fst (tR g)≠m/\Heap.next h<=Prod.fst (tR g)/\Prod.fst (tR g)<g.2.1.next/\∀(j:Nat),j<h.next->j≠m->Heap.get g.2.1 j=h.get j)/\k-g.1<y
theorem d8P(l:Y15)(g k:Nat)(h:Heap)(Q:KT):dF (aR Nw) env 251 cS (oE 6 (alI l g k h)) bK [.vslice (some g) (l.length*3) l.length 3 (l.flatMap cN),.int .i64 (k:Int)] h Q=(
 cF h g fun(p:Nat)=>aC (Nat.beq p (l.length*3) &&Nat.ble ((l.length+2)*40) 140737488355328) (((∃(x:Nat),some (gY l g)=some (gY l g)/\some (lA k)=some (lA k)/\some (kX l)=some (kX l)/\some (kY l)=some (kY l)/\some vO=some vO/\Heap.set h g (IObj.tip (eZ l))=h.set g (IObj.tip (eZ l))/\(x=1/\True)/\True) \/ ∃(x:Nat×Heap×Nat×Y12),some (gY l g)=some (gY l g)/\some (lA k)=some (lA k)/\some (kX l)=some (kX l)/\some (kY l)=some (TV.v (.vslice (some x.2.2.1) x.2.2.2.length x.2.2.2.length 1 (List.map oR x.2.2.2)))/\some vO=tI (x.1:Int)/\Heap.set h g (IObj.tip (eZ l))=x.2.1/\((1<=x.1/\x.1<=k/\x.2.2.2=(l.length:Int)::List.replicate (x.1-1) (Mg l))/\Heap.get x.2.1 g=IObj.tip (eZ l)/\Heap.get x.2.1 x.2.2.1=IObj.tip x.2.2.2.length/\x.2.2.1≠g/\Heap.next h<=x.2.2.1/\x.2.2.1<x.2.1.next/\∀(j:Nat),j<h.next->j≠g->Heap.get x.2.1 j=h.get j)/\True)/\(∀(x:Nat)(b:FF),x=1/\True->aI (decide (1< (k:Int))) ((∃(m:Nat),some (gY l g)=some (gY l g)/\some (lA k)=some (lA k)/\some (kX l)=some (kX l)/\some (TV.v (.vslice (some (h.next)) 2 2 1 (oQ l)))=some (kY l)/\tI 2=some vO/\Heap.push (h.set g (IObj.tip (eZ l))) (IObj.tip 2)=h.set g (IObj.tip (eZ l))/\(m=1/\True)/\k-m<k-x) \/wV h g k l (IV.vslice (some (h.next)) 2 2 1 (oQ l)) 2 (mM l g h) (k-x)) (aC (true&& (decide (0<=(k:Int)) &&decide ((k:Int)<=2))) (aI (Nat.beq (kZ k) 0) (cF (mM l g h) g fun(q:Nat)=>aC (Nat.beq q (eZ l) &&Nat.ble ((jE l)*(40:Nat)) 140737488355328) (Q (.tuple [.vslice (some g) (mL l) (jE l) 3 (List.flatMap cN l++qG++ [iI 31,iI 0,IV.vslice none 0 2 1 (oQ l)]),iI (zA l)]) ((mM l g h).set g (IObj.tip (mL l))))) (cF (mM l g h) (h.next) fun(r:Nat)=>aC (Nat.beq r 2 &&Nat.ble (((2:Nat)+(kZ k))*8) 140737488355328) (cF ((mM l g h).set (h.next) (IObj.tip ((2:Nat)+(kZ k)*1))) g fun(y:Nat)=>aC (Nat.beq y (eZ l) &&Nat.ble ((jE l)*40) 140737488355328) (Q (.tuple [.vslice (some g) (mL l) (jE l) 3 (List.flatMap cN l++qG++ [iI 31,iI 0,IV.vslice none 0 ((2:Nat)+(kZ k)) 1 (iI (l.length:Int)::iI (mB l)::List.take ((kZ k)*1) (oQ l))]),iI (zA l)]) (((mM l g h).set (h.next) (IObj.tip ((2:Nat)+(kZ k)*1))).set g (IObj.tip (mL l)))))))))/\∀(x:Nat×Heap×Nat×Y12)(b:FF),((1<=x.1/\x.1<=k/\x.2.2.2=(l.length:Int)::List.replicate (x.1-1) (Mg l))/\Heap.get x.2.1 g=IObj.tip (eZ l)/\Heap.get x.2.1 (x.2.2.1)=IObj.tip x.2.2.2.length/\x.2.2.1≠g/\Heap.next h<=x.2.2.1/\x.2.2.1<x.2.1.next/\∀(j:Nat),j<h.next->j≠g->Heap.get (x.2.1) j=h.get j)->aI (decide ((x.1:Int)< (k:Int))) (cF x.2.1 x.2.2.1 fun(z:Nat)=>aC (Nat.beq z x.2.2.2.length&&Nat.ble ((x.2.2.2.length+(1:Nat))*8) 140737488355328) ((∃(m:Nat),some (gY l g)=some (gY l g)/\some (lA k)=some (lA k)/\some (kX l)=some (kX l)/\some (TV.v (.vslice (some x.2.2.1) (x.2.2.2.length+1) (x.2.2.2.length+1) 1 (List.map oR x.2.2.2++(Ca l))))=some (kY l)/\tI (wW ((x.1:Int)+1))=some vO/\Heap.set x.2.1 ((x.2.2).1) (IObj.tip (x.2.2.2.length+1))=h.set g (IObj.tip (eZ l))/\(m=1/\True)/\k-m<k-x.1) \/wV h g k l (IV.vslice (some x.2.2.1) (x.2.2.2.length+(1:Nat)) (x.2.2.2.length+1) 1 (List.map oR x.2.2.2++(Ca l))) (wW ((x.1:Int)+1)) (x.2.1.set x.2.2.1 (IObj.tip ((x.2.2.2).length+1))) (k-x.1))) (cF x.2.1 x.2.2.1 fun(A:Nat)=>aC (Nat.beq A x.2.2.2.length&&Nat.ble ((x.2.2.2.length+1)*8) 140737488355328) (aC (true&& (decide (0<=(k:Int)) &&decide ((k:Int)<=(↑(x.2.2.2.length+1):Int)))) (aI (Nat.beq (kZ k) 0) (cF (x.2.1.set x.2.2.1 (IObj.tip (((x.2.2).2).length+1))) g fun(D:Nat)=>aC (Nat.beq D (eZ l) &&Nat.ble ((jE l)*40) 140737488355328) (Q (.tuple [.vslice (some g) (mL l) (jE l) 3 (List.flatMap cN l++qG++ [iI 31,iI 0,IV.vslice none 0 (x.2.2.2.length+1) 1 (List.map oR x.2.2.2++(Ca l))]),iI (zA l)]) ((x.2.1.set x.2.2.1 (IObj.tip (((x.2.2).2).length+1))).set g (IObj.tip (mL l))))) (cF (x.2.1.set x.2.2.1 (IObj.tip (x.2.2.2.length+1))) x.2.2.1 fun(G:Nat)=>aC (Nat.beq G (((x.2.2).2).length+1) &&Nat.ble ((x.2.2.2.length+1+(kZ k))*8) 140737488355328) (cF ((x.2.1.set x.2.2.1 (IObj.tip (x.2.2.2.length+(1:Nat)))).set x.2.2.1 (IObj.tip (x.2.2.2.length+1+(kZ k)*1))) g fun(K:Nat)=>aC (Nat.beq K (eZ l) &&Nat.ble ((jE l)*40) 140737488355328) (Q (.tuple [.vslice (some g) (mL l) (jE l) 3 (List.flatMap cN l++qG++ [iI 31,iI 0,IV.vslice none 0 (x.2.2.2.length+1+(kZ k)) 1 (List.map oR x.2.2.2++(Ca l)++List.take ((kZ k)*(1:Nat)) (List.drop 0 (List.map oR x.2.2.2++(Ca l))))]),iI (zA l)]) (((x.2.1.set x.2.2.1 (IObj.tip (x.2.2.2.length+1))).set (x.2.2.1) (IObj.tip (x.2.2.2.length+1+(kZ k)*1))).set g (IObj.tip (mL l))))))))))):=by kernel_rfl
theorem c5U: ∀xs h Q,Vg xs h Q->aL env 251 xs h Q:=by
 intro xs h Q R;unfold Vg at R;split at R
 ·rename_i D e0 n0 c0 q;obtain⟨l,k,⟨rfl,rfl,rfl,rfl⟩,hb,ht,O,R⟩:=R;refine aN (Wc) (d8P l D k h Q) ?_;delta wV gY qG eZ mB kX kY kZ mL lA mM jE oQ zA vO oR tR Ca Mg tI wW iI;obtain⟨h1,h2,h3⟩:=hb;have w1:IntKind.i64.wrap ((l.length:Int)+1)=(l.length:Int)+1:=AF _ JF;have w2:IntKind.i64.wrap ((l.length:Int)+2)=((l.length+2:Nat):Int):=by rw [AF _ JF];rfl
  rw [w1,w2];simp only [AK,IX,AO];refine aS ht (aA (by simp only [AD,bL,AS,true_and];omega) ⟨.inl ⟨1,JJ,JJ,JJ,JJ,JJ,JJ,⟨rfl,True.intro⟩,True.intro⟩,?_,?_⟩)
  ·rintro x _ ⟨rfl,_⟩;have A:D≠h.next:=EQ O;refine gO (fun c=> .inr ⟨(2,_,h.next,[(l.length:Int),(l.length:Int)+1]),JJ,JJ,JJ,JJ,JJ,JJ,⟨⟨by show 1<=2;omega,by show 2<=k;omega,rfl⟩,?_,aT,A.symm,AG _,AV _,fun j hj r=>?_⟩,by show k-2<k-1;omega⟩) (fun c=>?_)
   ·exact(aQ (show D< (h.set D _).next from O)).trans aK
   ·exact(aQ (show j< (h.set D (.tip (l.length*3+6))).next from hj)).trans (aH r)
   ·have a0:k=1:=JF;subst a0;refine aA JG (bf JG (aS aT (aA JG (aS ((aH A).trans ((aQ (show D< (h.set D _).next from O)).trans aK)) (aA (by simp only [AD,bL,AS,true_and];omega) ?_)))));refine cast (congrArg (fun z=>Q z _) ?_) (R _ _ (CG) ⟨by rw [aK];congr 1;omega,EE _,fun j hj r=>?_⟩)
    ·rw [tB,show(l.length+3)*3=l.length*3+6+3 by omega];rfl
    ·exact(aH r).trans ((aH (EQ hj)).trans ((aQ (show j< (h.set D (.tip (l.length*3+6))).next from hj)).trans (aH r)))
  ·rintro⟨j,g,jk,ks⟩ _ ⟨⟨j1,j2,p⟩,G,K,m,V,Y,L⟩;dsimp only at j1 j2 p G K m V Y L⊢;have Z:ks.length=j:=by
    rw [p,AW,EJ];omega
   refine gO (fun c=>aS K (aA (by simp only [AD,bL,AS,true_and];omega) (.inr ⟨(j+1,g.set jk (.tip (ks.length+1)),jk,ks++ [(l.length:Int)+1]),JJ,JJ,JJ,JH,(by(try dsimp only);rw [AF _ JF];rfl),JJ,⟨⟨CN _,by(try dsimp only);omega,?_⟩,(aH m.symm).trans G,?_,m,V,Y,fun q hq y=>(aH JF).trans (L q hq y)⟩,by(try dsimp only);omega⟩))) (fun c=>?_)
   ·(try dsimp only)
    rw [p,CO,<-List.replicate_succ',show j-1+1=j+1-1 by omega]
   ·(try dsimp only)
    rw [AJ];exact aK
   ·have X:j=k:=JF;subst X;refine aS K (aA (by simp only [AD,bL,AS,true_and];omega) (aA (by simp only [BC,AD,decide_eq_true_eq];omega) (bf (by rw [Rh];omega) (aS aK (aA (by simp only [AD,bL,AS,true_and];omega) (aS ((aH m.symm).trans ((aH m.symm).trans G)) (aA (by simp only [AD,bL,AS,true_and];omega) ?_)))))));refine cast (congrArg (fun z=>Q z _) ?_) (R _ _ (CG) ⟨by rw [aK];congr 1;omega,by show h.next<=g.next;omega,fun q hq y=>(aH y).trans ((aH JF).trans ((aH JF).trans (L q hq y)))⟩);rw [tB,show(l.length+3)*3=l.length*3+6+3 by omega,Ac h1 p,CZ,CM (by rw [BG];omega),AM (by rw [BG];omega)];simp only [CB,AJ,BP,DJ,AW,BW,Z]
 ·exact R.elim
def a3V:=aV 251 Vg Nw
theorem a8Q:aO env a3V:=aF c5U (Wc)
def anI(k:Nat)(h:Heap):Inv':= .or
 (eA Nat (fun x=>[(0,.v (.vslice (some h.next) 6 2 3 ([.int .i64 26,.int .i64 0,.vslice none 0 0 1 [],.int .i64 1,.int .i64 0,.vslice none 0 0 1 []]))),(1,.v (.int .i64 (k:Int))),(6,.v (.int .i64 0)),(7,.v (.vslice none 1 1 1 [.int .i64 0])),(8,.v (.int .i64 1))]) (fun _=>[]) (fun _=>h.push (.tip 6)) (fun x=>x=1/\True) (fun x=>k-x))
 (eA (Nat×Heap×Nat×Y12) (fun x=>[(0,.v (.vslice (some h.next) 6 2 3 ([.int .i64 26,.int .i64 0,.vslice none 0 0 1 [],.int .i64 1,.int .i64 0,.vslice none 0 0 1 []]))),(1,.v (.int .i64 (k:Int))),(6,.v (.int .i64 0)),(7,.v (.vslice (some x.2.2.1) x.2.2.2.length x.2.2.2.length 1 (x.2.2.2.map (IV.int .i64)))),(8,.v (.int .i64 (x.1:Int)))]) (fun _=>[]) (fun x=>x.2.1)
 (fun x=>(1<=x.1/\x.1<=k/\x.2.2.2=(0:Int)::List.replicate (x.1-1) 1)/\x.2.1.get h.next= .tip 6/\x.2.1.get x.2.2.1= .tip x.2.2.2.length/\x.2.2.1≠h.next/\h.next<x.2.2.1/\x.2.2.1<x.2.1.next/\∀j,j<h.next->x.2.1.get j=h.get j) (fun x=>k-x.1))
def Vf(xs:Y14)(h:Heap)(K:KT):Prop:=match xs with
 | [.nilslice,.int .i64 q]=> ∃(k:Nat),q=(k:Int)/\(1<=k/\k<=16)/\∀(h2:Heap)(g:Y14),g=Keep.loopC 0 k->h2.get h.next= .tip 9/\h.next<h2.next/\(∀j,j<h.next->h2.get j=h.get j)->K (.tuple [.vslice (some h.next) 9 3 3 g,.int .i64 2]) h2
 |_=>False
def a0N(h:Heap):=TV.v (.vslice (some (h.next)) 6 2 3 [iI 26,iI 0,IV.vslice none 0 0 1 [],iI 1,iI 0,IV.vslice none 0 0 1 []])
def a3E:=TV.v (.vslice none 1 1 1 [iI 0])
def a1F:=TV.v (.int .i64 0)
def a0C(k:Nat):=(k:Int).toNat-0
def a3D:=IObj.tip 6
def a3Q(h:Heap):=(h.push a3D).push (IObj.tip 2)
def a1G(k:Nat):=TV.v (.int .i64 (k:Int))
def b7J:=[iI 0,iI 1]
def a6N:=TV.v (.int .i64 1)
def a8L:=[iI 1]
def a3C:=IV.int .i64
def a3B(g:Nat×Heap×Nat×Y12):=g.2.2
def b9A(h:Heap):=IV.vslice (some (h.next+1)) 2 2 1 b7J
def c0K(k:Nat)(h:Heap):=(a3Q h).set (h.next+1) (IObj.tip ((2:Nat)+(a0C k)*1))
def b0Q:=IObj.tip 9
def b7I(h:Heap)(k:Nat)(l:IV)(m:Int)(p:Heap)(q:Nat):Prop:= ∃(g:Nat×Heap×Nat×Y12),some (a0N h)=some (a0N h)/\some (a1G k)=some (a1G k)/\some a1F=some a1F/\some (TV.v (l))=some (TV.v (.vslice (some ((a3B g).1)) (((a3B g).2).length) (((a3B g).2).length) 1 (List.map a3C ((a3B
 g).2))))/\tI (m)=tI (g.1:Int)/\p=g.2.1/\((1<=g.1/\g.1<=k/\Prod.snd (a3B g)=0::List.replicate (g.1-1) 1)/\Heap.get g.2.1 (h.next)=IObj.tip 6/\Heap.get g.2.1 ((a3B g).1)=IObj.tip (((a3B g).2).length)/\Prod.fst (a3B g)
 ≠Heap.next h/\Heap.next h< (a3B g).1/\Prod.fst (a3B g)<g.2.1.next/\∀(j:Nat),j<h.next->Heap.get g.2.1 j=h.get j)/\k-g.1<q
theorem d8O(k:Nat)(h:Heap)(Q:KT):dF (aR a3V) env 251 cS (oE 6 (anI k h)) bK [.nilslice,.int .i64 (k:Int)] h Q=(
 ((∃(x:Nat),some (a0N h)=some (a0N h)/\some (a1G k)=some (a1G k)/\some a1F=some a1F/\some a3E=some a3E/\some a6N=some a6N/\Heap.push h a3D=h.push a3D/\(x=1/\True)/\True) \/ ∃(x:Nat×Heap×Nat×Y12),some (a0N h)=some (a0N h)/\some (a1G k)=some (a1G k)/\some a1F=some a1F/\some a3E=some (TV.v (.vslice (some x.2.2.1) x.2.2.2.length x.2.2.2.length 1 (List.map a3C x.2.2.2)))/\some a6N=tI (x.1:Int)/\Heap.push h a3D=x.2.1/\((1<=x.1/\x.1<=k/\x.2.2.2=0::List.replicate (x.1-1) 1)/\Heap.get x.2.1 (h.next)=IObj.tip 6/\Heap.get x.2.1 x.2.2.1=IObj.tip x.2.2.2.length/\x.2.2.1≠Heap.next h/\Heap.next h<x.2.2.1/\x.2.2.1< (x.2.1).next/\∀(j:Nat),j<h.next->Heap.get x.2.1 j=h.get j)/\True)/\(∀(x:Nat)(b:FF),x=1/\True->aI (decide (1< (k:Int))) ((∃(g:Nat),some (a0N h)=some (a0N h)/\some (a1G k)=some (a1G k)/\some a1F=some a1F/\some (TV.v (b9A h))=some a3E/\tI 2=some a6N/\Heap.push (h.push a3D) (IObj.tip 2)=h.push a3D/\(g=1/\True)/\k-g<k-x) \/b7I h k (b9A h) 2 (a3Q h) (k-x)) (aC (true&& (decide ((0:Int)<=(k:Int)) &&decide ((k:Int)<=2))) (aI (Nat.beq (a0C k) 0) (cF (a3Q h) (h.next) fun(l:Nat)=>aC (Nat.beq l 6 &&true) (Q (.tuple [.vslice (some (h.next)) 9 3 3 [iI 26,iI 0,IV.vslice none 0 0 1 [],iI 1,iI 0,IV.vslice none 0 0 1 [],iI 31,iI 0,IV.vslice none 0 2 1 b7J],iI 2]) ((a3Q h).set (h.next) b0Q))) (cF (a3Q h) (h.next+1) fun(m:Nat)=>aC (Nat.beq m 2 &&Nat.ble (((2:Nat)+(a0C k))*8) 140737488355328) (cF (c0K k h) (h.next) fun(p:Nat)=>aC (Nat.beq p 6 &&true) (Q (IV.tuple [.vslice (some (h.next)) 9 3 3 [iI 26,iI 0,IV.vslice none 0 0 1 [],iI 1,iI 0,IV.vslice none 0 0 1 [],iI 31,iI 0,IV.vslice none 0 ((2:Nat)+(a0C k)) 1 (iI 0::iI 1::List.take ((a0C k)*1) b7J)],iI 2]) ((c0K k h).set (h.next) b0Q)))))))/\∀(x:Nat×Heap×Nat×Y12)(b:FF),((1<=x.1/\x.1<=k/\x.2.2.2=0::List.replicate (x.1-1) 1)/\Heap.get x.2.1 (h.next)=IObj.tip 6/\Heap.get x.2.1 ((x.2.2).1)=IObj.tip x.2.2.2.length/\x.2.2.1≠Heap.next h/\Heap.next h<x.2.2.1/\x.2.2.1<x.2.1.next/\∀(j:Nat),j<h.next->Heap.get ((x.2).1) j=h.get j)->aI (decide ((x.1:Int)< (k:Int))) (cF x.2.1 x.2.2.1 fun(q:Nat)=>aC (Nat.beq q x.2.2.2.length&&Nat.ble ((x.2.2.2.length+1)*(8:Nat)) 140737488355328) ((∃(g:Nat),some (a0N h)=some (a0N h)/\some (a1G k)=some (a1G k)/\some a1F=some a1F/\some (TV.v (.vslice (some x.2.2.1) (x.2.2.2.length+1) (((x.2.2).2).length+1) 1 (List.map a3C x.2.2.2++a8L)))=some a3E/\tI (wW ((x.1:Int)+1))=some a6N/\Heap.set x.2.1 x.2.2.1 (IObj.tip (x.2.2.2.length+1))=h.push a3D/\(g=1/\True)/\k-g<k-x.1) \/b7I h k (IV.vslice (some x.2.2.1) (x.2.2.2.length+1) ((((x.2).2).2).length+1) 1 (List.map a3C x.2.2.2++a8L)) (wW ((x.1:Int)+1)) (x.2.1.set x.2.2.1 (IObj.tip (x.2.2.2.length+1))) (k-x.1))) (cF x.2.1 x.2.2.1 fun(r:Nat)=>aC (Nat.beq r x.2.2.2.length&&Nat.ble ((x.2.2.2.length+1)*8) 140737488355328) (aC (true&& (decide ((0:Int)<=(k:Int)) &&decide ((k:Int)<=(↑(x.2.2.2.length+1):Int)))) (aI (Nat.beq (a0C k) 0) (cF (x.2.1.set x.2.2.1 (IObj.tip (x.2.2.2.length+1))) (h.next) fun(y:Nat)=>aC (Nat.beq y 6 &&true) (Q (.tuple [.vslice (some (h.next)) 9 3 3 [iI 26,iI 0,IV.vslice none 0 0 1 [],iI 1,iI 0,IV.vslice none 0 0 1 [],iI 31,iI 0,IV.vslice none 0 (x.2.2.2.length+1) 1 (List.map a3C x.2.2.2++a8L)],iI 2]) ((x.2.1.set x.2.2.1 (IObj.tip (x.2.2.2.length+1))).set (h.next) b0Q))) (cF (x.2.1.set x.2.2.1 (IObj.tip (x.2.2.2.length+(1:Nat)))) x.2.2.1 fun(z:Nat)=>aC (Nat.beq z (x.2.2.2.length+1) &&Nat.ble ((x.2.2.2.length+1+(a0C k))*8) 140737488355328) (cF (((x.2.1).set x.2.2.1 (IObj.tip (x.2.2.2.length+1))).set x.2.2.1 (IObj.tip (x.2.2.2.length+1+(a0C k)*1))) (h.next) fun(A:Nat)=>aC (Nat.beq A 6 &&true) (Q (.tuple [.vslice (some (h.next)) 9 3 3 [iI 26,iI 0,IV.vslice none 0 0 1 [],iI 1,iI 0,IV.vslice none 0 0 1 [],iI 31,iI 0,IV.vslice none 0 (x.2.2.2.length+1+(a0C k)) 1 (List.map a3C x.2.2.2++a8L++List.take ((a0C k)*1) (List.drop 0 (List.map a3C x.2.2.2++a8L)))],iI 2]) (((x.2.1.set x.2.2.1 (IObj.tip (x.2.2.2.length+1))).set x.2.2.1 (IObj.tip (x.2.2.2.length+1+(a0C k)*1))).set (h.next) b0Q)))))))):=by kernel_rfl
theorem c5T: ∀xs h Q,Vf xs h Q->aL env 251 xs h Q:=by
 intro xs h Q D;unfold Vf at D;split at D
 ·rename_i q;obtain⟨k,rfl,hb,D⟩:=D;refine aN (a8Q) (d8O k h Q) ?_;delta b7I a0N a3E a1F a0C a3Q a1G b7J a6N a8L a3C a3B a3D b9A c0K b0Q tI wW iI;obtain⟨h1,h2⟩:=hb;simp only [AK,IX,AO];refine⟨.inl ⟨1,JJ,JJ,JJ,JJ,JJ,JJ,⟨rfl,True.intro⟩,True.intro⟩,?_,?_⟩
  ·rintro x _ ⟨rfl,_⟩;have Y:((h.push (.tip 6)).push (.tip 2)).get h.next= .tip 6:=(aQ (show h.next< (h.push (.tip 6)).next from AV _)).trans aT;have Z: ∀j,j<h.next->((h.push (.tip 6)).push (.tip 2)).get j=h.get j:=fun j G=>(aQ (show j< (h.push (.tip 6)).next from BY G)).trans (aQ G)
   refine gO (fun c=> .inr ⟨(2,_,h.next+1,[0,1]),JJ,JJ,JJ,JJ,JJ,JJ,⟨⟨by show 1<=2;omega,by show 2<=k;omega,rfl⟩,Y,aT,FU (AV _),AV _,AV _,Z⟩,by show k-2<k-1;omega⟩) (fun c=>?_);have V:k=1:=JF;subst V;refine aA JG (bf JG (aS aT (aA JG (aS ((aH (EQ (AV _))).trans Y) (aA rfl ?_)))));refine cast (congrArg (fun z=>Q z _) ?_) (D _ _ rfl ⟨aK,BY (AV _),fun j G=>(aH (EQ G)).trans ((aH (EQ (BY G))).trans (Z j G))⟩);rfl
  ·rintro⟨j,g,jk,ks⟩ _ ⟨⟨j1,j2,p⟩,r,y,m,K,O,A⟩;dsimp only at j1 j2 p r y m K O A⊢;have R:ks.length=j:=by
    rw [p,AW,EJ];omega
   refine gO (fun c=>aS y (aA (by simp only [AD,bL,AS,true_and];omega) (.inr ⟨(j+1,g.set jk (.tip (ks.length+1)),jk,ks++ [1]),JJ,JJ,JJ,JH,(by(try dsimp only);rw [AF _ JF];rfl),JJ,⟨⟨CN _,by(try dsimp only);omega,?_⟩,(aH m.symm).trans r,?_,m,K,O,fun q X=>(aH JF).trans (A q X)⟩,by(try dsimp only);omega⟩))) (fun c=>?_)
   ·(try dsimp only)
    rw [p,CO,<-List.replicate_succ',show j-1+1=j+1-1 by omega]
   ·(try dsimp only)
    rw [AJ];exact aK
   ·have L:j=k:=JF;subst L;refine aS y (aA (by simp only [AD,bL,AS,true_and];omega) (aA (by simp only [BC,AD,decide_eq_true_eq];omega) (bf (by rw [Rh];omega) (aS aK (aA (by simp only [AD,bL,AS,true_and];omega) (aS ((aH m.symm).trans ((aH m.symm).trans r)) (aA rfl ?_)))))));refine cast (congrArg (fun z=>Q z _) ?_) (D _ _ rfl ⟨aK,by show h.next<g.next;omega,fun q X=>(aH JF).trans ((aH JF).trans ((aH JF).trans (A q X)))⟩);have e:=tB (l:=[]) (k:=j);rw [DX]at e;have e2:=Ac (n:=0) h1 p;rw [show Keep.loopC 0 j=(jM ([]:Y15).length j).flatMap cN from rfl,e,show([]:Y15).length=0 from rfl,e2,CZ,CM (by rw [BG];omega),AM (by rw [BG];omega)];simp only [CB,AJ,BP,DJ,AW,BW,R];rfl
 ·exact D.elim
def c4L:=aV 251 Vf a3V
theorem c9S:aO env c4L:=aF c5T (a8Q)
def c8H(xs:Y14)(h:Heap)(K:KT):Prop:=match xs with
 | [a,b]=>Vg [a,b] h K\/Vf [a,b] h K
 |_=>False
theorem e2Y: ∀xs h Q,c8H xs h Q->aL env 251 xs h Q:=by
 intro xs h Q g;unfold c8H at g;split at g
 ·exact g.elim (c5U _ _ _) (c5T _ _ _)
 ·exact g.elim
def c6X:=aV 251 c8H c4L
theorem c4Y:aO env c6X:=aF e2Y (c9S)
def Du(xs:Y14)(h:Heap)(K:KT):Prop:=match xs with
 | [.int .i64 k]=>(1<=k/\k<=1000000)/\K (.int .i64 ((k-1)/2)) h
 |_=>False
theorem c1W(k:Int)(h:Heap)(Q:KT):dF (aR c6X) env 252 cS bK bK [.int .i64 k] h Q=(
 Q (.int .i64 (wW (Int.tdiv (wW (k-1)) 2))) h):=by kernel_rfl
theorem c0N: ∀xs h Q,Du xs h Q->aL env 252 xs h Q:=by
 intro xs h Q g;unfold Du at g;split at g
 ·rename_i k;obtain⟨j,g⟩:=g;refine aN (c4Y) (c1W k h Q) ?_;delta wW;refine cD g ?_
  congr 1
  rw [AF (k-1) JF,DA JF,AF _ JF]
 ·exact g.elim
def Ce:=aV 252 Du c6X
theorem Jc:aO env Ce:=aF c0N (c4Y)
def b7T(l:Y15)(i:Nat)(k0:Y12)(id:Nat)(h:Heap)(j:Nat)(g:Heap)(m p:Nat)(few:Y15)(kids:Y12):Prop:=(j<=(l.getD i default).ks.length/\(few,kids)=iW ([],[]) (lW l i j k0))/\(g.get m= .tip (few.length*3)/\g.get p= .tip kids.length)/\(m≠id/\p≠id/\m≠p)/\(m<g.next/\p<g.next)/\g.get id=h.get id/\h.next<=g.next
def e1A(l:Y15)(i e0 id:Nat)(k0:Y12)(h:Heap):Inv':= .or
 (eA Nat (fun x=>[(0,.v (.vslice none e0 (l).length 3 ((l).flatMap cN))),(1,.v (.hslice id 0 k0.length 1)),(2,.v (.int .i64 (i:Int))),(16,.v (.vslice none 0 ((l.getD i default).ks).length 1 (((l.getD i default).ks).map (IV.int .i64)))),(17,.v (.int .i64 (l.getD i default).ks.length)),(18,.v (.int .i64 0)),(7,.v .nilslice),(8,.v .nilslice)]) (fun _=>[]) (fun _=>h) (fun x=>x=0/\True) (fun x=>(l.getD i default).ks.length-x))
 (eA (Nat×Heap×Nat×Nat×Y15×Y12) (fun x=>[(0,.v (.vslice none e0 (l).length 3 ((l).flatMap cN))),(1,.v (.hslice id 0 k0.length 1)),(2,.v (.int .i64 (i:Int))),(16,.v (.vslice none 0 ((l.getD i default).ks).length 1 (((l.getD i default).ks).map (IV.int .i64)))),(17,.v (.int .i64 (l.getD i default).ks.length)),(18,.v (.int .i64 (x.1:Int))),(7,.v (.vslice (some x.2.2.1) (x.2.2.2.2.1.length*3) x.2.2.2.2.1.length 3 (x.2.2.2.2.1.flatMap cN))),(8,.v (.vslice (some x.2.2.2.1) x.2.2.2.2.2.length x.2.2.2.2.2.length 1 (x.2.2.2.2.2.map (IV.int .i64))))]) (fun _=>[]) (fun x=>x.2.1)
 (fun x=>b7T l i k0 id h x.1 x.2.1 x.2.2.1 x.2.2.2.1 x.2.2.2.2.1 x.2.2.2.2.2/\True) (fun x=>(l.getD i default).ks.length-x.1))
def Pp(xs:Y14)(h:Heap)(K:KT):Prop:=match xs with
 | [.vslice none e0 n0 3 c0,.hslice id 0 n2 1,.int .i64 q]=> ∃(l:Y15)(i:Nat)(k0:Y12),(n0=l.length/\c0=l.flatMap cN/\q=(i:Int)/\n2=k0.length)/\(NGP l i k0/\h.get id= .cells (k0.map (IV.int .i64))/\id<h.next)/\∀h2:Heap,h2.get id=h.get id/\h.next<=h2.next->K (.int .i64 (cA (l.take i) (aE (l.take i)) (l.getD i default))) h2
 |_=>False
def fM(l:Y15)(i:Nat):=Nd.ks (List.getD l i default)
def sC:=IV.int .i64
def qD(l:Y15)(i:Nat):=TV.v (.vslice none 0 ((fM l i).length) 1 (List.map sC (fM l i)))
def qE(l:Y15)(i:Nat):=TV.v (.int .i64 (↑((fM l i).length):Int))
def nW(l:Y15)(e0:Nat):=TV.v (.vslice none e0 l.length 3 (List.flatMap cN l))
def nX(id:Nat)(k0:Y12):=TV.v (.hslice id 0 k0.length 1)
def nY(i:Nat):=TV.v (.int .i64 (i:Int))
def Yk:=[iI 26,iI 0,IV.vslice none 0 0 1 []]
def Yl:=[iI 1,iI 0,IV.vslice none 0 0 1 []]
def Bs(l:Y15)(i:Nat):=decide (0<=(i:Int)) &&decide ((i:Int)< (l.length:Int))
def F8:=TV.v (.int .i64 0)
def Ym(h:Heap):=IV.vslice (some (h.next+1)) 1 1 1 [iI 0]
def nZ:=TV.v IV.nilslice
def b3K(h2:Heap):=IV.vslice (some (h2.next)) 1 1 1 [iI 2]
def Lw(h:Heap):=h.push (IObj.tip 3)
def Bt:=IObj.tip 1
def b3L(l:Y15):=(∀(x:Nd),x∈l->List.length (Nd.ks x)<=1000000/\True)
def Bu(g:Y15):=g.length+3
def b3M(h:Heap):=IV.vslice (some (h.next)) 3 1 3 Yl
def b3N(h:Heap):=IV.vslice (some (h.next)) 3 1 3 Yk
def Tb(e0 i id x:Nat)(h:Heap)(k0:Y12)(l:Y15)(j:IV):Prop:= ∃(g:Nat),some (nW l e0)=some (nW l e0)/\some (nX id k0)=some (nX id k0)/\some (nY i)=some (nY i)/\some (qD l i)=some (qD l i)/\some (qE l i)=some (qE l i)/\tI 1=some F8/\some (TV.v (j))=some nZ/\some (TV.v (Ym h))=some nZ/\Heap.push
 (Lw h) Bt=h/\(g=0/\True)/\List.length (fM l i)-g< (fM l i).length-x
def Tc(e0 i id:Nat)(h:Heap)(k0:Y12)(l:Y15)(x:Nat×Heap×Nat×Nat×Y15×Y12)(j:IV):Prop:= ∃(g:Nat),some (nW l e0)=some (nW l e0)/\some (nX id k0)=some (nX id k0)/\some (nY i)=some (nY i)/\some (qD l i)=some (qD l i)/\some (qE l i)=some (qE l i)/\tI (wW ((x.1:Int)+1))=some F8/\some (TV.v (j))=some nZ/\some (TV.v (.vslice (some
 x.2.2.2.1) (x.2.2.2.2.2.length+1) (x.2.2.2.2.2.length+1) 1 (List.map sC x.2.2.2.2.2++ [iI (x.2.2.2.2.1.length:Int)])))=some nZ/\Heap.set (x.2.1.set x.2.2.1 (IObj.tip (x.2.2.2.2.1.length*3+3))) x.2.2.2.1 (IObj.tip (x.2.2.2.2.2.length+1))=h/\(g=0/\True)/\List.length
 (fM l i)-g< (fM l i).length-x.1
def wS(e0 i id:Nat)(h:Heap)(k0:Y12)(l:Y15)(j:Int)(m p:IV)(q:Heap)(r:Nat):Prop:= ∃(g:Nat×Heap×Nat×Nat×Y15×Y12),some (nW l e0)=some (nW l e0)/\some (nX id k0)=some (nX id k0)/\some (nY i)=some (nY i)/\some (qD l i)=some (qD l i)/\some (qE l i)=some (qE l i)/\tI (j)=tI (g.1:Int)/\some (TV.v (m))=some (TV.v
 (.vslice (some g.2.2.1) (g.2.2.2.2.1.length*3) g.2.2.2.2.1.length 3 (List.flatMap cN g.2.2.2.2.1)))/\some (TV.v (p))=some (TV.v (.vslice (some g.2.2.2.1) g.2.2.2.2.2.length g.2.2.2.2.2.length 1 (List.map sC g.2.2.2.2.2)))/\q=g.2.1/\(((g.1<=List.length (fM l i)/\(g.2.2.2.2.1,
 g.2.2.2.2.2)=iW ([],[]) (lW l i g.1 k0))/\(g.2.1.get g.2.2.1=IObj.tip (g.2.2.2.2.1.length*3)/\Heap.get g.2.1 g.2.2.2.1=IObj.tip g.2.2.2.2.2.length)/\(g.2.2.1≠id/\g.2.2.2.1≠id/\g.2.2.1≠g.2.2.2.1)/\(g.2.2.1<g.2.1.next/\g.2.2.2.1<g.2.1.next)/\
 Heap.get g.2.1 id=h.get id/\Heap.next h<=Heap.next g.2.1)/\True)/\List.length (fM l i)-g.1<r
theorem d1Y(l:Y15)(i:Nat)(e0 id:Nat)(k0:Y12)(h:Heap)(Q:KT):dF (aR Ce) env 195 cS (oE 5 (e1A l i e0 id k0 h)) bK [.vslice none e0 (l).length 3 ((l).flatMap cN),.hslice id 0 k0.length 1,.int .i64 (i:Int)] h Q=(
 aC (Bs l i) (aZ 1 (List.flatMap cN l) ((i:Int).toNat*3+2) fun(i0:Y10)(e1 A:Nat)(c3:Y14)=>((∃(x:Nat),some (nW l e0)=some (nW l e0)/\some (nX id k0)=some (nX id k0)/\some (nY i)=some (nY i)/\some (TV.v (.vslice i0 e1 A 1 c3))=some (qD l i)/\tI (A:Int)=some (qE l i)/\some F8=some F8/\some nZ=some nZ/\some nZ=some nZ/\h=h/\(x=0/\True)/\True) \/ ∃(x:Nat×Heap×Nat×Nat×Y15×Y12),some (nW l e0)=some (nW l e0)/\some (nX id k0)=some (nX id k0)/\some (nY i)=some (nY i)/\some (TV.v (.vslice i0 e1 A 1 c3))=some (qD l i)/\tI (A:Int)=some (qE l i)/\some F8=tI (x.1:Int)/\some nZ=some (TV.v (.vslice (some x.2.2.1) (x.2.2.2.2.1.length*3) x.2.2.2.2.1.length 3 (List.flatMap cN (((((x.2).2).2).2).1))))/\some nZ=some (TV.v (.vslice (some x.2.2.2.1) x.2.2.2.2.2.length x.2.2.2.2.2.length 1 (List.map sC ((((x.2.2).2).2).2))))/\h=x.2.1/\(((x.1<=List.length (fM l i)/\(x.2.2.2.2.1,x.2.2.2.2.2)=iW ([],[]) (lW l i x.1 k0))/\(x.2.1.get ((x.2.2).1)=IObj.tip (x.2.2.2.2.1.length*3)/\Heap.get x.2.1 x.2.2.2.1=IObj.tip x.2.2.2.2.2.length)/\(((x.2).2).1≠id/\x.2.2.2.1≠id/\x.2.2.1≠x.2.2.2.1)/\(x.2.2.1<x.2.1.next/\x.2.2.2.1<x.2.1.next)/\Heap.get x.2.1 id=h.get id/\Heap.next h<=Heap.next x.2.1)/\True)/\True)/\(∀(x:Nat)(b:FF),x=0/\True->aI (decide (0< (↑((fM l i).length):Int))) (aC (true&&decide (0< (↑((fM l i).length):Int))) (aG .i64 (List.map sC (fM l i)) 0 fun y=>aC (decide (0<=y) &&decide (y< (k0.length:Int))) (aJ h id fun r5=>aG .i64 r5 ((0:Nat)+y.toNat*1) fun n6=>aI (n6==1) ((Tb e0 i id x h k0 l (b3M h)) \/wS e0 i id h k0 l 1 (b3M h) (Ym h) ((Lw h).push Bt) ((fM l i).length-x)) (aI (n6==2) ((Tb e0 i id x h k0 l (b3N h)) \/wS e0 i id h k0 l 1 (b3N h) (Ym h) ((Lw h).push Bt) ((fM l i).length-x)) (aC (decide (0<=y) &&decide (y< (l.length:Int))) (aZ 1 (List.flatMap cN l) (y.toNat*3+2) fun(i7:Y10)(e8 D:Nat)(a1:Y14)=>(1<=(D:Int)/\(D:Int)<=1000000)/\(False\/ ∃(k:Nat),((D:Int)-1)/ (2:Int)=(k:Int)/\(1<=k/\k<=16)/\∀(h2:Heap)(q:Y14),q=Keep.loopC 0 k->(h2.get (h.next)=IObj.tip 9/\Heap.next h<h2.next/\∀(j:Nat),j<h.next->Heap.get h2 j=h.get j)->(∃(p:Nat),some (nW l e0)=some (nW l e0)/\some (nX id k0)=some (nX id k0)/\some (nY i)=some (nY i)/\some (qD l i)=some (qD l i)/\some (qE l i)=some (qE l i)/\tI 1=some F8/\some (TV.v (.vslice (some (h.next)) 9 3 3 q))=some nZ/\some (TV.v (b3K h2))=some nZ/\Heap.push h2 Bt=h/\(p=0/\True)/\List.length (fM l i)-p< (fM l i).length-x) \/wS e0 i id h k0 l 1 (IV.vslice (some (h.next)) 9 3 3 q) (b3K h2) (h2.push Bt) ((fM l i).length-x)))))))) (aC (Bs l i) (aG .i64 (List.flatMap cN l) ((i:Int).toNat*3+0) fun X=>aC (Bs l i) (aG .i64 (List.flatMap cN l) ((i:Int).toNat*3+1) fun Y=> ∃(l:Y15),((1:Nat)=l.length/\[iI X,iI Y,IV.vslice none 0 0 1 []]=List.flatMap cN l)/\((b3L l)/\l.length<=1000000/\(0:Int)<=0/\0< (l.length:Int))/\Q (.int .i64 (List.getD (aE l) 0 0)) (Lw h)))))/\∀(x:Nat×Heap×Nat×Nat×Y15×Y12)(b:FF),b7T l i k0 id h x.1 x.2.1 x.2.2.1 x.2.2.2.1 x.2.2.2.2.1 ((((x.2.2).2).2).2)/\True->aI (decide ((x.1:Int)< (↑((fM l i).length):Int))) (aC (decide (0<=(x.1:Int)) &&decide ((x.1:Int)< (↑((fM l i).length):Int))) (aG .i64 (List.map sC (fM l i)) ((x.1:Int).toNat*(1:Nat)) fun m=>aC (decide (0<=m) &&decide (m< (k0.length:Int))) (aJ x.2.1 id fun Gp=>aG .i64 Gp ((0:Nat)+m.toNat*1) fun z=>aI (z==1) (cF x.2.1 (x.2.2.1) fun(G:Nat)=>aC (Nat.beq G (x.2.2.2.2.1.length*3) &&Nat.ble ((x.2.2.2.2.1.length+1)*40) 140737488355328) (cF ((x.2.1).set x.2.2.1 (IObj.tip (x.2.2.2.2.1.length*3+3))) x.2.2.2.1 fun(K:Nat)=>aC (Nat.beq K ((((((x.2).2).2).2).2).length) &&Nat.ble ((x.2.2.2.2.2.length+1)*8) 140737488355328) ((Tc e0 i id h k0 l x (IV.vslice (some x.2.2.1) (x.2.2.2.2.1.length*3+(3:Nat)) (x.2.2.2.2.1.length+1) 3 (List.flatMap cN x.2.2.2.2.1++Yl))) \/wS e0 i id h k0 l (wW ((x.1:Int)+1)) (IV.vslice (some (x.2.2.1)) (x.2.2.2.2.1.length*3+3) (x.2.2.2.2.1.length+1) 3 (List.flatMap cN x.2.2.2.2.1++Yl)) (IV.vslice (some x.2.2.2.1) (x.2.2.2.2.2.length+1) (x.2.2.2.2.2.length+1) 1 (List.map sC x.2.2.2.2.2++ [iI (x.2.2.2.2.1.length:Int)])) ((x.2.1.set x.2.2.1 (IObj.tip (x.2.2.2.2.1.length*3+3))).set (x.2.2.2.1) (IObj.tip (x.2.2.2.2.2.length+1))) ((fM l i).length-x.1)))) (aI (z==2) (cF x.2.1 x.2.2.1 fun(L:Nat)=>aC (Nat.beq L (x.2.2.2.2.1.length*3) &&Nat.ble ((x.2.2.2.2.1.length+1)*40) 140737488355328) (cF (x.2.1.set x.2.2.1 (IObj.tip (x.2.2.2.2.1.length*3+3))) x.2.2.2.1 fun(O:Nat)=>aC (Nat.beq O x.2.2.2.2.2.length&&Nat.ble ((((((x.2.2).2).2).2).length+1)*8) 140737488355328) ((Tc e0 i id h k0 l x (IV.vslice (some x.2.2.1) (x.2.2.2.2.1.length*3+3) ((((((x.2).2).2).2).1).length+1) 3 (List.flatMap cN x.2.2.2.2.1++Yk))) \/wS e0 i id h k0 l (wW ((x.1:Int)+1)) (IV.vslice (some x.2.2.1) (((((x.2.2).2).2).1).length*3+3) (x.2.2.2.2.1.length+1) 3 (List.flatMap cN x.2.2.2.2.1++Yk)) (IV.vslice (some x.2.2.2.1) ((x.2.2.2.2.2).length+1) (x.2.2.2.2.2.length+1) 1 (List.map sC x.2.2.2.2.2++ [iI (↑(((((x.2.2).2).2).1).length):Int)])) ((x.2.1.set x.2.2.1 (IObj.tip (x.2.2.2.2.1.length*3+3))).set x.2.2.2.1 (IObj.tip (((x.2.2.2.2).2).length+1))) ((fM l i).length-x.1)))) (aC (decide (0<=m) &&decide (m< (l.length:Int))) (aZ 1 (List.flatMap cN l) (m.toNat*3+2) fun(a4:Y10)(a3 r:Nat)(a2:Y14)=>(1<=(r:Int)/\(r:Int)<=1000000)/\((∃(g:Y15)(k:Nat),(x.2.2.2.2.1.length=g.length/\x.2.2.2.2.1.length*3=g.length*3/\List.flatMap cN x.2.2.2.2.1=List.flatMap cN g/\((r:Int)-1)/ (2:Int)=(k:Int))/\(1<=k/\k<=16/\g.length<=100000)/\Heap.get x.2.1 x.2.2.1=IObj.tip (g.length*3)/\x.2.2.1<x.2.1.next/\∀(h2:Heap)(q:Y14),q=List.flatMap cN g++Keep.loopC g.length k->(h2.get x.2.2.1=IObj.tip ((Bu g)*3)/\Heap.next (x.2.1)<=Heap.next h2/\∀(j:Nat),j<x.2.1.next->j≠x.2.2.1->Heap.get h2 j=x.2.1.get j)->cF h2 x.2.2.2.1 fun(R:Nat)=>aC (Nat.beq R (((x.2.2.2.2).2).length) &&Nat.ble ((x.2.2.2.2.2.length+1)*8) 140737488355328) ((∃(p:Nat),some (nW l e0)=some (nW l e0)/\some (nX id k0)=some (nX id k0)/\some (nY i)=some (nY i)/\some (qD l i)=some (qD l i)/\some (qE l i)=some (qE l i)/\tI (wW ((x.1:Int)+1))=some F8/\some (TV.v (.vslice (some x.2.2.1) ((Bu g)*3) (Bu g) 3 q))=some nZ/\some (TV.v (.vslice (some x.2.2.2.1) (x.2.2.2.2.2.length+1) (x.2.2.2.2.2.length+1) 1 (List.map sC ((x.2.2.2.2).2)++ [iI (↑(g.length+2):Int)])))=some nZ/\Heap.set h2 x.2.2.2.1 (IObj.tip (x.2.2.2.2.2.length+1))=h/\(p=0/\True)/\List.length (fM l i)-p< (fM l i).length-x.1) \/wS e0 i id h k0 l (wW ((x.1:Int)+1)) (IV.vslice (some x.2.2.1) ((Bu g)*3) (Bu g) 3 q) (IV.vslice (some ((x.2.2.2).1)) (x.2.2.2.2.2.length+1) (x.2.2.2.2.2.length+1) 1 (List.map sC x.2.2.2.2.2++ [iI (↑(g.length+2):Int)])) (h2.set x.2.2.2.1 (IObj.tip (x.2.2.2.2.2.length+1))) ((fM l i).length-x.1))) \/False))))))) (aC (Bs l i) (aG .i64 (List.flatMap cN l) ((i:Int).toNat*3+0) fun Z=>aC (Bs l i) (aG .i64 (List.flatMap cN l) ((i:Int).toNat*3+1) fun a0=>cF x.2.1 x.2.2.1 fun(V:Nat)=>aC (Nat.beq V ((x.2.2.2.2.1).length*3) &&Nat.ble ((x.2.2.2.2.1.length+1)*40) 140737488355328) (∃(l:Y15),(x.2.2.2.2.1.length+1=l.length/\List.flatMap cN x.2.2.2.2.1++ [iI Z,iI a0,IV.vslice none 0 x.2.2.2.2.2.length 1 (List.map sC (((((x.2).2).2).2).2))]=List.flatMap cN l)/\((b3L l)/\l.length<=1000000/\0<=wW ((↑(x.2.2.2.2.1.length+1):Int)-1)/\wW ((↑(((((x.2.2).2).2).1).length+1):Int)-1)< (l.length:Int))/\Q (.int .i64 (List.getD (aE l) ((wW ((↑(x.2.2.2.2.1.length+1):Int)-1)).toNat) 0)) ((x.2.1).set x.2.2.1 (IObj.tip (x.2.2.2.2.1.length*3+3))))))))):=by kernel_rfl
theorem d0J: ∀xs h Q,Pp xs h Q->aL env 195 xs h Q:=by
 intro xs h Q R;unfold Pp at R;split at R
 ·rename_i e0 n0 c0 id n2 q;obtain⟨l,i,k0,⟨rfl,rfl,rfl,rfl⟩,hb,R⟩:=R;refine aN (Jc) (d1Y l i e0 id k0 h Q) ?_;delta Tb Tc wS qD qE nW nX fM nY Yk Yl Bs F8 Ym nZ sC b3K Lw Bt b3L Bu b3M b3N tI wW iI;have tn: ∀x:Nat,(x:Int).toNat=x:=AK
  obtain⟨X,hg,A⟩:=hb;have hi:=X.hi;have a8:=X.hkl;have a9:=X.hll;have eD:l.getD i default=l[i]:=by rw [AC,AA hi];rfl
  have e0:(l.flatMap cN)[i*3]?=some (.int .i64 (l.getD i default).op):=by rw [eD];exact uZ hi (j:=0) JF
  have e1:(l.flatMap cN)[i*3+1]?=some (.int .i64 (l.getD i default).im):=by rw [eD];exact uZ hi (j:=1) JF
  have kq: ∀j,(r:j< (l.getD i default).ks.length)-> ∃(q1:((l.getD i default).ks[j]).toNat<k0.length),(0<=(l.getD i default).ks[j]/\(l.getD i default).ks[j]<l.length)/\k0[((l.getD i default).ks[j]).toNat]=k0.getD ((l.getD i default).ks[j]).toNat 0/\(k0.getD ((l.getD i default).ks[j]).toNat 0=1\/k0.getD ((l.getD i default).ks[j]).toNat 0=2\/k0.getD ((l.getD i default).ks[j]).toNat 0=3)/\(k0.getD ((l.getD i default).ks[j]).toNat 0=3->(l.getD ((l.getD i default).ks[j]).toNat default).ks.length%2=1/\3<=(l.getD ((l.getD i default).ks[j]).toNat default).ks.length/\(l.getD ((l.getD i default).ks[j]).toNat default).ks.length<=33):=fun j r=>by
   obtain⟨a,b,c,d,e⟩:=X.kid (AH r);exact⟨b,⟨a.1,JF⟩,by rw [AC (l:=k0),AA b];rfl,d,e⟩
  refine aA (by simp;omega) (sY hi (by rw [tn]) ?_);rw [<-eD];refine⟨.inl ⟨0,JJ,JJ,JJ,JJ,JJ,JJ,JJ,JJ,JJ,⟨rfl,trivial⟩,trivial⟩,?_,?_⟩
  ·rintro x _ ⟨rfl,_⟩;have m:(([]:Y15),([]:Y12))=iW ([],[]) (lW l i 0 k0):=rfl;refine gO (fun c=>?_) (fun c=>?_)
   ·have r:0< (l.getD i default).ks.length:=JF;obtain⟨q1,q2,q3,q4,q5⟩:=kq 0 r;refine aA (by rw [BC,decide_eq_true_eq];omega) (cX r rfl (aW ⟨q2.1,JF⟩ (aD hg (cX q1 JF ?_))));rw [q3];have K: ∀(o p:IObj),((h.push o).push p).get id=h.get id:=fun o p=>(aQ (show id< (h.push o).next from BY A)).trans (aQ A)
    have a1: ∀(o p:IObj),((h.push o).push p).get h.next=o:=fun o p=>(aQ (show h.next< (h.push o).next from AV _)).trans aT
    rcases q4 with s|s|s
    ·rw [s];exact bt rfl (.inr ⟨(1,_,h.next,h.next+1,[⟨1,0,[]⟩],[0]),JJ,JJ,JJ,JJ,JJ,JJ,JJ,JJ,JJ,⟨⟨⟨r,Y4 r m s⟩,⟨a1 _ _,aT⟩,⟨JK,JK,JK⟩,⟨by show h.next<h.next+1+1;omega,by show h.next+1<h.next+1+1;omega⟩,K _ _,by show h.next<=h.next+1+1;omega⟩,trivial⟩,JK⟩)
    ·rw [s];exact bf rfl (bt rfl (.inr ⟨(1,_,h.next,h.next+1,[⟨26,0,[]⟩],[0]),JJ,JJ,JJ,JJ,JJ,JJ,JJ,JJ,JJ,⟨⟨⟨r,Y5 r m s⟩,⟨a1 _ _,aT⟩,⟨JK,JK,JK⟩,⟨by show h.next<h.next+1+1;omega,by show h.next+1<h.next+1+1;omega⟩,K _ _,by show h.next<=h.next+1+1;omega⟩,trivial⟩,JK⟩))
    ·rw [s];have a4:=q5 s;have hm:(l.getD ((l.getD i default).ks[0]).toNat default)=l[((l.getD i default).ks[0]).toNat]:=by rw [AC,AA JF];rfl
     refine bf rfl (bf rfl (aW q2 (sY (show((l.getD i default).ks[0]).toNat<l.length by omega) rfl ⟨by rw [<-hm];omega,.inr ⟨((l.getD ((l.getD i default).ks[0]).toNat default).ks.length-1)/2,by rw [<-hm];omega,JF,fun h2 cc O ⟨g1,L,g3⟩=> .inr ⟨(1,h2.push (.tip 1),h.next,h2.next,jM 0 (((l.getD ((l.getD i default).ks[0]).toNat default).ks.length-1)/2),[2]),JJ,JJ,JJ,JJ,JJ,JJ,(by rw [O];rfl),JJ,JJ,⟨⟨⟨r,Y6 r m s⟩,⟨(aQ L).trans g1,aT⟩,⟨JK,JK,JK⟩,⟨BY L,AV _⟩,(aQ (JA A L)).trans (g3 id A),by show h.next<=h2.next+1;omega⟩,trivial⟩,JK⟩⟩⟩)))
   ·have hz:(l.getD i default).ks.length=0:=JF;have fin:=X.fin (few:=[]) (kids:=[]) (by rw [hz];exact m);refine aW ⟨JF,JF⟩ (bB (by rw [tn];exact e0) (aW ⟨JF,JF⟩ (bB (by rw [tn];exact e1) ⟨[⟨(l.getD i default).op,(l.getD i default).im,[]⟩],⟨rfl,rfl⟩,⟨fun x Z=>?_,JH,JH,JH⟩,cD (R _ ⟨aQ A,EE _⟩) ?_⟩)))
    ·rw [BN.1 Z];exact⟨JH,trivial⟩
    ·rw [<-fin];rfl
  ·rintro⟨j,g,iF,D,few,kids⟩ _ ⟨st,_⟩;obtain⟨⟨a6,m⟩,⟨gF,gK⟩,⟨nF,nK,z⟩,⟨lF,lK⟩,G,V⟩:=(show b7T l i k0 id h j g iF D few kids from st);obtain⟨z1,z2,z3,z4⟩:=X.sz a6 m;dsimp only;have a5:g.get id= .cells (k0.map (IV.int .i64)):=G.trans hg;refine gO (fun c=>?_) (fun c=>?_)
   ·have r:j< (l.getD i default).ks.length:=JF;obtain⟨q1,q2,q3,q4,q5⟩:=kq j r;refine aW ⟨JF,JF⟩ (cX r (by rw [AO,tn]) (aW ⟨q2.1,JF⟩ (aD a5 (cX q1 JF ?_))));rw [q3];have hw:IntKind.i64.wrap ((j:Int)+1)=((j+1:Nat):Int):=by rw [AF _ JF];rfl
    have a2:(g.set iF (.tip (few.length*3+3))).get D= .tip kids.length:=by rw [aH z.symm];exact gK
    have a0: ∀(y:Y15)(e2:Int),y.length=few.length+1->(y,kids++ [e2])=iW ([],[]) (lW l i (j+1) k0)->b7T l i k0 id h (j+1) ((g.set iF (.tip (few.length*3+3))).set D (.tip (kids.length+1))) iF D y (kids++ [e2]):=fun y e2 hl he=>by
     refine⟨⟨r,he⟩,⟨?_,?_⟩,⟨nF,nK,z⟩,⟨lF,lK⟩,?_,V⟩
     ·rw [aH z,aK];congr 1;omega
     ·rw [aK,AJ];rfl
     ·rw [aH nK.symm,aH nF.symm];exact G
    rcases q4 with s|s|s
    ·rw [s];exact bt rfl (aS gF (aA (by simp only [AD,bL,AS,true_and];omega) (aS a2 (aA (by simp only [AD,bL,AS,true_and];omega) (.inr ⟨(j+1,_,iF,D,few++ [⟨1,0,[]⟩],kids++ [(few.length:Int)]),JJ,JJ,JJ,JJ,JJ,(by dsimp only;rw [hw]),(by simp only [AJ,AW,BW,CG];rw [CU];rfl),(by simp only [AJ,AW,BW,CB];rfl),JJ,⟨a0 _ _ JH (Y4 r m s),trivial⟩,JK⟩)))))
    ·rw [s];exact bf rfl (bt rfl (aS gF (aA (by simp only [AD,bL,AS,true_and];omega) (aS a2 (aA (by simp only [AD,bL,AS,true_and];omega) (.inr ⟨(j+1,_,iF,D,few++ [⟨26,0,[]⟩],kids++ [(few.length:Int)]),JJ,JJ,JJ,JJ,JJ,(by dsimp only;rw [hw]),(by simp only [AJ,AW,BW,CG];rw [CU];rfl),(by simp only [AJ,AW,BW,CB];rfl),JJ,⟨a0 _ _ JH (Y5 r m s),trivial⟩,JK⟩))))))
    ·rw [s];have a4:=q5 s;have hm:(l.getD ((l.getD i default).ks[j]).toNat default)=l[((l.getD i default).ks[j]).toNat]:=by rw [AC,AA JF];rfl
     refine bf rfl (bf rfl (aW q2 (sY (show((l.getD i default).ks[j]).toNat<l.length by omega) rfl ⟨by rw [<-hm];omega,.inl ⟨few,((l.getD ((l.getD i default).ks[j]).toNat default).ks.length-1)/2,⟨rfl,rfl,rfl,by rw [<-hm];omega⟩,⟨JF,JF,JF⟩,gF,lF,fun h2 cc O ⟨g1,L,g3⟩=>?_⟩⟩)));have a3:h2.get D= .tip kids.length:=(g3 D lK z.symm).trans gK;refine aS a3 (aA (by simp only [AD,bL,AS,true_and];omega) (.inr ⟨(j+1,h2.set D (.tip (kids.length+1)),iF,D,few++jM few.length (((l.getD ((l.getD i default).ks[j]).toNat default).ks.length-1)/2),kids++ [((few.length+2:Nat):Int)]),JJ,JJ,JJ,JJ,JJ,(by dsimp only;rw [hw]),?_,(by simp only [AJ,AW,BW,CB];rfl),JJ,⟨⟨⟨r,Y6 r m s⟩,⟨?_,?_⟩,⟨nF,nK,z⟩,⟨BS lF L,BS lK L⟩,?_,CW V L⟩,trivial⟩,JK⟩))
     ·dsimp only;rw [O,AJ,CG];rfl
     ·dsimp only;rw [aH z,g1,AJ];rfl
     ·dsimp only;rw [aK,AJ];rfl
     ·dsimp only;rw [aH nK.symm,g3 id JF nF.symm];exact G
   ·have a7:j=(l.getD i default).ks.length:=JF;rw [a7]at m;have fin:=X.fin m;have Y:IntKind.i64.wrap (((few.length+1:Nat):Int)-1)=(few.length:Int):=by rw [AF _ JF];omega
    refine aW ⟨JF,JF⟩ (bB (by rw [tn];exact e0) (aW ⟨JF,JF⟩ (bB (by rw [tn];exact e1) (aS gF (aA (by simp only [AD,bL,AS,true_and];omega) ⟨few++ [⟨(l.getD i default).op,(l.getD i default).im,kids⟩],⟨JH,?_⟩,⟨fun x Z=>?_,by simp;omega,by rw [Y];omega,by rw [Y];simp;omega⟩,cD (R _ ⟨?_,?_⟩) ?_⟩)))))
    ·rw [CG];rfl
    ·rcases BU.1 Z with Z|Z
     ·exact⟨z4 x Z,trivial⟩
     ·rw [BN.1 Z];exact⟨by show kids.length<=1000000;omega,trivial⟩
    ·rw [aH nF.symm];exact G
    ·exact V
    ·rw [Y,tn,fin]
 ·exact R.elim
def Nr:=aV 195 Pp Ce
theorem Vx:aO env Nr:=aF d0J (Jc)
end Go.Proofs.YthimicfahhgpcaaGreat
end
end
