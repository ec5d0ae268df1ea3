/-
  Texts of this proof, one after the other.
  Conditions: none.
-/
import Derived.Test.YthimicfahhgpcaaGreatW14
set_option linter.unusedVariables false
set_option linter.unusedSimpArgs false
set_option maxRecDepth 100000
set_option maxHeartbeats 4000000
noncomputable section
variable{i j k m n b q:Nat}{x y z u w:Int}{h g:Go.Pv.Heap}{d l:List Go.Pv.IV}{A B C:List Go.M15.Nd}{K L:Y12}{p s t:Go.Pv.IV}{F:List Go.M10.E}{D:Go.Pv.Meta}{V W:List Go.Value}{U:Go.TypeId}{o:Bool}{X Y:Go.Value}{r e:Y11}{O:Go.Oper}{N:Y10}{H:Array Go.Value}
section
namespace Go.Proofs.YthimicfahhgpcaaGreat
open Go.Pv Go.M15
def c1P(ks:List T):Inv':=eA Nat (fun i=>[(3,.v (.int .i64 (kF 1 (ks.take i)))),(7,.v (.vslice none 0 ks.length 5 (cQ ks))),(8,.v (.int .i64 ks.length)),(9,.v (.int .i64 i))]) (fun _=>[]) (fun _=>Heap.empty) (fun i=>i<=ks.length) (fun i=>ks.length-i)
def P1(d:Nat)(xs:Y14)(h:Heap)(K:KT):Prop:=match xs with
 | [.agg [.int .i64 v,.int .i64 op,.int .i64 im,.int .i64 iv,.vslice none e1 n1 5 c1]]=> ∃ks:List T,(n1=ks.length/\c1=cQ ks)/\(jY ks<d/\nS ks/\ks.length<=1000000000000000)/\K (.int .i64 (kF 1 ks)) h
 |_=>False
def d4Y(ks:List T):=TV.v (.vslice none 0 ks.length 5 (cQ ks))
def d4Z(ks:List T):=TV.v (.int .i64 (ks.length:Int))
theorem d2X(l:Nat)(v op im iv:Int)(ks:List T)(p:Nat)(h:Heap)(Q:KT):dF (aR (aV 266 (P1 l) noC)) env 266 cS (oE 4 (c1P ks)) bK [.agg [.int .i64 v,.int .i64 op,.int .i64 im,.int .i64 iv,.vslice none p (ks).length 5 (cQ ks)]] h Q=(
 aC (aP [IV.agg [.int .i64 v,iI op,iI im,iI iv,IV.vslice none 0 ks.length 5 (cQ ks)]]) ((∃(x:Nat),tI 1=tI (kF 1 (List.take x ks))/\some (d4Y ks)=some (d4Y ks)/\some (d4Z ks)=some (d4Z ks)/\tI 0=tI (x:Int)/\Heap.mk PT.nil 0=Heap.mk PT.nil 0/\Nat.le x ks.length/\True)/\∀(x:Nat)(b:FF),x<=ks.length->aI (decide ((x:Int)< (ks.length:Int))) (aC (decide (0<=(x:Int)) &&decide ((x:Int)< (ks.length:Int))) (aG .i64 (cQ ks) ((x:Int).toNat*5) fun z=>aG .i64 (cQ ks) ((x:Int).toNat*5+1) fun(A:Int)=>aG .i64 (cQ ks) ((x:Int).toNat*5+1+1) fun D=>aG .i64 (cQ ks) ((x:Int).toNat*5+1+1+1) fun G=>aZ 5 (cQ ks) ((x:Int).toNat*5+1+(1:Nat)+1+1) fun(y:Y10)(r q:Nat)(m:Y14)=> ∃(g:List T),(q=g.length/\m=cQ g)/\(jY g<l/\nS g/\g.length<=1000000000000000)/\∃(j:Nat),tI (wW (kF 1 (List.take x ks)+kF 1 g))=tI (kF 1 (List.take j ks))/\some (d4Y ks)=some (d4Y ks)/\some (d4Z ks)=some (d4Z ks)/\tI (wW ((x:Int)+1))=tI (j:Int)/\Heap.mk PT.nil 0=Heap.mk PT.nil 0/\Nat.le j ks.length/\ks.length-j<ks.length-x)) (Q (.int .i64 (kF 1 (List.take x ks))) h))):=by kernel_rfl
theorem d0F: ∀d xs h Q,P1 d xs h Q->aL env 266 xs h Q:=by
 intro d
 induction d with
 |zero=>
  intro xs h Q g;unfold P1 at g;split at g
  ·rename_i v op im iv p r c1;obtain⟨ks,⟨rfl,rfl⟩,q,g⟩:=g
   skip
   omega
  ·exact g.elim
 |succ dd ih=>
  intro xs h Q g;unfold P1 at g;split at g
  ·rename_i v op im iv p r c1;obtain⟨ks,⟨rfl,rfl⟩,q,g⟩:=g;refine aN (aF ih (gX env)) (d2X dd v op im iv ks p h Q) ?_;delta d4Y d4Z tI wW iI;have m: ∀i (h:i<ks.length),jY ks[i].ks<dd/\nS ks[i].ks/\ks[i].ks.length<=1000000000000000:=fun i l=>by
    have h1:=Fk (AH l);have h2:=Xv (T3 q.2.1 (AH l));refine⟨?_,h2.2,h2.1⟩;generalize ks[i]=t at*
    cases t
    simp only [T.num,T.ks]at*
    omega
   refine aA (by simp only [aP,bG,mV,AL]) ⟨⟨0,?_⟩,fun i _ l=>aB (fun c=>?_) (fun c=>?_)⟩
   ·repeat (refine And.intro JJ ?_)
    exact⟨BE _,trivial⟩
   ·simp only [decide_eq_true_eq]at c;have j:i<ks.length:=JF;refine aA (by simp;omega) (ldT j JH ⟨ks[i].ks,⟨rfl,rfl⟩,m i j,⟨i+1,?_⟩⟩)
    repeat (refine And.intro JJ ?_)
    refine⟨by rw [Si j],?_⟩
    repeat (refine And.intro JJ ?_)
    refine⟨by rw [AF _ JF];rfl,?_⟩
    repeat (refine And.intro JJ ?_)
    exact⟨j,JF⟩
   ·simp only [decide_eq_false_iff_not]at c;rw [AM JF];exact g
  ·exact g.elim
def Om:=aV 266 (fun xs h K=> ∃d,P1 d xs h K) noC
theorem Wt:aO env Om:=aF (fun xs h Q g=>g.elim fun d g=>d0F d xs h Q g) (gX env)
def O4(xs:Y14)(h:Heap)(K:KT):Prop:=match xs with
 | [.int .i64 op]=>K (.tuple [.int .i64 (ar op),.bool (mC op)]) h
 |_=>False
def d5D:=IV.tuple [.int .i64 0,IV.bool true]
def d5E:=IV.tuple [.int .i64 1,IV.bool true]
def d5F:=IV.tuple [.int .i64 2,IV.bool true]
def e0Q:=IV.tuple [.int .i64 (-1),IV.bool true]
def e0R:=IV.tuple [.int .i64 0,IV.bool false]
def e0S:=IV.tuple [.int .i64 3,IV.bool true]
theorem b2F(op:Int)(h:Heap)(Q:KT):dF (aR Om) env 294 cS bK bK [.int .i64 op] h Q=(
 aI (op==1) (Q d5D h) (aI (op==2) (Q d5D h) (aI (op==3) (Q d5D h) (aI (op==26) (Q d5D h) (aI (op==20) (Q d5E h) (aI (op==21) (Q d5E h) (aI (op==24) (Q d5E h) (aI (op==25) (Q d5E h) (aI (op==(23:Int)) (Q d5F h) (aI (op==27) (Q d5F h) (aI (op==29) (Q d5F h) (aI (op==22) (Q e0S h) (aI (op==28) (Q e0S h) (aI (op==30) (Q e0Q h) (aI (op==31) (Q e0Q h) (aI (decide (op>=4)) (aI (decide (op<=19)) (Q d5F h) (Q e0R h)) (Q e0R h))))))))))))))))):=by kernel_rfl
theorem b0Z: ∀xs h Q,O4 xs h Q->aL env 294 xs h Q:=by
 intro xs h Q g;unfold O4 at g;split at g
 ·rename_i op;refine aN (Wt) (b2F op h Q) ?_;delta d5D d5E d5F e0Q e0R e0S
  repeat' (first|refine aA ?_ ?_|refine aB (fun _=>?_) (fun _=>?_)|refine And.intro ?_ ?_)
  all_goals first|assumption|omega| (refine cD g ?_;simp only [IV.agg.injEq,IV.tuple.injEq,IV.int.injEq,IV.bool.injEq,BI,true_and,and_true];grind [ar,mC])
 ·exact g.elim
def K5:=aV 294 O4 Om
theorem Ao:aO env K5:=aF b0Z (Wt)
def A6(xs:Y14)(h:Heap)(K:KT):Prop:=match xs with
 | [.int .i64 op]=>K (.bool (Do op)) h
 |_=>False
theorem a2D(op:Int)(h:Heap)(Q:KT):dF (aR K5) env 317 cS bK bK [.int .i64 op] h Q=(
 aI (op==1) (Q (.bool true) h) (aI (op==23) (Q (.bool true) h) (aI (op==27) (Q (.bool true) h) (Q (.bool (op==28)) h)))):=by kernel_rfl
theorem a1R: ∀xs h Q,A6 xs h Q->aL env 317 xs h Q:=by
 intro xs h Q g;unfold A6 at g;split at g
 ·rename_i op;refine aN (Ao) (a2D op h Q) ?_
  repeat' (first|refine aA ?_ ?_|refine aB (fun _=>?_) (fun _=>?_)|refine And.intro ?_ ?_)
  all_goals first|assumption|omega| (refine cD g ?_;simp only [IV.agg.injEq,IV.tuple.injEq,IV.int.injEq,IV.bool.injEq,BI,true_and,and_true];grind [Do])
 ·exact g.elim
def zT:=aV 317 A6 K5
theorem Q9:aO env zT:=aF a1R (Ao)
def A5(xs:Y14)(h:Heap)(K:KT):Prop:=match xs with
 | [.int .i64 op]=>K (.tuple [.vslice none 0 (pR op).length 1 ((pR op).map (IV.int .i64)),.int .i64 (opS op),.bool (kD op)]) h
 |_=>False
def e0T(op:Int):=[IV.vslice none 0 ((ar op).toNat-0) 1 (List.take (((ar op).toNat-0)*1) [iI 1,iI 1,iI 1]),iI 1,IV.bool true]
def d6F:=IV.tuple [.vslice none 0 0 1 [],iI 0,IV.bool false]
def e0U:=IV.tuple [.vslice none 0 2 1 [iI 2,iI 1],iI 2,IV.bool true]
theorem a2C(op:Int)(h:Heap)(Q:KT):dF (aR zT) env 302 cS bK bK [.int .i64 op] h Q=(
 aI (op==1) (Q (.tuple [.vslice none 0 0 1 [],iI 1,IV.bool true]) h) (aI (op==23) (Q (.tuple [.vslice none 0 2 1 [iI 2,iI 1],iI 1,IV.bool true]) h) (aI (op==24) (Q (.tuple [.vslice none 0 1 1 [iI 2],iI 1,IV.bool true]) h) (aI (op==27) (Q e0U h) (aI (op==29) (Q e0U h) (aI (op==28) (Q (.tuple [.vslice none 0 3 1 [iI 2,iI 1,iI 1],iI 2,IV.bool true]) h) (aI (!mC op) (Q d6F h) (aI (decide (op<4)) (Q d6F h) (aI (decide (op>22)) (Q d6F h) (aC (true&& (decide (0<=ar op) &&decide (ar op<=3))) (aC (aP (e0T op)) (Q (.tuple (e0T op)) h)))))))))))):=by kernel_rfl
theorem a1Q: ∀xs h Q,A5 xs h Q->aL env 302 xs h Q:=by
 intro xs h Q g;unfold A5 at g;split at g
 ·rename_i op;refine aN (Q9) (a2C op h Q) ?_;delta e0T d6F e0U iI;have fin: ∀(ks:Y12)(s:Int)(b:Bool),ks=pR op->s=opS op->b=kD op->Q (.tuple [.vslice none 0 ks.length 1 (ks.map (IV.int .i64)),.int .i64 s,.bool b]) h:=by
   rintro _ _ _ rfl rfl rfl;exact g
  have j:kD op=false->Q (.tuple [.vslice none 0 0 1 [],.int .i64 0,.bool false]) h:=fun e=>fin [] 0 false (b0B e).1.symm (b0B e).2.symm e.symm
  have l: ∀a b,(4:Int)<=op->op<=22->a=ar op->b=a.toNat->b<=3/\([1,1,1]:Y12).take b=pR op/\1=opS op/\true=kD op:=by
   rintro a b h1 h2 rfl rfl;have hd:op=4\/op=5\/op=6\/op=7\/op=8\/op=9\/op=10\/op=11\/op=12\/op=13\/op=14\/op=15\/op=16\/op=17\/op=18\/op=19\/op=20\/op=21\/op=22:=JF;rcases hd with rfl|rfl|rfl|rfl|rfl|rfl|rfl|rfl|rfl|rfl|rfl|rfl|rfl|rfl|rfl|rfl|rfl|rfl|rfl<;>decide
  repeat' (first|refine aA ?_ ?_|refine aB (fun _=>?_) (fun _=>?_))
  all_goals simp only [beq_iff_eq,decide_eq_true_eq,decide_eq_false_iff_not,beq_eq_false_iff_ne,CC,BO]at*
  all_goals first
   | (subst_vars;exact fin [] 1 true rfl rfl rfl)
   | (subst_vars;exact fin [2,1] 1 true rfl rfl rfl)
   | (subst_vars;exact fin [2] 1 true rfl rfl rfl)
   | (subst_vars;exact fin [2,1] 2 true rfl rfl rfl)
   | (subst_vars;exact fin [2,1,1] 2 true rfl rfl rfl)
   |skip
  ·refine j ?_;simp only [mC,kD,decide_eq_false_iff_not]at*
   omega
  ·refine j ?_;simp only [mC,kD,decide_eq_true_eq,decide_eq_false_iff_not]at*
   omega
  ·refine j ?_;simp only [mC,kD,decide_eq_true_eq,decide_eq_false_iff_not]at*
   omega
  all_goals
   have hd:op=4\/op=5\/op=6\/op=7\/op=8\/op=9\/op=10\/op=11\/op=12\/op=13\/op=14\/op=15\/op=16\/op=17\/op=18\/op=19\/op=20\/op=21\/op=22:=JF;clear g l j;rcases hd with rfl|rfl|rfl|rfl|rfl|rfl|rfl|rfl|rfl|rfl|rfl|rfl|rfl|rfl|rfl|rfl|rfl|rfl|rfl
   all_goals first|rfl|exact fin [1,1] 1 true rfl rfl rfl|exact fin [1] 1 true rfl rfl rfl|exact fin [1,1,1] 1 true rfl rfl rfl
 ·exact g.elim
def zS:=aV 302 A5 zT
theorem Q8:aO env zS:=aF a1Q (Q9)
def Qv(xs:Y14)(h:Heap)(K:KT):Prop:=match xs with
 | [.agg [.int .i64 v,.int .i64 op,.int .i64 im,.int .i64 iv,.vslice none e1 n1 5 c1],.int .i64 imms]=> ∃ks:List T,(n1=ks.length/\c1=cQ ks)/\K (.bool (vIm op im iv imms)) h
 |_=>False
theorem d3C(v op im iv imms:Int)(ks:List T)(g:Nat)(h:Heap)(Q:KT):dF (aR zS) env 303 cS bK bK [.agg [.int .i64 v,.int .i64 op,.int .i64 im,.int .i64 iv,.vslice none g (ks).length 5 (cQ ks)],.int .i64 imms] h Q=(
 aC (aP [IV.agg [.int .i64 v,iI op,iI im,iI iv,IV.vslice none 0 ks.length 5 (cQ ks)],iI imms]) (aI (iv !=0) (aI (Do op) (aI (im==0) (aI (decide (iv>=1)) (Q (.bool (decide (iv<=imms))) h) (Q (.bool false) h)) (Q (.bool false) h)) (Q (.bool false) h)) (aI (op==23) (aI (decide (im>=0)) (Q (.bool (decide (im<4))) h) (Q (.bool false) h)) (aI (op==28) (aI (decide (im>=0)) (Q (.bool (decide (im<4))) h) (Q (.bool false) h)) (aI (op==27) (aI (decide (im>=1)) (Q (.bool (decide (im<=1000016))) h) (Q (.bool false) h)) (aI (op==1) (Q (.bool true) h) (Q (.bool (im==0)) h))))))):=by kernel_rfl
theorem d1L: ∀xs h Q,Qv xs h Q->aL env 303 xs h Q:=by
 intro xs h Q g;unfold Qv at g;split at g
 ·rename_i v op im iv j l c1 imms;obtain⟨ks,⟨rfl,rfl⟩,g⟩:=g;refine aN (Q8) (d3C v op im iv imms ks j h Q) ?_;delta iI;refine aA (by simp only [aP,bG,mV,AL]) ?_
  repeat' refine aB (fun _=>?_) (fun _=>?_)
  all_goals
   refine cD g ?_;simp only [IV.bool.injEq,vIm,Do,beq_iff_eq,bne_iff_ne,decide_eq_true_eq,decide_eq_false_iff_not,beq_eq_false_iff_ne,bne_eq_false_iff_eq,CC,BO,ge_iff_le,Bool.decide_eq_true]at*
   first
   |omega
   | (rw [decide_eq_true_eq];omega)
   | (rw [decide_eq_false_iff_not];omega)
   | (rw [decide_eq_decide];omega)
   | (rw [Bool.beq_eq_decide_eq,decide_eq_decide];omega)
 ·exact g.elim
def Ov:=aV 303 Qv zS
theorem Wy:aO env Ov:=aF d1L (Q8)
def c2Q(v op im iv s imms:Int)(ks:List T)(j:Y10)(g id:Nat)(vs:Y12)(h:Heap):Inv':=atP (v=0/\rF op im iv ks.length s imms) [(2,.v (.int .i64 imms)),(3,.v (.hslice id 0 vs.length 1)),(4,.l 4 0),(10,.v (.vslice none 0 (pR op).length 1 ((pR op).map (IV.int .i64))))] [(4,[.int .i64 v,.int .i64 op,.int .i64 im,.int .i64 iv,.vslice j g ks.length 5 (cQ ks)])] h
def c2R(v op im iv s imms:Int)(ks:List T)(j:Y10)(g id:Nat)(vs:Y12):Inv':=eA (Nat×Y12×Heap) (fun x=>[(2,.v (.int .i64 imms)),(3,.v (.hslice id 0 vs.length 1)),(10,.v (.vslice none 0 (pR op).length 1 ((pR op).map (IV.int .i64)))),(103,.v (.vslice j g ks.length 5 (cQ ks))),(104,.v (.int .i64 ks.length)),(105,.v (.int .i64 x.1))]) (fun _=>[]) (fun x=>x.2.2)
 (fun x=>x.1<=ks.length/\x.2.1.length=vs.length/\x.2.2.get id= .cells (x.2.1.map (IV.int .i64))/\lY (ks.drop x.1) ((pR op).drop x.1) imms x.2.1=kH (.mk v op im iv ks) s imms vs/\ks.length=(pR op).length) (fun x=>ks.length-x.1)
def P2(d:Nat)(xs:Y14)(h:Heap)(K:KT):Prop:=match xs with
 | [.agg [.int .i64 v,.int .i64 op,.int .i64 im,.int .i64 iv,.vslice io e1 n1 5 c1],.int .i64 s,.int .i64 imms,.hslice id 0 n 1]=> ∃(ks:List T)(vs:Y12),(n1=ks.length/\c1=cQ ks)/\(n=vs.length/\h.get id= .cells (vs.map (IV.int .i64)))/\(jY ks<d/\nS ks/\ks.length<=1000000000000000/\vs.length<=1000)/\
  ∀h2:Heap,h2.get id= .cells ((kH (.mk v op im iv ks) s imms vs).2.map (IV.int .i64))->K (.bool (kH (.mk v op im iv ks) s imms vs).1) h2
 |_=>False
def c6I:=IV.int .i64
def c6M(op:Int):=TV.v (.vslice none 0 ((pR op).length) 1 (List.map c6I (pR op)))
def c7S(id:Nat)(vs:Y12):=TV.v (.hslice id 0 vs.length 1)
def b8T:=IV.bool false
def e0O(v op im iv s imms:Int)(ks:List T)(m:Y10)(j id:Nat)(vs:Y12)(h:Heap)(Q:KT):=(∃(g:List T),(ks.length=g.length/\cQ ks=cQ g)/\aI (!vIm op im iv imms) (Q b8T h) (tI imms=tI imms/\some (c7S id vs)=some (c7S id vs)/\some (TV.l 4 0)=some (TV.l 4 0)/\some (c6M op)=some (c6M op)/\some [iI v,iI op,iI im,iI iv,IV.vslice m j ks.length 5
 (cQ ks)]=some [iI v,iI op,iI im,iI iv,IV.vslice m j ks.length 5 (cQ ks)]/\h=h/\(v=0/\rF op im iv ks.length s imms)/\True))
def d5A(ks:List T):=TV.v (.int .i64 (ks.length:Int))
def e0P(v:Int)(vs:Y12):=decide (0<=wW (v-1)) &&decide (wW (v-1)< (vs.length:Int))
def d5B(v:Int):=wW (v-1)
def d5C(ks:List T)(j:Y10)(g:Nat):=TV.v (.vslice j g ks.length 5 (cQ ks))
theorem d3D(y:Nat)(v op im iv:Int)(ks:List T)(p:Y10)(m:Nat)(s imms:Int)(id:Nat)(vs:Y12)(h:Heap)(Q:KT):dF (aR (aV 267 (P2 y) Ov)) env 267 cS (oE 15 (c2R v op im iv s imms ks p m id vs)) (icS (oE 14 (c2Q v op im iv s imms ks p m id vs h))) [.agg [.int .i64 v,.int .i64 op,.int .i64 im,.int .i64 iv,.vslice p m ks.length 5 (cQ ks)],.int .i64 s,.int .i64 imms,.hslice id 0 vs.length 1] h Q=(
 aI (v !=0) (aI (decide (v<1)) (Q b8T h) (aI (decide (v>(vs.length:Int))) (Q b8T h) (aI (op !=0) (Q b8T h) (aI (im !=0) (Q b8T h) (aI (iv !=0) (Q b8T h) (aI (decide ((ks.length:Int)>0)) (Q b8T h) (aC (e0P v vs) (aJ h id fun r0=>aG .i64 r0 ((0:Nat)+(d5B v).toNat*1) fun z=>aI (z==0) (aC (e0P v vs) (aJ h id fun r2=>aC (Nat.ble ((0:Nat)+(d5B v).toNat*1+1) r2.length) (Q (.bool true) (h.set id (IObj.cells (List.take ((0:Nat)+(d5B v).toNat*1) r2++ [iI s]++List.drop ((0:Nat)+(d5B v).toNat*1+1) r2)))))) (aI (s !=0) (aI (s !=z) (Q b8T h) (Q (.bool true) h)) (Q (.bool true) h)))))))))) (aI (!kD op) (Q b8T h) (aI ((ks.length:Int) !=(↑((pR op).length):Int)) (Q b8T h) (aI (s !=0) (aI (s !=opS op) (Q b8T h) (e0O v op im iv s imms ks p m id vs h Q)) (e0O v op im iv s imms ks p m id vs h Q))))/\(∀(x:Unit)(b:FF),v=0/\rF op im iv ks.length s imms->(∃(x:Nat×Y12×Heap),tI imms=tI imms/\some (c7S id vs)=some (c7S id vs)/\some (c6M op)=some (c6M op)/\some (d5C ks p m)=some (d5C ks p m)/\some (d5A ks)=some (d5A ks)/\tI 0=tI (x.1:Int)/\h=x.2.2/\(x.1<=ks.length/\x.2.1.length=vs.length/\Heap.get x.2.2 id=IObj.cells (List.map c6I ((x.2).1))/\lY (List.drop x.1 ks) (List.drop x.1 (pR op)) imms x.2.1=kH (T.mk v op im iv ks) s imms vs/\ks.length=(pR op).length)/\True)/\∀(x:Nat×Y12×Heap)(b:FF),x.1<=ks.length/\x.2.1.length=vs.length/\Heap.get x.2.2 id=IObj.cells (List.map c6I x.2.1)/\lY (List.drop x.1 ks) (List.drop x.1 (pR op)) imms x.2.1=kH (T.mk v op im iv ks) s imms vs/\ks.length=(pR op).length->aI (decide (((x.1):Int)< (ks.length:Int))) (aC (decide (0<=(x.1:Int)) &&decide ((x.1:Int)< (ks.length:Int))) (aG .i64 (cQ ks) ((x.1:Int).toNat*5) fun A=>aG .i64 (cQ ks) ((x.1:Int).toNat*(5:Nat)+1) fun D=>aG .i64 (cQ ks) ((x.1:Int).toNat*5+1+1) fun G=>aG .i64 (cQ ks) ((x.1:Int).toNat*5+1+1+1) fun K=>aZ 5 (cQ ks) ((x.1:Int).toNat*5+1+1+1+1) fun(R:Y10)(O L:Nat)(r:Y14)=>aC (decide (0<=(x.1:Int)) &&decide ((x.1:Int)< (↑((pR op).length):Int))) (aG .i64 (List.map c6I (pR op)) ((x.1:Int).toNat*1) fun q=> ∃(g:List T)(l:Y12),(L=g.length/\r=cQ g)/\(vs.length=l.length/\Heap.get x.2.2 id=IObj.cells (List.map c6I l))/\(jY g<y/\nS g/\List.length g<=1000000000000000/\l.length<=1000)/\∀(h2:Heap),h2.get id=IObj.cells (List.map c6I ((kH (T.mk A D G K g) q imms l).2))->aI (!Prod.fst (kH (T.mk A D G K g) q imms l)) (Q b8T h2) (∃(j:Nat×Y12×Heap),some (TV.v (iI imms))=tI imms/\some (c7S id vs)=some (c7S id vs)/\some (c6M op)=some (c6M op)/\some (d5C ks p m)=some (d5C ks p m)/\some (d5A ks)=some (d5A ks)/\tI (wW (((x.1):Int)+1))=tI (j.1:Int)/\h2=j.2.2/\(j.1<=ks.length/\j.2.1.length=vs.length/\Heap.get j.2.2 id=IObj.cells (List.map c6I j.2.1)/\lY (List.drop j.1 ks) (List.drop j.1 (pR op)) imms j.2.1=kH (T.mk v op im iv ks) s imms vs/\ks.length=(pR op).length)/\ks.length-j.1<ks.length-x.1)))) (Q (.bool true) x.2.2))/\True):=by kernel_rfl
theorem d0G: ∀d xs h Q,P2 d xs h Q->aL env 267 xs h Q:=by
 intro d
 induction d with
 |zero=>
  intro xs h Q m;unfold P2 at m;split at m
  ·rename_i v op im iv io e1 n1 c1 s imms id n;obtain⟨ks,vs,⟨rfl,rfl⟩,⟨rfl,q⟩,hb,m⟩:=m
   skip
   omega
  ·exact m.elim
 |succ dd ih=>
  intro xs h Q m;unfold P2 at m;split at m
  ·rename_i v op im iv io e1 n1 c1 s imms id n;obtain⟨ks,vs,⟨rfl,rfl⟩,⟨rfl,q⟩,hb,m⟩:=m;refine aN (aF ih (Wy)) (d3D dd v op im iv ks io e1 s imms id vs h Q) ?_;delta e0O c6M d5A e0P c7S b8T d5B d5C c6I tI wW iI;have fin: ∀(b:Bool)(G:Y12)(g:Heap),kH (.mk v op im iv ks) s imms vs=(b,G)->g.get id= .cells (G.map (IV.int .i64))->Q (.bool b) g:=by
    intro b G g e1 e2;rw [e1]at m;exact m g e2
   have a1: ∀i (h:i<ks.length),jY ks[i].ks<dd/\nS ks[i].ks/\ks[i].ks.length<=1000000000000000:=fun i hi=>by
    have h1:=Fk (AH hi);have h2:=Xv (T3 hb.2.1 (AH hi));refine⟨?_,h2.2,h2.1⟩;generalize ks[i]=t at*
    cases t
    simp only [T.num,T.ks]at*
    omega
   have bad:v≠0->mY v op im iv ks.length vs.length->Q (.bool false) h:=fun h1 h2=>fin false vs h (Kw h1 h2) q
   have X:v=0-> ¬rF op im iv ks.length s imms->Q (.bool false) h:=fun h1 h2=>fin false vs h (Xz h1 h2) q
   have a0: ∀t:T,T.mk t.v t.op t.im t.iv t.ks=t:=fun t=>by cases t;rfl
   refine⟨aB (fun j=>?_) (fun j=>?_),?_,trivial⟩
   ·have j:v≠0:=bne_iff_ne.1 j;refine aB (fun c=>bad j (.inl (of_decide_eq_true c))) (fun c1=>aB (fun c=>bad j (.inr (.inl (of_decide_eq_true c)))) (fun c2=>aB (fun c=>bad j (.inr (.inr (.inl (bne_iff_ne.1 c))))) (fun K=>
     aB (fun c=>bad j (.inr (.inr (.inr (.inl (bne_iff_ne.1 c)))))) (fun Z=>aB (fun c=>bad j (.inr (.inr (.inr (.inr (.inl (bne_iff_ne.1 c))))))) (fun L=>aB (fun c=>bad j (.inr (.inr (.inr (.inr (.inr (by simpa using c))))))) (fun c6=>?_))))))
    have nb: ¬mY v op im iv ks.length vs.length:=by
     simp only [decide_eq_false_iff_not,bne_eq_false_iff_eq]at c1 c2 K Z L c6;unfold mY
     omega
    have hr:1<=v/\v<=vs.length:=by unfold mY at nb;omega
    have hw:IntKind.i64.wrap (v-1)=v-1:=AF _ JF;have l:(v-1).toNat<vs.length:=JF;have z:vs.getD (v-1).toNat 0=vs[(v-1).toNat]:=by rw [AC,AA l];rfl
    rw [hw];simp only [AX,AO];refine aA (by simp;omega) (aD q (bT l (aB (fun c=>aA (by simp;omega) (aD q (aA (by rw [AS,BG];omega) ?_))) (fun c=>?_))))
    ·refine fin true (vs.set (v-1).toNat s) _ (b2L j nb (by rw [z];simpa using c)) ?_;refine(aK (h:=h)).trans ?_;rw [DF,if_pos l];simp [HI,FL]
    ·have a2:vs.getD (v-1).toNat 0≠0:=by rw [z];simpa using c
     have ho:=b2M (s:=s) (imms:=imms) j nb a2;rw [z]at ho;refine aB (fun d1=>aB (fun d2=>fin false vs h ?_ q) (fun d2=>fin true vs h ?_ q)) (fun d1=>fin true vs h ?_ q)
     all_goals
      rw [ho]
      congr 1
      simp at d1
     ·simp at d2;simp;omega
     ·simp at d2;simp;omega
     ·simp;omega
   ·have j:v=0:=by simpa using j
    refine aB (fun c=>X j (fun p=>by simp [p.1]at c)) (fun c1=>aB (fun c=>X j (fun p=>?_)) (fun c2=>aB (fun K=>aB (fun c=>X j (fun p=>?_)) (fun Z=>⟨ks,⟨rfl,rfl⟩,aB (fun c=>X j (fun p=>?_)) (fun L=>?_)⟩)) (fun K=>⟨ks,⟨rfl,rfl⟩,aB (fun c=>X j (fun p=>?_)) (fun L=>?_)⟩)))
    ·simp [p.2.1]at c
    ·have:=p.2.2.1;simp at c K;omega
    ·simp [p.2.2.2]at c
    ·repeat (refine And.intro JJ ?_)
     refine⟨⟨j,by simpa using c1,?_,?_,by simpa using L⟩,trivial⟩
     ·simp at c2;omega
     ·simp at Z;exact .inr Z
    ·simp [p.2.2.2]at c
    ·repeat (refine And.intro JJ ?_)
     refine⟨⟨j,by simpa using c1,?_,?_,by simpa using L⟩,trivial⟩
     ·simp at c2;omega
     ·simp at K;exact .inl K
   ·rintro _ _ ⟨j,p⟩;refine⟨⟨(0,vs,h),?_⟩,?_⟩
    ·repeat (refine And.intro JJ ?_)
     refine⟨⟨BE _,rfl,q,?_,p.2.1⟩,trivial⟩;rw [Bl j p];rfl
    ·rintro⟨i,ws,g⟩ _ ⟨hi,V,A,D,hl⟩;simp only at hi V A D hl⊢;refine aB (fun c=>?_) (fun c=>?_)
     ·rw [decide_eq_true_eq]at c;have l:i<ks.length:=JF;have R:i< (pR op).length:=JF;simp only [AK];refine aA (by simp;omega) (ldT l rfl (aA (by simp;omega) ?_));rw [AO];obtain⟨k1,k2,k3⟩:=a1 i l;refine bT R ⟨ks[i].ks,ws,⟨rfl,rfl⟩,⟨V.symm,A⟩,⟨k1,k2,k3,JF⟩,fun h2 y=>?_⟩;rw [a0]at y⊢;rw [Sr l R]at D;have O:=T6 ks[i] (pR op)[i] imms ws;generalize kH ks[i] (pR op)[i] imms ws=r at*
      obtain⟨b,Y⟩:=r
      cases b with
      |false=>exact fin false Y h2 D.symm y
      |true=>
       refine aB (fun c=>by cases c) (fun _=>⟨(i+1,Y,h2),?_⟩);simp only at D O y⊢
       repeat (refine And.intro JJ ?_)
       refine⟨by rw [AF _ JF];rfl,?_⟩
       repeat (refine And.intro JJ ?_)
       exact⟨⟨l,JF,y,D,hl⟩,JF⟩
     ·rw [decide_eq_false_iff_not]at c;rw [a2F JF]at D;exact fin true ws g D.symm A
  ·exact m.elim
def Ox:=aV 267 (fun xs h K=> ∃d,P2 d xs h K) Ov
theorem Xa:aO env Ox:=aF (fun xs h Q g=>g.elim fun d g=>d0G d xs h Q g) (Wy)
def Fb(xs:Y14)(h:Heap)(K:KT):Prop:=match xs with
 | [.agg [.int .i64 v,.int .i64 op,.int .i64 im,.int .i64 iv,.vslice none e1 n1 5 c1],.int .i64 vars,.int .i64 imms]=> ∃ks:List T,(n1=ks.length/\c1=cQ ks)/\(nS ks/\ks.length<=1000000000000000)/\K (.bool (Kv (.mk v op im iv ks) vars imms)) h
 |_=>False
theorem c2P(v op im iv g imms:Int)(ks:List T)(m:Nat)(h:Heap)(Q:KT):dF (aR Ox) env 206 cS bK bK [.agg [.int .i64 v,.int .i64 op,.int .i64 im,.int .i64 iv,.vslice none m (ks).length 5 (cQ ks)],.int .i64 g,.int .i64 imms] h Q=(
 aC (aP [IV.agg [.int .i64 v,iI op,iI im,iI iv,IV.vslice none 0 ks.length 5 (cQ ks)],iI g,iI imms]) (aI (decide (g<0)) (Q (.bool false) h) (aI (decide (g>6)) (Q (.bool false) h) (aI (decide (imms<0)) (Q (.bool false) h) (aI (decide (imms>6)) (Q (.bool false) h) (∃(d:Nat)(l:List T),(ks.length=l.length/\cQ ks=cQ l)/\(jY l<d/\nS l/\l.length<=1000000000000000)/\aI (decide (kF 1 l>24)) (Q (.bool false) h) (aC (decide (0<=g) && (decide (g<=g) && (decide (g<=9223372036854775807) &&decide ((8:Int)*g<=140737488355328)))) (∃(d:Nat)(j:List T)(vs:Y12),(ks.length=j.length/\cQ ks=cQ j)/\(g.toNat=vs.length/\IObj.cells (dY g.toNat [iI 0])=IObj.cells (List.map (IV.int .i64) vs))/\(jY j<d/\nS j/\j.length<=1000000000000000/\vs.length<=1000)/\∀(h2:Heap),h2.get 0=IObj.cells (List.map (IV.int .i64) ((kH (T.mk v op im iv j) 0 imms vs).2))->Q (.bool ((kH (T.mk v op im iv j) 0 imms vs).1)) h)))))))):=by kernel_rfl
theorem c1J: ∀xs h Q,Fb xs h Q->aL env 206 xs h Q:=by
 intro xs h Q l;unfold Fb at l;split at l
 ·rename_i v op im iv q G c1 g imms;obtain⟨ks,⟨rfl,rfl⟩,A,l⟩:=l;refine aN (Xa) (c2P v op im iv g imms ks q h Q) ?_;delta iI;obtain⟨h1,h2⟩:=A;have j: ∀b,(0<=g/\g<=6/\0<=imms/\imms<=6->b=(decide ((T.mk v op im iv ks).size<=24) && (kH (.mk v op im iv ks) 0 imms (List.replicate g.toNat 0)).1))->(¬ (0<=g/\g<=6/\0<=imms/\imms<=6)->b=false)->Q (.bool b) h:=by
   intro b q z;have e:b=Kv (.mk v op im iv ks) g imms:=by
    unfold Kv
    by_cases c:0<=g/\g<=6/\0<=imms/\imms<=6
    ·rw [q c,decide_eq_true c,BC]
    ·rw [z c,decide_eq_false c,BM]
   rw [e];exact l
  have m:(T.mk v op im iv ks).size=kF 1 ks:=rfl;have p: ¬ (0<=g/\g<=6/\0<=imms/\imms<=6)->Q (.bool false) h:=fun c=>j false (fun e=>absurd e c) (fun _=>rfl)
  refine aA (by simp only [aP,bG,mV,AL]) (aB (fun c=>p (by rw [decide_eq_true_eq]at c;omega)) (fun c1=>aB (fun c=>p (by rw [decide_eq_true_eq]at c;omega)) (fun c2=>aB (fun c=>p (by rw [decide_eq_true_eq]at c;omega)) (fun r=>aB (fun c=>p (by rw [decide_eq_true_eq]at c;omega)) (fun y=>?_)))));rw [decide_eq_false_iff_not]at c1 c2 r y;have D:0<=g/\g<=6/\0<=imms/\imms<=6:=JF;refine⟨jY ks+1,ks,⟨rfl,rfl⟩,⟨AV _,h1,h2⟩,aB (fun c=>j false (fun _=>?_) (fun _=>rfl)) (fun c=>aA (by simp;omega) ⟨jY ks+1,ks,List.replicate g.toNat 0,⟨rfl,rfl⟩,⟨JH,by rw [mW]⟩,⟨AV _,h1,h2,by simp;omega⟩,fun h3 _=>j _ (fun _=>?_) (fun e=>absurd D e)⟩)⟩
  ·rw [m,decide_eq_false (by rw [decide_eq_true_eq]at c;omega),BM]
  ·rw [m,decide_eq_true (by rw [decide_eq_false_iff_not]at c;omega),BC]
 ·exact l.elim
def Dc:=aV 206 Fb Ox
theorem Jv:aO env Dc:=aF c1J (Xa)
def I5(xs:Y14)(h:Heap)(K:KT):Prop:=match xs with
 | [.nilslice,.int .u64 n]=> ∀(i:Nat)(h2:Heap),h2.get i= .tip 8->K (.vslice (some i) 8 8 1 (((b8 n).map (IV.int .u8)))) h2
 |_=>False
def Yf(h:Heap):=(h.push (IObj.tip 1)).set (h.next) (IObj.tip 2)
def Lc(h:Heap):=((Yf h).set (h.next) (IObj.tip 3)).set (h.next) (IObj.tip 4)
def Ld(h:Heap):=((Lc h).set (h.next) (IObj.tip 5)).set (h.next) (IObj.tip 6)
theorem c1X(n:Int)(h:Heap)(Q:KT):dF (aR Dc) env 270 (fun k=>if k=3 then 9 else 0) bK bK [.nilslice,.int .u64 n] h Q=(
 cF (h.push (IObj.tip 1)) (h.next) fun(g:Nat)=>aC (Nat.beq g 1 &&true) (cF (Yf h) (h.next) fun(j:Nat)=>aC (Nat.beq j 2 &&true) (cF ((Yf h).set (h.next) (IObj.tip 3)) (h.next) fun(l:Nat)=>aC (Nat.beq l 3 &&true) (cF (Lc h) (h.next) fun(m:Nat)=>aC (Nat.beq m 4 &&true) (cF ((Lc h).set (h.next) (IObj.tip 5)) (h.next) fun(p:Nat)=>aC (Nat.beq p 5 &&true) (cF (Ld h) (h.next) fun(q:Nat)=>aC (Nat.beq q 6 &&true) (cF ((Ld h).set (h.next) (IObj.tip 7)) (h.next) fun(r:Nat)=>aC (Nat.beq r 7 &&true) (Q (.vslice (some (h.next)) 8 8 1 [IV.int .u8 (IntKind.wrap .u8 (Int.fdiv n 1)),IV.int .u8 (IntKind.wrap .u8 (Int.fdiv n 256)),IV.int .u8 (IntKind.wrap .u8 (Int.fdiv n 65536)),IV.int .u8 (IntKind.wrap .u8 (Int.fdiv n 16777216)),IV.int .u8 (IntKind.wrap .u8 (Int.fdiv n 4294967296)),IV.int .u8 (IntKind.wrap .u8 (Int.fdiv n 1099511627776)),IV.int .u8 (IntKind.wrap .u8 (Int.fdiv n 281474976710656)),IV.int .u8 (IntKind.wrap .u8 (Int.fdiv n 72057594037927936))]) (((Ld h).set (h.next) (IObj.tip 7)).set (h.next) (IObj.tip 8)))))))))):=by kernel_rfl
theorem Xh: ∀xs h Q,I5 xs h Q->aL env 270 xs h Q:=by
 intro xs h Q g;unfold I5 at g;split at g
 ·rename_i n;refine aN (Jv) (c1X n h Q) ?_;delta Lc Ld Yf
  repeat (first
   |refine aS aT (aA rfl ?_)
   |refine aS aK (aA rfl ?_))
  exact g _ _ aK
 ·exact g.elim
def Cf:=aV 270 I5 Dc
theorem Jd:aO env Cf:=aF Xh (Jv)
def I6(xs:Y14)(h:Heap)(K:KT):Prop:=match xs with
 | [.vslice (some id) e len 1 cs,.int .u64 n]=>h.get id= .tip e/\len<=100000000000/\∀h2:Heap,h2.get id= .tip (e+8)->K (.vslice (some id) (e+8) (len+8) 1 (cs++((b8 n).map (IV.int .u8)))) h2
 |_=>False
def c9O(id e:Nat)(h:Heap):=(h.set id (IObj.tip (e+1))).set id (IObj.tip (e+1+1))
def c9Z(e:Nat):=e+1+1+1
def c8E(id e:Nat)(h:Heap):=(((c9O id e h).set id (IObj.tip (c9Z e))).set id (IObj.tip (e+1+1+1+1))).set id (IObj.tip (e+1+1+1+1+1))
def c9L(e:Nat):=e+1+1+1+1+1+1
def d5K(e:Nat):=e+1+1+1+1+1+1+1
def e0K(e:Nat):=e+1+1+1+1+1+1+1+1
def e0L(len:Nat):=len+1+1+1+1+1+1+1+1
theorem c1Y(id e len:Nat)(cs:Y14)(n:Int)(h:Heap)(Q:KT):dF (aR Cf) env 270 (fun k=>if k=3 then 9 else 0) bK bK [.vslice (some id) e len 1 cs,.int .u64 n] h Q=(
 cF h id fun(g:Nat)=>aC (Nat.beq g e&&Nat.ble ((len+1)*1) 140737488355328) (cF (h.set id (IObj.tip (e+1))) id fun(j:Nat)=>aC (Nat.beq j (e+1) &&Nat.ble ((len+1+1)*1) 140737488355328) (cF (c9O id e h) id fun(l:Nat)=>aC (Nat.beq l (e+1+1) &&Nat.ble ((len+1+1+1)*1) 140737488355328) (cF ((c9O id e h).set id (IObj.tip (c9Z e))) id fun(m:Nat)=>aC (Nat.beq m (c9Z e) &&Nat.ble ((len+(1:Nat)+1+1+1)*1) 140737488355328) (cF (((c9O id e h).set id (IObj.tip (c9Z e))).set id (IObj.tip (e+1+1+1+1))) id fun(p:Nat)=>aC (Nat.beq p (e+1+1+1+1) &&Nat.ble ((len+1+1+1+1+1)*1) 140737488355328) (cF (c8E id e h) id fun(q:Nat)=>aC (Nat.beq q (e+1+1+1+1+1) &&Nat.ble ((len+1+1+1+1+(1:Nat)+1)*1) 140737488355328) (cF ((c8E id e h).set id (IObj.tip (c9L e))) id fun(r:Nat)=>aC (Nat.beq r (c9L e) &&Nat.ble ((len+1+1+1+1+1+1+1)*1) 140737488355328) (cF (((c8E id e h).set id (IObj.tip (c9L e))).set id (IObj.tip (d5K e))) id fun(y:Nat)=>aC (Nat.beq y (d5K e) &&Nat.ble ((e0L len)*1) 140737488355328) (Q (.vslice (some id) (e0K e) (e0L len) 1 (cs++ [IV.int .u8 (IntKind.wrap .u8 (Int.fdiv n 1))]++ [IV.int .u8 (IntKind.wrap .u8 (Int.fdiv n 256))]++ [IV.int .u8 (IntKind.wrap .u8 (Int.fdiv n 65536))]++ [IV.int .u8 (IntKind.wrap .u8 (Int.fdiv n 16777216))]++ [IV.int .u8 (IntKind.wrap .u8 (Int.fdiv n 4294967296))]++ [IV.int .u8 (IntKind.wrap .u8 (Int.fdiv n 1099511627776))]++ [IV.int .u8 (IntKind.wrap .u8 (Int.fdiv n 281474976710656))]++ [IV.int .u8 (IntKind.wrap .u8 (Int.fdiv n 72057594037927936))])) ((((c8E id e h).set id (IObj.tip (c9L e))).set id (IObj.tip (d5K e))).set id (IObj.tip (e0K e)))))))))))):=by kernel_rfl
theorem Xi: ∀xs h Q,I6 xs h Q->aL env 270 xs h Q:=by
 intro xs h Q g;unfold I6 at g;split at g
 ·rename_i id e len cs n;refine aN (Jd) (c1Y id e len cs n h Q) ?_;delta c8E c9L d5K c9O e0K e0L c9Z;obtain⟨j,l,g⟩:=g;refine aS j (aA (by simp only [AO,AD,bL,AS,true_and];omega) ?_)
  repeat (refine aS aK (aA (by simp only [AO,AD,bL,AS,true_and];omega) ?_))
  refine cD (g _ ?_) ?_
  ·exact aK
  ·simp [b8]
 ·exact g.elim
def Ua:=aV 270 I6 Cf
theorem a8R:aO env Ua:=aF Xi (Jd)
def Pq(xs:Y14)(h:Heap)(K:KT):Prop:=match xs with
 | [s,.int .u64 n]=>match s with| .nilslice=>I5 [.nilslice,.int .u64 n] h K| .vslice io e len z cs=>I6 [.vslice io e len z cs,.int .u64 n] h K|_=>False
 |_=>False
theorem d0K: ∀xs h Q,Pq xs h Q->aL env 270 xs h Q:=by
 intro xs h Q g;unfold Pq at g;split at g
 ·rename_i s n;split at g
  ·exact Xh _ _ _ g
  ·exact Xi _ _ _ g
  ·exact g.elim
 ·exact g.elim
def Ns:=aV 270 Pq Ua
theorem Vy:aO env Ns:=aF d0K (a8R)
def a7Z(op im:Int)(ks:Y12):Inv':=eA (Nat×Nat×Heap×Y14) (fun x=>[(3,.v (.vslice (some x.2.1) (16+8*x.1) (16+8*x.1) 1 x.2.2.2)),(15,.v (.vslice none 0 ks.length 1 (ks.map (IV.int .i64)))),(16,.v (.int .i64 ks.length)),(17,.v (.int .i64 x.1))]) (fun _=>[]) (fun x=>x.2.2.1)
 (fun x=>x.1<=ks.length/\x.2.2.1.get x.2.1= .tip (16+8*x.1)/\N7 ⟨op,im,ks.take x.1⟩ x.2.2.2) (fun x=>ks.length-x.1)
def a6Z(xs:Y14)(h:Heap)(K:KT):Prop:=match xs with
 | [.agg [.int .i64 op,.int .i64 im,.vslice none e1 n1 1 c1]]=> ∃ks:Y12,(n1=ks.length/\c1=ks.map (IV.int .i64))/\ks.length<=1000000000/\∀s:Y11,oX ⟨op,im,ks⟩ s->K (.str s) h
 |_=>False
def d4O(ks:Y12):=TV.v (.vslice none 0 ks.length 1 (List.map (IV.int .i64) ks))
def d4P(ks:Y12):=TV.v (.int .i64 (ks.length:Int))
def c4U(op:Int):=IntKind.wrap .u64 op
def c5S(im:Int):=IntKind.wrap .u64 im
def c6G(g:Int):=IntKind.wrap .u64 g
def c7U(x:Nat×Nat×Heap×Y14):=(16:Nat)+8*x.1
def c3M(x:Nat×Nat×Heap×Y14):=x.2.2
theorem d9B(op im:Int)(ks:Y12)(l:Nat)(h:Heap)(Q:KT):dF (aR Ns) env 211 cS (oE 4 (a7Z op im ks)) bK [.agg [.int .i64 op,.int .i64 im,.vslice none l ks.length 1 (ks.map (IV.int .i64))]] h Q=(
 aC (aP [IV.agg [.int .i64 op,iI im,IV.vslice none 0 ks.length 1 (List.map (IV.int .i64) ks)]]) (∀(i:Nat)(h2:Heap),h2.get i=IObj.tip 8->Heap.get h2 i=IObj.tip 8/\(8:Nat)<=100000000000/\∀(h2:Heap),h2.get i=IObj.tip 16->(∃(x:Nat×Nat×Heap×Y14),some (TV.v (.vslice (some i) 16 16 1 [IV.int .u8 (IntKind.wrap .u8 (Int.fdiv (c4U op) 1)),IV.int .u8 (IntKind.wrap .u8 (Int.fdiv (c4U op) 256)),IV.int .u8 (IntKind.wrap .u8 (Int.fdiv (c4U op) 65536)),IV.int .u8 (IntKind.wrap .u8 (Int.fdiv (c4U op) 16777216)),IV.int .u8 (IntKind.wrap .u8 (Int.fdiv (c4U op) 4294967296)),IV.int .u8 (IntKind.wrap .u8 (Int.fdiv (c4U op) 1099511627776)),IV.int .u8 (IntKind.wrap .u8 (Int.fdiv (c4U op) 281474976710656)),IV.int .u8 (IntKind.wrap .u8 (Int.fdiv (c4U op) 72057594037927936)),IV.int .u8 (IntKind.wrap .u8 (Int.fdiv (c5S im) 1)),IV.int .u8 (IntKind.wrap .u8 (Int.fdiv (c5S im) 256)),IV.int .u8 (IntKind.wrap .u8 (Int.fdiv (c5S im) 65536)),IV.int .u8 (IntKind.wrap .u8 (Int.fdiv (c5S im) 16777216)),IV.int .u8 (IntKind.wrap .u8 (Int.fdiv (c5S im) 4294967296)),IV.int .u8 (IntKind.wrap .u8 (Int.fdiv (c5S im) 1099511627776)),IV.int .u8 (IntKind.wrap .u8 (Int.fdiv (c5S im) 281474976710656)),IV.int .u8 (IntKind.wrap .u8 (Int.fdiv (c5S im) 72057594037927936))]))=some (TV.v (.vslice (some x.2.1) (c7U x) (c7U x) 1 ((c3M x).2)))/\some (d4O ks)=some (d4O ks)/\some (d4P ks)=some (d4P ks)/\tI 0=tI (x.1:Int)/\h2=(c3M x).1/\(x.1<=ks.length/\Heap.get ((c3M x).1) x.2.1=IObj.tip (c7U x)/\N7 (Nd.mk op im (List.take x.1 ks)) ((c3M x).2))/\True)/\∀(x:Nat×Nat×Heap×Y14)(b:FF),x.1<=ks.length/\Heap.get ((c3M x).1) (x.2.1)=IObj.tip (c7U x)/\N7 (Nd.mk op im (List.take x.1 ks)) ((c3M x).2)->aI (decide ((x.1:Int)< (ks.length:Int))) (aC (decide (0<=(x.1:Int)) &&decide ((x.1:Int)< (ks.length:Int))) (aG .i64 (List.map (IV.int .i64) ks) ((x.1:Int).toNat*1) fun j=>((c3M x).1).get x.2.1=IObj.tip (c7U x)/\(16:Nat)+8*x.1<=100000000000/\∀(h2:Heap),h2.get x.2.1=IObj.tip ((16:Nat)+8*x.1+8)-> ∃(g:Nat×Nat×Heap×Y14),some (TV.v (.vslice (some x.2.1) ((16:Nat)+8*x.1+8) ((16:Nat)+8*x.1+8) 1 ((c3M x).2++ [IV.int .u8 (IntKind.wrap .u8 (Int.fdiv (c6G j) 1)),IV.int .u8 (IntKind.wrap .u8 (Int.fdiv (c6G j) 256)),IV.int .u8 (IntKind.wrap .u8 (Int.fdiv (c6G j) 65536)),IV.int .u8 (IntKind.wrap .u8 (Int.fdiv (c6G j) 16777216)),IV.int .u8 (IntKind.wrap .u8 (Int.fdiv (c6G j) 4294967296)),IV.int .u8 (IntKind.wrap .u8 (Int.fdiv (c6G j) 1099511627776)),IV.int .u8 (IntKind.wrap .u8 (Int.fdiv (c6G j) 281474976710656)),IV.int .u8 (IntKind.wrap .u8 (Int.fdiv (c6G j) 72057594037927936))])))=some (TV.v (.vslice (some g.2.1) ((16:Nat)+8*g.1) ((16:Nat)+8*g.1) 1 g.2.2.2))/\some (d4O ks)=some (d4O ks)/\some (d4P ks)=some (d4P ks)/\tI (wW ((x.1:Int)+1))=tI (g.1:Int)/\h2=g.2.2.1/\(g.1<=ks.length/\Heap.get g.2.2.1 g.2.1=IObj.tip ((16:Nat)+8*g.1)/\N7 (Nd.mk op im (List.take g.1 ks)) g.2.2.2)/\ks.length-g.1<ks.length-x.1)) (a3T ((c3M x).2) fun(m:Y11)=>Q (.str m) h))):=by kernel_rfl
theorem d7I: ∀xs h Q,a6Z xs h Q->aL env 211 xs h Q:=by
 intro xs h Q l;unfold a6Z at l;split at l
 ·rename_i op im A L c1;obtain⟨ks,⟨rfl,rfl⟩,l⟩:=l;refine aN (Vy) (d9B op im ks A h Q) ?_;delta d4O d4P c4U c5S c6G c7U c3M tI wW iI;obtain⟨K,l⟩:=l;have G: ∀x:Nat,(x:Int).toNat=x:=AK
  refine aA (by simp only [aP,bG,bC,AL]) (fun i h2 D=>⟨D,JF,fun h3 q=>⟨⟨(0,i,h3,_),rfl,rfl,rfl,rfl,rfl,⟨BE _,q,?_⟩,trivial⟩,?_⟩⟩)
  ·unfold N7 P3
   simp only [List.take_zero,List.flatMap_nil,DQ];rfl
  ·rintro⟨k,id,g,cs⟩ _ ⟨y,z,j⟩;dsimp only at y z j⊢;refine aB (fun c=>?_) (fun c=>?_)
   ·rw [decide_eq_true_eq]at c;have m:k<ks.length:=JF;simp only [G];rw [AO];refine aA (by simp;omega) (bT m ⟨z,JF,fun h4 p=>⟨(k+1,id,h4,_),JJ,JJ,JJ,?_,JJ,⟨m,by rw [p];congr 1,?_⟩,JK⟩⟩)
    ·rw [AF _ JF];rfl
    ·unfold N7 at j⊢;rw [j,a0G m,CB];rfl
   ·rw [decide_eq_false_iff_not]at c;unfold N7 at j;have r:k=ks.length:=JF;subst r;rw [DH]at j;subst j;exact Zk (D7 _) (l _ rfl)
 ·exact l.elim
def a4H:=aV 211 a6Z Ns
theorem a9C:aO env a4H:=aF d7I (Vy)
def c2U(g:Y12)(n:Int):Inv':=eA Nat (fun i=>[(1,.v (.int .i64 n)),(7,.v (.vslice none 0 (g).length 1 ((g).map (IV.int .i64)))),(8,.v (.int .i64 g.length)),(9,.v (.int .i64 i))]) (fun _=>[]) (fun _=>Heap.empty)
 (fun i=>i<=g.length/\(g.drop i).all (fun i=>decide (0<=i) &&decide (i<n))=g.all (fun i=>decide (0<=i) &&decide (i<n))) (fun i=>g.length-i)
def Fa(xs:Y14)(h:Heap)(K:KT):Prop:=match xs with
 | [.vslice none e1 n1 1 c1,.int .i64 n]=> ∃vars:Y12,(n1=vars.length/\c1=vars.map (IV.int .i64))/\vars.length<=1000000000/\K (.bool (vars.all fun i=>decide (0<=i) &&decide (i<n))) h
 |_=>False
def d4Q(g:Y12):=TV.v (.vslice none 0 g.length 1 (List.map (IV.int .i64) g))
abbrev e0N(g:Y12)(n:Int)(x:Nat):=x<=g.length/\(List.all (List.drop x g) fun i=>decide (0<=i) &&decide (i<n))=List.all g fun i=>decide (0<=i) &&decide (i<n)
def d4R(g:Y12):=TV.v (.int .i64 (g.length:Int))
def d4X(n:Int):=TV.v (.int .i64 n)
theorem c2O(g:Y12)(n:Int)(m:Nat)(h:Heap)(Q:KT):dF (aR a4H) env 212 cS (oE 3 (c2U g n)) bK [.vslice none m (g).length 1 ((g).map (IV.int .i64)),.int .i64 n] h Q=(
 aC (aP [IV.vslice none 0 g.length 1 (List.map (IV.int .i64) g),iI n]) ((∃(x:Nat),some (d4X n)=some (d4X n)/\some (d4Q g)=some (d4Q g)/\some (d4R g)=some (d4R g)/\tI 0=tI (x:Int)/\Heap.mk PT.nil 0=Heap.mk PT.nil 0/\(e0N g n x)/\True)/\∀(x:Nat)(b:FF),(e0N g n x)->aI (decide ((x:Int)< (g.length:Int))) (aC (decide (0<=(x:Int)) &&decide ((x:Int)< ((g.length):Int))) (aG .i64 (List.map (IV.int .i64) g) ((x:Int).toNat*1) fun l=>aI (decide (l<0)) (Q (.bool false) h) (aI (decide (l>=n)) (Q (.bool false) h) (∃(j:Nat),some (d4X n)=some (d4X n)/\some (d4Q g)=some (d4Q g)/\some (d4R g)=some (d4R g)/\tI (wW ((x:Int)+1))=tI (j:Int)/\Heap.mk PT.nil 0=Heap.mk PT.nil 0/\(j<=g.length/\(List.all (List.drop j g) fun(i:Int)=>decide (0<=i) &&decide (i<n))=List.all g fun i=>decide (0<=i) &&decide (i<n))/\g.length-j<g.length-x)))) (Q (.bool true) h))):=by kernel_rfl
theorem c1I: ∀xs h Q,Fa xs h Q->aL env 212 xs h Q:=by
 intro xs h Q j;unfold Fa at j;split at j
 ·rename_i p z c1 n;obtain⟨g,⟨rfl,rfl⟩,y,j⟩:=j;refine aN (a9C) (c2O g n p h Q) ?_;delta d4Q e0N d4R d4X tI wW iI;have r: ∀x:Nat,(x:Int).toNat=x:=AK
  refine aA (by simp only [aP,bG,bC,AL]) ⟨⟨0,rfl,rfl,rfl,rfl,rfl,⟨BE _,rfl⟩,trivial⟩,?_⟩;rintro i _ ⟨q,l⟩
  try dsimp only at q l⊢
  have fin:(g.drop i).all (fun i=>decide (0<=i) &&decide (i<n))=false->Q (.bool false) h:=fun e=>by
   rw [<-l,e]at j;exact j
  refine aB (fun c=>?_) (fun c=>?_)
  ·rw [decide_eq_true_eq]at c;have m:i<g.length:=JF;simp only [r];rw [AO];rw [List.drop_eq_getElem_cons m,EL]at l fin;refine aA (by simp;omega) (bT m (aB (fun c1=>fin ?_) (fun c1=>aB (fun c2=>fin ?_) (fun c2=>⟨i+1,JJ,JJ,JJ,?_,JJ,⟨m,?_⟩,by(try dsimp only);omega⟩))))
   ·rw [decide_eq_true_eq]at c1;rw [decide_eq_false JF,BM,BM]
   ·rw [decide_eq_true_eq]at c2;rw [decide_eq_false (show¬g[i]<n by omega),DB,BM]
   ·rw [AF _ JF];rfl
   ·rw [decide_eq_false_iff_not]at c1 c2;rw [decide_eq_true JF,decide_eq_true JF,BC,BC]at l;exact l
  ·rw [decide_eq_false_iff_not]at c;rw [List.drop_eq_nil_of_le JF]at l;rw [<-l]at j;exact j
 ·exact j.elim
def Db:=aV 212 Fa a4H
theorem Ju:aO env Db:=aF c1I (a9C)
def El(xs:Y14)(h:Heap)(K:KT):Prop:=match xs with
 | [.ptr id 0,.agg [.int .i64 op,.int .i64 im,.nilslice]]=> ∃(m j:Nat)(g imms:Y12)(l:Y15),IS h id m j g imms l/\(lV ⟨op,im,([]:Y12)⟩/\(∀x∈l,lV x)/\l.length<=1000000000/\(([]:Y12)).length<=1000000000)/\
  ∀h2:Heap,IS h2 id m j g imms (kQ l ⟨op,im,([]:Y12)⟩).1->sK id m j h h2->K (.int .i64 (kQ l ⟨op,im,([]:Y12)⟩).2) h2
 |_=>False
def b2T(op im:Int):=[iI op,iI im,IV.vslice none 0 0 1 []]
theorem d2Q(id:Nat)(op im:Int)(h:Heap)(Q:KT):dF (aR Db) env 271 cS bK bK [.ptr id 0,.agg [.int .i64 op,.int .i64 im,.nilslice]] h Q=(
 ∃(ks:Y12),((0:Nat)=ks.length/\[]=List.map (IV.int .i64) ks)/\ks.length<=1000000000/\∀(s:Y11),oX (Nd.mk op im ks) s->aJ h id fun r0=>oZ r0 1 fun(z:Nat)=>gC h z TypeDesc.string (IV.str s) (fun(r2:Y14)=>aG .i64 r2 0 fun A=>Q (.int .i64 A) h) (aJ h id fun r4=>aZ 3 r4 0 fun(K:Y10)(G r:Nat)(D:Y14)=>aJ h id fun r9=>oZ r9 1 fun(j:Nat)=>lU h j TypeDesc.string (IV.str s) (iI (r:Int)) fun(g:List (IV×IV))=>aJ (h.set j (IObj.map g)) id fun G9=>vE 3 G9 0 (aJ ((h.set j (IObj.map g)).push (IObj.tip 3)) id fun W9=>aC (Nat.ble 1 W9.length) (Q (.int .i64 (r:Int)) (((h.set j (IObj.map g)).push (IObj.tip 3)).set id (IObj.cells (IV.vslice (some (h.next)) 3 1 3 (b2T op im)::List.drop 1 W9))))) fun(m l p:Nat)(q:Y14)=>cF (h.set j (IObj.map g)) m fun(y:Nat)=>aC (Nat.beq y l&&Nat.ble ((p+1)*40) 140737488355328) (aJ ((h.set j (IObj.map g)).set m (IObj.tip (l+3))) id fun Nh=>aC (Nat.ble 1 Nh.length) (Q (.int .i64 (r:Int)) (((h.set j (IObj.map g)).set m (IObj.tip (l+3))).set id (IObj.cells (IV.vslice (some m) (l+3) (p+1) 3 (q++(b2T op im))::List.drop 1 Nh))))))):=by kernel_rfl
theorem b1D: ∀xs h Q,El xs h Q->aL env 271 xs h Q:=by
 intro xs h Q g;unfold El at g;split at g
 ·rename_i id op im;obtain⟨m,R,q,imms,l,K,⟨O,L,Y,G⟩,g⟩:=g;refine aN (Ju) (d2Q id op im h Q) ?_;delta b2T iI;have p:=lT O L;obtain⟨Z,n2,n3⟩:=K.ne;have r:=K;obtain⟨⟨b1,b2,b3⟩,h1,h2,h3⟩:=K;refine⟨[],⟨rfl,rfl⟩,G,fun s y=>aD h1 (iP rfl ?_)⟩;unfold oX at y;subst y
  cases e:oV ⟨op,im,([]:Y12)⟩ l 0 with
  |some i=>
   rw [e]at p;refine fU h3 (by rw [iD,p];rfl) (bB rfl ?_);unfold kQ at g;rw [e]at g;exact g h r sK.refl
  |none=>
   rw [e]at p;unfold kQ at g;rw [e]at g;refine fT h3 (by rw [iD,p];rfl) ?_;have V:(h.set m (.map (Nv (Vd l++ [(oY ⟨op,im,([]:Y12)⟩,(l.length:Int))])))).get id= .cells [.vslice (some R) (l.length*3) l.length 3 (l.flatMap cN),.map m,.vslice none 0 q.length 1 (q.map (IV.int .i64)),.vslice none 0 imms.length 1 (imms.map (IV.int .i64))]:=by rw [aH Z,h1]
   have q2:(h.set m (.map (Nv (Vd l++ [(oY ⟨op,im,([]:Y12)⟩,(l.length:Int))])))).get R= .tip (l.length*3):=by rw [aH n3.symm,h2]
   refine aD h1 (bM rfl (aD h1 (iP rfl (eX h3 (wO _ _ _ (by rw [p];rfl)) (aD V (Ff rfl (aS q2 (aA (by simp only [AD,bL,AS,true_and];omega) (aD (by rw [aH n2,V]) (aA rfl (g _ (r.app O L e _ h1) ?_)))))))))));refine⟨AG _,fun j X z A D=>?_⟩;rw [aH z,aH D,aH A]
 ·exact g.elim
def Og:=aV 271 El Db
theorem Wm:aO env Og:=aF b1D (Ju)
def Em(xs:Y14)(h:Heap)(K:KT):Prop:=match xs with
 | [.ptr id 0,.agg [.int .i64 op,.int .i64 im,.vslice io e1 n1 1 c1]]=> ∃ks:Y12,(n1=ks.length/\c1=ks.map (IV.int .i64))/\∃(m j:Nat)(g imms:Y12)(l:Y15),IS h id m j g imms l/\(lV ⟨op,im,ks⟩/\(∀x∈l,lV x)/\l.length<=1000000000/\(ks).length<=1000000000)/\
  ∀h2:Heap,IS h2 id m j g imms (kQ l ⟨op,im,ks⟩).1->sK id m j h h2->K (.int .i64 (kQ l ⟨op,im,ks⟩).2) h2
 |_=>False
def e0M(op im:Int)(ks:Y12):=[iI op,iI im,IV.vslice none 0 ks.length 1 (List.map (IV.int .i64) ks)]
theorem d2R(id:Nat)(op im:Int)(G:Y10)(A:Nat)(ks:Y12)(h:Heap)(Q:KT):dF (aR Og) env 271 cS bK bK [.ptr id 0,.agg [.int .i64 op,.int .i64 im,.vslice G A ks.length 1 (ks.map (IV.int .i64))]] h Q=(
 ∃(l:Y12),(ks.length=l.length/\List.map (IV.int .i64) ks=List.map (IV.int .i64) l)/\l.length<=1000000000/\∀(s:Y11),oX (Nd.mk op im l) s->aJ h id fun r0=>oZ r0 1 fun(D:Nat)=>gC h D TypeDesc.string (IV.str s) (fun r2=>aG .i64 r2 0 fun K=>Q (.int .i64 K) h) (aJ h id fun r4=>aZ 3 r4 0 fun(R:Y10)(O y:Nat)(L:Y14)=>aJ h id fun r9=>oZ r9 1 fun(j:Nat)=>lU h j TypeDesc.string (IV.str s) (iI (y:Int)) fun(g:List (IV×IV))=>aJ (h.set j (IObj.map g)) id fun G9=>vE 3 G9 0 (aJ ((h.set j (IObj.map g)).push (IObj.tip 3)) id fun W9=>aC (Nat.ble 1 W9.length) (Q (.int .i64 (y:Int)) (((h.set j (IObj.map g)).push (IObj.tip 3)).set id (IObj.cells (IV.vslice (some (h.next)) 3 1 3 (e0M op im ks)::List.drop 1 W9))))) fun(p m q:Nat)(r:Y14)=>cF (h.set j (IObj.map g)) p fun(z:Nat)=>aC (Nat.beq z m&&Nat.ble ((q+1)*40) 140737488355328) (aJ ((h.set j (IObj.map g)).set p (IObj.tip (m+3))) id fun Nh=>aC (Nat.ble 1 (List.length Nh)) (Q (.int .i64 (y:Int)) (((h.set j (IObj.map g)).set p (IObj.tip (m+3))).set id (IObj.cells (IV.vslice (some p) (m+3) (q+1) 3 (r++(e0M op im ks))::List.drop 1 Nh))))))):=by kernel_rfl
theorem b1E: ∀xs h Q,Em xs h Q->aL env 271 xs h Q:=by
 intro xs h Q g;unfold Em at g;split at g
 ·rename_i id op im io Y V c1;obtain⟨ks,⟨rfl,rfl⟩,m,R,q,imms,l,K,⟨O,L,a0,G⟩,g⟩:=g;refine aN (Wm) (d2R id op im io Y ks h Q) ?_;delta e0M iI;have p:=lT O L;obtain⟨V,n2,n3⟩:=K.ne;have r:=K;obtain⟨⟨b1,b2,b3⟩,h1,h2,h3⟩:=K;refine⟨ks,⟨rfl,rfl⟩,G,fun s y=>aD h1 (iP rfl ?_)⟩;unfold oX at y;subst y
  cases e:oV ⟨op,im,ks⟩ l 0 with
  |some i=>
   rw [e]at p;refine fU h3 (by rw [iD,p];rfl) (bB rfl ?_);unfold kQ at g;rw [e]at g;exact g h r sK.refl
  |none=>
   rw [e]at p;unfold kQ at g;rw [e]at g;refine fT h3 (by rw [iD,p];rfl) ?_;have X:(h.set m (.map (Nv (Vd l++ [(oY ⟨op,im,ks⟩,(l.length:Int))])))).get id= .cells [.vslice (some R) (l.length*3) l.length 3 (l.flatMap cN),.map m,.vslice none 0 q.length 1 (q.map (IV.int .i64)),.vslice none 0 imms.length 1 (imms.map (IV.int .i64))]:=by rw [aH V,h1]
   have q2:(h.set m (.map (Nv (Vd l++ [(oY ⟨op,im,ks⟩,(l.length:Int))])))).get R= .tip (l.length*3):=by rw [aH n3.symm,h2]
   refine aD h1 (bM rfl (aD h1 (iP rfl (eX h3 (wO _ _ _ (by rw [p];rfl)) (aD X (Ff rfl (aS q2 (aA (by simp only [AD,bL,AS,true_and];omega) (aD (by rw [aH n2,X]) (aA rfl (g _ (r.app O L e _ h1) ?_)))))))))));refine⟨AG _,fun j Z z A D=>?_⟩;rw [aH z,aH D,aH A]
 ·exact g.elim
def a4W:=aV 271 Em Og
theorem c0E:aO env a4W:=aF b1E (Wm)
def a7K(xs:Y14)(h:Heap)(K:KT):Prop:=match xs with
 | [.ptr id 0,.agg [.int .i64 op,.int .i64 im,s]]=>match s with| .nilslice=>El [.ptr id 0,.agg [.int .i64 op,.int .i64 im,.nilslice]] h K| .vslice io e len z cs=>Em [.ptr id 0,.agg [.int .i64 op,.int .i64 im,.vslice io e len z cs]] h K|_=>False
 |_=>False
theorem d7T: ∀xs h Q,a7K xs h Q->aL env 271 xs h Q:=by
 intro xs h Q g;unfold a7K at g;split at g
 ·rename_i id op im s;split at g
  ·exact b1D _ _ _ g
  ·exact b1E _ _ _ g
  ·exact g.elim
 ·exact g.elim
def a4X:=aV 271 a7K a4W
theorem a9M:aO env a4X:=aF d7T (c0E)
def b8U(id:Nat)(v op im iv:Int)(ks:List T)(j:Y10)(g:Nat)(imms:Y12)(h:Heap):Inv':=eA Int (fun x=>[(0,.v (.ptr id 0)),(3,.l 3 0),(5,.l 5 0)]) (fun x=>[(3,[.int .i64 v,.int .i64 op,.int .i64 im,.int .i64 iv,.vslice j g ks.length 5 (cQ ks)]),(5,[.int .i64 op,.int .i64 x,.nilslice])]) (fun _=>h) (fun x=>x=oF iv im imms) (fun _=>0)
def b8V(id:Nat)(v op im iv:Int)(ks:List T)(q:Y10)(p:Nat)(m j:Nat)(g imms:Y12)(l:Y15)(h:Heap):Inv':= .or
 (eA (Nat×Heap×Y15×Int) (fun x=>[(0,.v (.ptr id 0)),(5,.l 5 0),(39,.v (.vslice q p ks.length 5 (cQ ks))),(40,.v (.int .i64 ks.length)),(41,.v (.int .i64 x.1))]) (fun x=>[(5,[.int .i64 op,.int .i64 x.2.2.2,.nilslice])]) (fun x=>x.2.1)
  (fun x=>IK ks g imms l x.1 x.2.2.1 []/\IS x.2.1 id m j g imms x.2.2.1/\sK id m j h x.2.1/\x.2.2.2=oF iv im imms) (fun x=>ks.length-x.1))
 (eA (Nat×Heap×Y15×Int×Y12×Nat) (fun x=>[(0,.v (.ptr id 0)),(5,.l 5 0),(39,.v (.vslice q p ks.length 5 (cQ ks))),(40,.v (.int .i64 ks.length)),(41,.v (.int .i64 x.1))]) (fun x=>[(5,[.int .i64 op,.int .i64 x.2.2.2.1,.vslice (some x.2.2.2.2.2) x.2.2.2.2.1.length x.2.2.2.2.1.length 1 (x.2.2.2.2.1.map (IV.int .i64))])]) (fun x=>x.2.1)
  (fun x=>IK ks g imms l x.1 x.2.2.1 x.2.2.2.2.1/\IS x.2.1 id m j g imms x.2.2.1/\sK id m j h x.2.1/\x.2.2.2.1=oF iv im imms/\x.2.1.get x.2.2.2.2.2= .tip x.2.2.2.2.1.length/\x.2.2.2.2.2<x.2.1.next/\h.next<=x.2.2.2.2.2) (fun x=>ks.length-x.1))
def O5(d:Nat)(xs:Y14)(h:Heap)(K:KT):Prop:=match xs with
 | [.ptr id 0,.agg [.int .i64 v,.int .i64 op,.int .i64 im,.int .i64 iv,.vslice io e1 n1 5 c1]]=> ∃(ks:List T)(m j:Nat)(g imms:Y12)(l:Y15),(n1=ks.length/\c1=cQ ks)/\IS h id m j g imms l/\((T.mk v op im iv ks).num<=d/\(T.mk v op im iv ks).wi g.length imms.length/\(T.mk v op im iv ks).ok)/\
  ((∀x∈g,aU x)/\(∀x∈imms,aU x)/\(∀x∈l,lV x)/\l.length+(T.mk v op im iv ks).num<=1000000000/\g.length<=1000/\imms.length<=1000)/\
  ∀h2:Heap,IS h2 id m j g imms (cB (T.mk v op im iv ks) g imms l).1->sK id m j h h2->K (.int .i64 (cB (T.mk v op im iv ks) g imms l).2) h2
 |_=>False
def b8E:=TV.l 5 0
def b8K(id:Nat):=TV.v (.ptr id 0)
def c6H:=IV.int .i64
def d5J(g id:Nat)(h:Heap)(im iv op v:Int)(imms:Y12)(j:Y10)(ks:List T)(p:Y14):Prop:= ∃(m:Int),some (b8K id)=some (b8K id)/\some (TV.l 3 0)=some (TV.l 3 0)/\some b8E=some b8E/\some [iI v,iI op,iI im,iI iv,IV.vslice j g ks.length 5 (cQ ks)]=some [iI v,iI op,iI im,iI iv,IV.vslice j g ks.length 5 (cQ ks)]/\some (p)=some [iI op,iI m,IV.nilslice]
 /\h=h/\m=oF iv im imms/\True
theorem d2C(dd:Nat)(id:Nat)(v op im iv:Int)(ks:List T)(G:Y10)(D:Nat)(m z:Nat)(q imms:Y12)(l:Y15)(h:Heap)(Q:KT):dF (aR (aV 213 (O5 dd) a4X)) env 213 cS (oE 8 (b8V id v op im iv ks G D m z q imms l h)) (oE 7 (b8U id v op im iv ks G D imms h)) [.ptr id 0,.agg [.int .i64 v,.int .i64 op,.int .i64 im,.int .i64 iv,.vslice G D ks.length 5 (cQ ks)]] h Q=(
 aI (decide (v>0)) (aJ h id fun r0=>aZ 1 r0 2 fun(i1:Y10)(e2 l3:Nat)(c4:Y14)=>aC (decide (0<=wW (v-1)) &&decide (wW (v-1)< (l3:Int))) (aG .i64 c4 ((wW (v-1)).toNat*1) fun n5=>Q (.int .i64 n5) h)) (aI (decide (iv>0)) (aJ h id fun r6=>aZ 1 r6 3 fun(i7:Y10)(e8 l9:Nat)(a1:Y14)=>aC (decide (0<=wW (iv-1)) &&decide (wW (iv-1)< (l9:Int))) (aG .i64 a1 ((wW (iv-1)).toNat*1) fun a7=>d5J D id h im iv op v imms G ks [iI op,iI a7,IV.nilslice])) (d5J D id h im iv op v imms G ks [iI op,iI im,IV.nilslice])/\∀(x:Int)(b:FF),x=oF iv im imms->((∃(g:Nat×Heap×Y15×Int),some (b8K id)=some (b8K id)/\some b8E=some b8E/\some (TV.v (.vslice G D ks.length 5 (cQ ks)))=some (TV.v (.vslice G D ks.length 5 (cQ ks)))/\tI (ks.length:Int)=tI (ks.length:Int)/\tI 0=tI (g.1:Int)/\some [iI op,iI x,IV.nilslice]=some [iI op,iI g.2.2.2,IV.nilslice]/\h=g.2.1/\(IK ks q imms l g.1 g.2.2.1 []/\IS g.2.1 id m z q imms g.2.2.1/\sK id m z h g.2.1/\g.2.2.2=oF iv im imms)/\True) \/ ∃(g:Nat×Heap×Y15×Int×Y12×Nat),some (b8K id)=some (b8K id)/\some b8E=some b8E/\some (TV.v (.vslice G D ks.length 5 (cQ ks)))=some (TV.v (.vslice G D ks.length 5 (cQ ks)))/\tI (ks.length:Int)=tI (ks.length:Int)/\tI 0=tI (g.1:Int)/\some [iI op,iI x,IV.nilslice]=some [iI op,iI g.2.2.2.1,IV.vslice (some g.2.2.2.2.2) ((((g.2.2.2).2).1).length) g.2.2.2.2.1.length 1 (List.map c6H g.2.2.2.2.1)]/\h=g.2.1/\(IK ks q imms l g.1 g.2.2.1 (g.2.2.2.2.1)/\IS g.2.1 id m z q imms g.2.2.1/\sK id m z h g.2.1/\g.2.2.2.1=oF iv im imms/\Heap.get g.2.1 (((g.2.2.2).2).2)=IObj.tip g.2.2.2.2.1.length/\g.2.2.2.2.2<g.2.1.next/\Heap.next h<=g.2.2.2.2.2)/\True)/\(∀(x:Nat×Heap×Y15×Int)(b:FF),IK ks q imms l x.1 x.2.2.1 []/\IS x.2.1 id m z q imms x.2.2.1/\sK id m z h x.2.1/\x.2.2.2=oF iv im imms->aI (decide (((x.1):Int)< (ks.length:Int))) (aC (decide (0<=(x.1:Int)) &&decide ((x.1:Int)< (ks.length:Int))) (aG .i64 (cQ ks) ((x.1:Int).toNat*5) fun L=>aG .i64 (cQ ks) ((x.1:Int).toNat*(5:Nat)+1) fun O=>aG .i64 (cQ ks) ((x.1:Int).toNat*5+1+1) fun R=>aG .i64 (cQ ks) ((x.1:Int).toNat*5+1+1+1) fun V=>aZ 5 (cQ ks) ((x.1:Int).toNat*5+1+1+1+1) fun(b0:Y10)(a8 a4:Nat)(a2:Y14)=> ∃(r:List T)(K A:Nat)(p j:Y12)(y:Y15),(a4=r.length/\a2=cQ r)/\IS x.2.1 id K A p j y/\(T.num (T.mk L O R V r)<=dd/\T.wi (T.mk L O R V r) (p.length:Int) (j.length:Int)/\T.ok (T.mk L O R V r))/\((∀(x:Int),x∈p->aU x)/\(∀(x:Int),x∈j->aU x)/\(∀(x:Nd),x∈y->lV x)/\y.length+T.num (T.mk L O R V r)<=1000000000/\p.length<=1000/\j.length<=1000)/\∀(h2:Heap),IS h2 id K A p j ((cB (T.mk L O R V r) p j y).1)->sK id K A x.2.1 h2->(∃(g:Nat×Heap×Y15×Int),some (b8K id)=some (b8K id)/\some b8E=some b8E/\some (TV.v (.vslice G D ks.length 5 (cQ ks)))=some (TV.v (.vslice G D ks.length 5 (cQ ks)))/\tI (ks.length:Int)=tI (ks.length:Int)/\tI (wW ((x.1:Int)+1))=tI (g.1:Int)/\some [iI op,iI x.2.2.2,IV.vslice (some (h2.next)) 1 1 1 [iI ((cB (T.mk L O R V r) p j y).2)]]=some [iI op,iI g.2.2.2,IV.nilslice]/\Heap.push h2 (IObj.tip 1)=g.2.1/\(IK ks q imms l g.1 g.2.2.1 []/\IS g.2.1 id m z q imms g.2.2.1/\sK id m z h g.2.1/\g.2.2.2=oF iv im imms)/\ks.length-g.1<ks.length-x.1) \/ ∃(g:Nat×Heap×Y15×Int×Y12×Nat),some (b8K id)=some (b8K id)/\some b8E=some b8E/\some (TV.v (.vslice G D ks.length 5 (cQ ks)))=some (TV.v (.vslice G D (ks.length) 5 (cQ ks)))/\tI (ks.length:Int)=tI (ks.length:Int)/\tI (wW ((x.1:Int)+1))=tI (g.1:Int)/\some [iI op,iI x.2.2.2,IV.vslice (some (h2.next)) 1 1 1 [iI ((cB (T.mk L O R V r) p j y).2)]]=some [iI op,iI ((g.2.2.2).1),IV.vslice (some g.2.2.2.2.2) g.2.2.2.2.1.length g.2.2.2.2.1.length 1 (List.map c6H (((g.2.2.2).2).1))]/\Heap.push h2 (IObj.tip 1)=g.2.1/\(IK ks q imms l g.1 g.2.2.1 g.2.2.2.2.1/\IS g.2.1 id m z q imms (((g.2).2).1)/\sK id m z h g.2.1/\g.2.2.2.1=oF iv im imms/\Heap.get g.2.1 g.2.2.2.2.2=IObj.tip g.2.2.2.2.1.length/\Prod.snd g.2.2.2.2<g.2.1.next/\Heap.next h<=g.2.2.2.2.2)/\ks.length-g.1<ks.length-x.1)) (∃(m z:Nat)(q imms:Y12)(l:Y15),IS x.2.1 id m z q imms l/\(lV (Nd.mk op x.2.2.2 [])/\(∀(x:Nd),x∈l->lV x)/\l.length<=1000000000/\(0:Nat)<=1000000000)/\∀(h2:Heap),IS h2 id m z q imms ((kQ l (Nd.mk op ((x.2.2).2) [])).1)->sK id m z x.2.1 h2->Q (.int .i64 ((kQ l (Nd.mk op x.2.2.2 [])).2)) h2))/\∀(x:Nat×Heap×Y15×Int×Y12×Nat)(b:FF),IK ks q imms l x.1 x.2.2.1 (x.2.2.2.2.1)/\IS x.2.1 id m z q imms x.2.2.1/\sK id m z h x.2.1/\x.2.2.2.1=oF iv im imms/\Heap.get x.2.1 ((((x.2.2).2).2).2)=IObj.tip x.2.2.2.2.1.length/\x.2.2.2.2.2<x.2.1.next/\Heap.next h<=x.2.2.2.2.2->aI (decide ((x.1:Int)< (ks.length:Int))) (aC (decide (0<=(x.1:Int)) &&decide ((x.1:Int)< (ks.length:Int))) (aG .i64 (cQ ks) ((x.1:Int).toNat*5) fun X=>aG .i64 (cQ ks) ((x.1:Int).toNat*5+(1:Nat)) fun Y=>aG .i64 (cQ ks) ((x.1:Int).toNat*5+1+1) fun Z=>aG .i64 (cQ ks) ((x.1:Int).toNat*5+1+1+1) fun a0=>aZ 5 (cQ ks) ((x.1:Int).toNat*5+1+1+1+1) fun(b1:Y10)(a9 a5:Nat)(a3:Y14)=> ∃(r:List T)(K A:Nat)(p j:Y12)(y:Y15),(a5=r.length/\a3=cQ r)/\IS x.2.1 id K A p j y/\(T.num (T.mk X Y Z a0 r)<=dd/\T.wi (T.mk X Y Z a0 r) (p.length:Int) (j.length:Int)/\T.ok (T.mk X Y Z a0 r))/\((∀(x:Int),x∈p->aU x)/\(∀(x:Int),x∈j->aU x)/\(∀(x:Nd),x∈y->lV x)/\y.length+T.num (T.mk X Y Z a0 r)<=1000000000/\p.length<=1000/\j.length<=1000)/\∀(h2:Heap),IS h2 id K A p j ((cB (T.mk X Y Z a0 r) p j y).1)->sK id K A x.2.1 h2->cF h2 x.2.2.2.2.2 fun(a6:Nat)=>aC (Nat.beq a6 x.2.2.2.2.1.length&&Nat.ble ((x.2.2.2.2.1.length+(1:Nat))*8) 140737488355328) ((∃(g:Nat×Heap×Y15×Int),some (b8K id)=some (b8K id)/\some b8E=some b8E/\some (TV.v (.vslice G D ks.length 5 (cQ ks)))=some (TV.v (.vslice G D ks.length 5 (cQ ks)))/\tI (ks.length:Int)=tI (ks.length:Int)/\tI (wW ((x.1:Int)+1))=tI (g.1:Int)/\some [iI op,iI x.2.2.2.1,IV.vslice (some x.2.2.2.2.2) (x.2.2.2.2.1.length+1) (x.2.2.2.2.1.length+1) 1 (List.map c6H x.2.2.2.2.1++ [iI ((cB (T.mk X Y Z a0 r) p j y).2)])]=some [iI op,iI g.2.2.2,IV.nilslice]/\Heap.set h2 ((((x.2.2).2).2).2) (IObj.tip (x.2.2.2.2.1.length+1))=g.2.1/\(IK ks q imms l g.1 g.2.2.1 []/\IS g.2.1 id m z q imms g.2.2.1/\sK id m z h g.2.1/\g.2.2.2=oF iv im imms)/\ks.length-g.1<ks.length-x.1) \/ ∃(g:Nat×Heap×Y15×Int×Y12×Nat),some (b8K id)=some (b8K id)/\some b8E=some b8E/\some (TV.v (.vslice G D ks.length 5 (cQ ks)))=some (TV.v (.vslice G D ks.length 5 (cQ ks)))/\tI (ks.length:Int)=tI (ks.length:Int)/\tI (wW (((x.1):Int)+1))=tI (g.1:Int)/\some [iI op,iI x.2.2.2.1,IV.vslice (some x.2.2.2.2.2) (((((x.2.2).2).2).1).length+1) (x.2.2.2.2.1.length+1) 1 (List.map c6H x.2.2.2.2.1++ [iI ((cB (T.mk X Y Z a0 r) p j y).2)])]=some [iI op,iI g.2.2.2.1,IV.vslice (some g.2.2.2.2.2) g.2.2.2.2.1.length g.2.2.2.2.1.length 1 (List.map c6H g.2.2.2.2.1)]/\Heap.set h2 x.2.2.2.2.2 (IObj.tip (x.2.2.2.2.1.length+1))=g.2.1/\(IK ks q imms l (g.1) g.2.2.1 g.2.2.2.2.1/\IS g.2.1 id m z q imms g.2.2.1/\sK id m z h g.2.1/\g.2.2.2.1=oF iv im imms/\Heap.get g.2.1 g.2.2.2.2.2=IObj.tip g.2.2.2.2.1.length/\g.2.2.2.2.2<g.2.1.next/\Heap.next h<=Prod.snd (g.2.2.2.2))/\ks.length-g.1<ks.length-x.1))) (∃(ks:Y12),(x.2.2.2.2.1.length=ks.length/\List.map c6H x.2.2.2.2.1=List.map c6H ks)/\∃(m z:Nat)(q imms:Y12)(l:Y15),IS x.2.1 id m z q imms l/\(lV (Nd.mk op x.2.2.2.1 ks)/\(∀(x:Nd),x∈l->lV x)/\l.length<=1000000000/\ks.length<=(1000000000:Nat))/\∀(h2:Heap),IS h2 id m z q imms ((kQ l (Nd.mk op x.2.2.2.1 ks)).1)->sK id m z x.2.1 h2->Q (.int .i64 ((kQ l (Nd.mk op x.2.2.2.1 ks)).2)) h2))):=by kernel_rfl
theorem d0E: ∀d xs h Q,O5 d xs h Q->aL env 213 xs h Q:=by
 intro d
 induction d with
 |zero=>
  intro xs h Q L;unfold O5 at L;split at L
  ·rename_i id v op im iv io e1 n1 c1;obtain⟨ks,m,iL,j,imms,l,⟨rfl,rfl⟩,hs,hd,hb,L⟩:=L;have:=Vw (T.mk v op im iv ks);omega
  ·exact L.elim
 |succ dd ih=>
  intro xs h Q L;unfold O5 at L;split at L
  ·rename_i id v op im iv io e1 n1 c1;obtain⟨ks,m,iL,j,imms,l,⟨rfl,rfl⟩,hs,hd,hb,L⟩:=L;refine aN (aF ih (a9M)) (d2C dd id v op im iv ks io e1 m iL j imms l h Q) ?_;delta d5J b8E b8K c6H tI wW iI;have tn: ∀x:Nat,(x:Int).toNat=x:=AK
   obtain⟨b5,a0,V⟩:=hd;obtain⟨hv,Y,b4,a8,b9,a9⟩:=hb;have a6:(T.mk v op im iv ks).num=jY ks+1:=rfl;have c0:=xQ ks;have A: ∀t:T,T.mk t.v t.op t.im t.iv t.ks=t:=fun t=>by cases t;rfl
   rw [a6]at b5 a8;have b6:=hs;obtain⟨⟨b1,b2,b3⟩,g1,g2,g3⟩:=b6;refine aB (fun cv=>?_) (fun cv=>?_)
   ·rw [decide_eq_true_eq]at cv;rw [A0 cv]at L;have r:(v-1).toNat<j.length:=by have:=a0.1;omega
    have hw:IntKind.i64.wrap (v-1)=v-1:=AF _ (by have:=a0.1;omega);rw [hw];refine aD g1 (bM rfl (aA (by have:=a0.1;simp;omega) ?_));rw [AO];refine bT r ?_;have e:j.getD (v-1).toNat 0=j[(v-1).toNat]:=by rw [AC,AA r];rfl
    rw [e]at L;exact L h hs sK.refl
   ·rw [decide_eq_false_iff_not]at cv;have b7:v=0:=by have:=a0.1;omega
    subst b7;have a7:(0<=iv/\iv<=imms.length)/\wis ks j.length imms.length:=by
     rcases a0.2 with q|q
     ·omega
     ·exact q
    rw [qY cv]at L;refine⟨aB (fun ci=>?_) (fun ci=>?_),?_⟩
    ·rw [decide_eq_true_eq]at ci;have r:(iv-1).toNat<imms.length:=JF;have hw:IntKind.i64.wrap (iv-1)=iv-1:=AF _ JF;rw [hw];refine aD g1 (bM rfl (aA (by simp;omega) ?_));rw [AO];refine bT r ⟨_,rfl,rfl,rfl,rfl,rfl,rfl,?_,trivial⟩;unfold oF
     rw [if_pos ci,AC,AA r];rfl
    ·rw [decide_eq_false_iff_not]at ci;refine⟨_,rfl,rfl,rfl,rfl,rfl,rfl,?_,trivial⟩;unfold oF
     rw [if_neg ci]
    ·rintro X _ G
     try dsimp only at G⊢
     have a3: ∀kids:Y12,(∀x∈kids,aU x)->lV ⟨op,X,kids⟩:=fun kids q=>⟨V.1.2.1,by
      rw [G];unfold oF
      show aU (if 0<iv then imms.getD (iv-1).toNat 0 else im);split
      ·exact Pj Y
      ·exact V.1.2.2.1,q⟩
     have fin: ∀(g:Heap)(i:Nat)(y:Y15)(kids:Y12),IK ks j imms l i y kids->sK id m iL h g->ks.length<=i-> ∀h2,IS h2 id m iL j imms (kQ y ⟨op,X,kids⟩).1->sK id m iL g h2->Q (.int .i64 (kQ y ⟨op,X,kids⟩).2) h2:=by
      intro g i y kids p hf b0 h2 q1 q2;have e:=p.last b0;rw [e,<-G]at L;exact L h2 q1 (hf.trans q2)
     have a2: ∀(g:Heap)(i:Nat)(r:i<ks.length)(y:Y15)(kids:Y12),IK ks j imms l i y kids->IS g id m iL j imms y->
       (ks[i].num<=dd/\ks[i].wi j.length imms.length/\ks[i].ok)/\(∀x∈j,aU x)/\(∀x∈imms,aU x)/\(∀x∈y,lV x)/\y.length+ks[i].num<=1000000000/\j.length<=1000/\imms.length<=1000:=by
      intro g i r y kids p z;have h1:=Fk (AH r);exact⟨⟨JF,b2O a7.2 (AH r),Rl V.2 (AH r)⟩,hv,Y,p.2.1,(p.step r V.2 hv Y).2,b9,a9⟩
     refine⟨.inl ⟨(0,h,l,X),rfl,rfl,rfl,rfl,rfl,rfl,rfl,⟨⟨⟨JH,BE _,rfl⟩,b4,JH,by rw [CZ];omega⟩,hs,sK.refl,G⟩,trivial⟩,?_,?_⟩
     ·rintro⟨i,g,y,a1⟩ _ ⟨p,z,D,K⟩;dsimp only at p z D K⊢;obtain rfl:a1=X:=K.trans G.symm;refine aB (fun c=>?_) (fun c=>?_)
      ·rw [decide_eq_true_eq]at c;have r:i<ks.length:=JF;simp only [tn];obtain⟨k1,k2⟩:=a2 g i r y [] p z;refine aA (by simp;omega) (ldT r rfl ⟨ks[i].ks,m,iL,j,imms,y,⟨rfl,rfl⟩,z,by rw [A];exact k1,by rw [A];exact k2,fun g2 Z O=> .inr ⟨(i+1,g2.push (.tip 1),(cB ks[i] j imms y).1,a1,[(cB ks[i] j imms y).2],g2.next),JJ,JJ,JJ,JJ,?_,?_,JJ,?_,?_⟩⟩)
       ·rw [AF _ JF];rfl
       ·rw [A];rfl
       ·rw [A]at Z;exact⟨(p.step r V.2 hv Y).1,Z.push,(D.trans O).push,G,aT,AV _,CW D.1 O.1⟩
       ·have:=p.1.2.1;dsimp only;omega
      ·rw [decide_eq_false_iff_not]at c;have h0:=p.1.2.2;have hb:=p.2.2.2;exact⟨m,iL,j,imms,y,z,⟨a3 _ JH,p.2.1,JF,JH⟩,fun h2 q1 q2=>fin g i y [] p D JF h2 q1 q2⟩
     ·rintro⟨i,g,y,a1,kids,i2⟩ _ ⟨p,z,D,K,ht,a5,a4⟩;dsimp only at p z D K ht a5 a4⊢;obtain rfl:a1=X:=K.trans G.symm;refine aB (fun c=>?_) (fun c=>?_)
      ·rw [decide_eq_true_eq]at c;have r:i<ks.length:=JF;simp only [tn];obtain⟨k1,k2⟩:=a2 g i r y kids p z;have R:i2≠id/\i2≠m/\i2≠iL:=JF;have c2:=p.1.2.2;refine aA (by simp;omega) (ldT r rfl ⟨ks[i].ks,m,iL,j,imms,y,⟨rfl,rfl⟩,z,by rw [A];exact k1,by rw [A];exact k2,fun g2 Z O=>aS ((O.2 i2 a5 R.1 R.2.1 R.2.2).trans ht)
        (aA (by simp only [AO,AD,bL,AS,true_and];omega) (.inr ⟨(i+1,g2.set i2 (.tip (kids.length+1)),(cB ks[i] j imms y).1,a1,kids++ [(cB ks[i] j imms y).2],i2),JJ,JJ,JJ,JJ,?_,?_,JJ,?_,?_⟩))⟩)
       ·rw [AF _ JF];rfl
       ·rw [A];simp
       ·rw [A]at Z;exact⟨(p.step r V.2 hv Y).1,Z.set R.1 R.2.1 R.2.2,(D.trans O).set a4,G,by rw [aK];simp,BS a5 O.1,a4⟩
       ·dsimp only;omega
      ·rw [decide_eq_false_iff_not]at c;have h0:=p.1.2.2;have hb:=p.2.2.2;exact⟨kids,⟨rfl,rfl⟩,m,iL,j,imms,y,z,⟨a3 _ p.2.2.1,p.2.1,JF,by have:=p.1.2.1;omega⟩,fun h2 q1 q2=>fin g i y kids p D JF h2 q1 q2⟩
  ·exact L.elim
def a4E:=aV 213 (fun xs h K=> ∃d,O5 d xs h K) a4X
theorem b9X:aO env a4E:=aF (fun xs h Q g=>g.elim fun d g=>d0E d xs h Q g) (a9M)
def b8Y(v op im iv:Int)(ks:List T)(g imms:Y12)(l:Y15):Inv':=eA (Nat×Heap) (fun x=>[(0,.v (.vslice none 0 (l).length 3 ((l).flatMap cN))),(2,.v (.vslice none 0 (g).length 1 ((g).map (IV.int .i64)))),(3,.v (.vslice none 0 (imms).length 1 ((imms).map (IV.int .i64)))),(5,.l 5 0),(10,.v (.ptr 1 0)),(21,.v (.vslice none 0 (l).length 3 ((l).flatMap cN))),(22,.v (.int .i64 l.length)),(23,.v (.int .i64 x.1))]) (fun _=>[(5,[.int .i64 v,.int .i64 op,.int .i64 im,.int .i64 iv,.vslice none 0 ks.length 5 (cQ ks)])]) (fun x=>x.2) (fun x=>x.1<=l.length/\IZ x.2 1 0 g imms (l.take x.1)) (fun x=>l.length-x.1)
def d6D(v op im iv:Int)(ks:List T)(g imms:Y12)(l:Y15):Inv':= .or
 (eA (Nat×Heap×Nd) (fun x=>[(0,.v (.vslice none 0 (l).length 3 ((l).flatMap cN))),(2,.v (.vslice none 0 (g).length 1 ((g).map (IV.int .i64)))),(3,.v (.vslice none 0 (imms).length 1 ((imms).map (IV.int .i64)))),(5,.l 5 0),(10,.v (.ptr 1 0)),(21,.v (.vslice none 0 (l).length 3 ((l).flatMap cN))),(22,.v (.int .i64 l.length)),(23,.v (.int .i64 x.1)),(11,.v (.int .i64 x.1)),(12,.l 12 0)]) (fun x=>[(5,[.int .i64 v,.int .i64 op,.int .i64 im,.int .i64 iv,.vslice none 0 ks.length 5 (cQ ks)]),(12,[.int .i64 x.2.2.op,.int .i64 x.2.2.im,.nilslice])]) (fun x=>x.2.1) (fun x=>(l[x.1]?=some x.2.2/\x.2.2.ks=[])/\IZ x.2.1 1 0 g imms (l.take x.1)) (fun x=>l.length-x.1))
 (eA (Nat×Heap×Nd×Nat×Nat) (fun x=>[(0,.v (.vslice none 0 (l).length 3 ((l).flatMap cN))),(2,.v (.vslice none 0 (g).length 1 ((g).map (IV.int .i64)))),(3,.v (.vslice none 0 (imms).length 1 ((imms).map (IV.int .i64)))),(5,.l 5 0),(10,.v (.ptr 1 0)),(21,.v (.vslice none 0 (l).length 3 ((l).flatMap cN))),(22,.v (.int .i64 l.length)),(23,.v (.int .i64 x.1)),(11,.v (.int .i64 x.1)),(12,.l 12 0)]) (fun x=>[(5,[.int .i64 v,.int .i64 op,.int .i64 im,.int .i64 iv,.vslice none 0 ks.length 5 (cQ ks)]),(12,[.int .i64 x.2.2.1.op,.int .i64 x.2.2.1.im,.vslice (some x.2.2.2.1) x.2.2.2.2 x.2.2.1.ks.length 1 (x.2.2.1.ks.map (IV.int .i64))])]) (fun x=>x.2.1) (fun x=>l[x.1]?=some x.2.2.1/\IZ x.2.1 1 0 g imms (l.take x.1)) (fun x=>l.length-x.1))
def d6E(v op im iv:Int)(ks:List T)(g imms:Y12)(l:Y15):Inv':= .or
 (eA (Nat×Heap×Nd) (fun x=>[(0,.v (.vslice none 0 (l).length 3 ((l).flatMap cN))),(2,.v (.vslice none 0 (g).length 1 ((g).map (IV.int .i64)))),(3,.v (.vslice none 0 (imms).length 1 ((imms).map (IV.int .i64)))),(5,.l 5 0),(10,.v (.ptr 1 0)),(21,.v (.vslice none 0 (l).length 3 ((l).flatMap cN))),(22,.v (.int .i64 l.length)),(23,.v (.int .i64 x.1)),(11,.v (.int .i64 x.1)),(12,.l 12 0)]) (fun x=>[(5,[.int .i64 v,.int .i64 op,.int .i64 im,.int .i64 iv,.vslice none 0 ks.length 5 (cQ ks)]),(12,[.int .i64 x.2.2.op,.int .i64 x.2.2.im,.nilslice])]) (fun x=>x.2.1) (fun x=>(l[x.1]?=some x.2.2/\x.2.2.ks=[])/\IP x.2.1 1 0 g imms (l.take x.1) x.2.2) (fun x=>l.length-x.1))
 (eA (Nat×Heap×Nd×Nat×Nat) (fun x=>[(0,.v (.vslice none 0 (l).length 3 ((l).flatMap cN))),(2,.v (.vslice none 0 (g).length 1 ((g).map (IV.int .i64)))),(3,.v (.vslice none 0 (imms).length 1 ((imms).map (IV.int .i64)))),(5,.l 5 0),(10,.v (.ptr 1 0)),(21,.v (.vslice none 0 (l).length 3 ((l).flatMap cN))),(22,.v (.int .i64 l.length)),(23,.v (.int .i64 x.1)),(11,.v (.int .i64 x.1)),(12,.l 12 0)]) (fun x=>[(5,[.int .i64 v,.int .i64 op,.int .i64 im,.int .i64 iv,.vslice none 0 ks.length 5 (cQ ks)]),(12,[.int .i64 x.2.2.1.op,.int .i64 x.2.2.1.im,.vslice (some x.2.2.2.1) x.2.2.2.2 x.2.2.1.ks.length 1 (x.2.2.1.ks.map (IV.int .i64))])]) (fun x=>x.2.1) (fun x=>l[x.1]?=some x.2.2.1/\IP x.2.1 1 0 g imms (l.take x.1) x.2.2.1) (fun x=>l.length-x.1))
def Ec(xs:Y14)(h:Heap)(K:KT):Prop:=match xs with
 | [.vslice none 0 n1 3 c1,.agg [.int .i64 v,.int .i64 op,.int .i64 im,.int .i64 iv,.vslice none 0 n2 5 c2],.vslice none 0 n3 1 c3,.vslice none 0 n4 1 c4]=> ∃(l:Y15)(ks:List T)(g imms:Y12),(n1=l.length/\c1=l.flatMap cN)/\(n2=ks.length/\c2=cQ ks)/\(n3=g.length/\c3=g.map (IV.int .i64))/\(n4=imms.length/\c4=imms.map (IV.int .i64))/\
  ((l≠[]/\(∀x∈l,lV x)/\l.length<=1000000/\∀x∈l,x.ks.length<=1000000)/\((T.mk v op im iv ks).ok/\(T.mk v op im iv ks).num<=1000000)/\((∀x∈g,aU x)/\g.length<=1000)/\(∀x∈imms,aU x)/\imms.length<=1000)/\
  K (.tuple [.vslice none 0 ((mH l (T.mk v op im iv ks) g imms).1).length 3 (((mH l (T.mk v op im iv ks) g imms).1).flatMap cN),.int .i64 (mH l (T.mk v op im iv ks) g imms).2]) h
 |_=>False
def b7K(l:Y15):=TV.v (.vslice none 0 l.length 3 (List.flatMap cN l))
def b7L(v op im iv:Int)(ks:List T):=[iI v,iI op,iI im,iI iv,IV.vslice none 0 ks.length 5 (cQ ks)]
def b7R:=IV.int .i64
def b7M(g:Y12):=TV.v (.vslice none 0 g.length 1 (List.map b7R g))
def b7N(imms:Y12):=TV.v (.vslice none 0 imms.length 1 (List.map b7R imms))
def b7O(l:Y15):=TV.v (.int .i64 (l.length:Int))
def b7Q:=TV.v (.ptr 1 0)
def b7P:=TV.l 5 0
abbrev c3W(j imms:Y12)(l:Y15)(g:Nat×Heap):=g.1<=l.length/\IZ g.2 1 0 j imms (List.take g.1 l)
def b7S:=TV.l 12 0
def c4J(g:Nat×Heap):=TV.v (.int .i64 (g.1:Int))
def c6K:=IObj.tip 3
def d5G(M:Nat)(im iv op v:Int)(imms g:Y12)(ks:List T)(l:Y15)(x:Nat×Heap)(m:Y14)(p:Heap):Prop:= ∃(j:Nat×Heap×Nd),some (b7K l)=some (b7K l)/\some (b7M g)=some (b7M g)/\some (b7N imms)=some (b7N imms)/\some b7P=some b7P/\some b7Q=some b7Q/\some (b7K l)=some (b7K l)/\some (b7O l)=some (b7O l)/\tI (x.1:Int)=tI (j.1:Int)/\tI (↑x.1
 :Int)=tI (j.1:Int)/\some b7S=some b7S/\some (b7L v op im iv ks)=some (b7L v op im iv ks)/\some (m)=some [iI (Nd.op j.2.2),iI (Nd.im j.2.2),IV.nilslice]/\p=j.2.1/\((l[j.1]?=some j.2.2/\Nd.ks j.2.2=[])/\IZ j.2.1 1 0 g imms (List.take j.1
 l))/\l.length-j.1<=M
def d5H(M:Nat)(im iv op v:Int)(imms j:Y12)(ks:List T)(l:Y15)(x:Nat×Heap)(m:Y14)(p:Heap):Prop:= ∃(g:Nat×Heap×Nd×Nat×Nat),some (b7K l)=some (b7K l)/\some (b7M j)=some (b7M j)/\some (b7N imms)=some (b7N imms)/\some b7P=some b7P/\some b7Q=some b7Q/\some (b7K l)=some (b7K l)/\some (b7O l)=some (b7O l)/\tI (x.1:Int)=tI (↑g.1:
 Int)/\tI (x.1:Int)=tI (g.1:Int)/\some b7S=some b7S/\some (b7L v op im iv ks)=some (b7L v op im iv ks)/\some (m)=some [iI (Nd.op g.2.2.1),iI (Nd.im g.2.2.1),IV.vslice (some g.2.2.2.1) g.2.2.2.2 ((Nd.ks g.2.2.1).length) 1 (List.map b7R (Nd.ks g.2.2.1))]/\p=
 g.2.1/\(l[g.1]?=some g.2.2.1/\IZ g.2.1 1 0 j imms (List.take g.1 l))/\l.length-g.1<=M
theorem c2C(v op im iv:Int)(ks:List T)(g imms:Y12)(l:Y15)(h:Heap)(Q:KT):dF (aR a4E) env 141 cS (oE 4 (b8Y v op im iv ks g imms l)) (vC 1000007 (d6D v op im iv ks g imms l) (oE 1000008 (d6E v op im iv ks g imms l))) [.vslice none 0 (l).length 3 ((l).flatMap cN),.agg [.int .i64 v,.int .i64 op,.int .i64 im,.int .i64 iv,.vslice none 0 ks.length 5 (cQ ks)],.vslice none 0 (g).length 1 ((g).map (IV.int .i64)),.vslice none 0 (imms).length 1 ((imms).map (IV.int .i64))] h Q=(
 aC (aP [IV.vslice none 0 l.length 3 (List.flatMap cN l),IV.agg (b7L v op im iv ks),IV.vslice none 0 g.length 1 (List.map b7R g),IV.vslice none 0 imms.length 1 (List.map b7R imms)]) ((∃(x:Nat×Heap),some (b7K l)=some (b7K l)/\some (b7M g)=some (b7M g)/\some (b7N imms)=some (b7N imms)/\some b7P=some b7P/\some (TV.v (.ptr ((0:Nat)+1) 0))=some b7Q/\some (b7K l)=some (b7K l)/\some (b7O l)=some (b7O l)/\tI 0=tI (x.1:Int)/\some (b7L v op im iv ks)=some (b7L v op im iv ks)/\Heap.mk (PT.node (PT.node PT.nil (some (IObj.cells [IV.nilslice,IV.map 0,IV.vslice none 0 g.length 1 (List.map b7R g),IV.vslice none 0 imms.length 1 (List.map b7R imms)])) PT.nil) (some (IObj.map [])) PT.nil) ((0:Nat)+1+1)=x.2/\(x.1<=l.length/\IZ x.2 1 0 g imms (List.take x.1 l))/\True)/\∀(x:Nat×Heap)(b:FF),x.1<=l.length/\IZ x.2 1 0 g imms (List.take x.1 l)->aI (decide ((x.1:Int)< (l.length:Int))) (aC (decide (0<=(x.1:Int)) &&decide ((x.1:Int)< (l.length:Int))) (aG .i64 (List.flatMap cN l) ((x.1:Int).toNat*3) fun n0=>aG .i64 (List.flatMap cN l) ((x.1:Int).toNat*3+1) fun n1=>aZ 1 (List.flatMap cN l) ((x.1:Int).toNat*3+1+1) fun(i2:Y10)(e3 G:Nat)(c5:Y14)=> ∃(M:Nat),aI (Nat.beq G 0) ((d5G M im iv op v imms g ks l x [iI n0,iI n1,IV.nilslice] x.2) \/d5H M im iv op v imms g ks l x [iI n0,iI n1,IV.nilslice] x.2) (aC (Nat.ble (G*8) 140737488355328) ((d5G M im iv op v imms g ks l x [iI n0,iI n1,IV.vslice (some (x.2.next)) (G*1) G 1 c5] (x.2.push (IObj.tip (G*1)))) \/d5H M im iv op v imms g ks l x [iI n0,iI n1,IV.vslice (some (x.2.next)) (G*1) G 1 c5] (x.2.push (IObj.tip (G*1)))))/\(∀(j:Nat×Heap×Nd)(b:FF),(l[j.1]?=some j.2.2/\Nd.ks ((j.2).2)=[])/\IZ j.2.1 1 0 g imms (List.take j.1 l)->l.length-j.1<=M-> ∃(M:Nat),(aJ j.2.1 1 fun r6=>vE 3 r6 0 (aJ (j.2.1.push c6K) 1 fun r7=>aC (Nat.ble 1 r7.length) ((∃(x:Nat×Heap×Nd),some (b7K l)=some (b7K l)/\some (b7M g)=some (b7M g)/\some (b7N imms)=some (b7N imms)/\some b7P=some b7P/\some b7Q=some b7Q/\some (b7K l)=some (b7K l)/\some (b7O l)=some (b7O l)/\tI (j.1:Int)=tI (x.1:Int)/\tI (j.1:Int)=tI (x.1:Int)/\some b7S=some b7S/\some (b7L v op im iv ks)=some (b7L v op im iv ks)/\some [iI (Nd.op j.2.2),iI (Nd.im j.2.2),IV.nilslice]=some [iI (Nd.op x.2.2),iI (Nd.im x.2.2),IV.nilslice]/\Heap.set (j.2.1.push c6K) 1 (IObj.cells (IV.vslice (some (j.2.1.next)) 3 1 3 [iI (Nd.op j.2.2),iI (Nd.im j.2.2),IV.vslice none 0 0 1 []]::List.drop 1 r7))=x.2.1/\((l[x.1]?=some x.2.2/\Nd.ks x.2.2=[])/\IP x.2.1 1 0 g imms (List.take x.1 l) x.2.2)/\l.length-x.1<=M) \/ ∃(x:Nat×Heap×Nd×Nat×Nat),some (b7K l)=some (b7K l)/\some (b7M g)=some (b7M g)/\some (b7N imms)=some (b7N imms)/\some b7P=some b7P/\some b7Q=some b7Q/\some (b7K l)=some (b7K l)/\some (b7O l)=some (b7O l)/\tI ((j.1):Int)=tI (x.1:Int)/\tI (j.1:Int)=tI (x.1:Int)/\some b7S=some b7S/\some (b7L v op im iv ks)=some (b7L v op im iv ks)/\some [iI (Nd.op j.2.2),iI (Nd.im j.2.2),IV.nilslice]=some [iI (Nd.op x.2.2.1),iI (Nd.im x.2.2.1),IV.vslice (some x.2.2.2.1) (x.2.2.2.2) ((Nd.ks x.2.2.1).length) 1 (List.map b7R (Nd.ks x.2.2.1))]/\Heap.set (j.2.1.push c6K) 1 (IObj.cells (IV.vslice (some (j.2.1.next)) 3 1 3 [iI (Nd.op j.2.2),iI (Nd.im j.2.2),IV.vslice none 0 0 1 []]::List.drop 1 r7))=x.2.1/\(l[x.1]?=some x.2.2.1/\IP (x.2.1) 1 0 g imms (List.take x.1 l) x.2.2.1)/\l.length-x.1<=M)) fun(X V K:Nat)(Y:Y14)=>cF j.2.1 X fun(b9:Nat)=>aC (Nat.beq b9 V&&Nat.ble ((K+1)*40) 140737488355328) (aJ (j.2.1.set X (IObj.tip (V+3))) 1 fun W9=>aC (Nat.ble 1 W9.length) ((∃(x:Nat×Heap×Nd),some (b7K l)=some (b7K l)/\some (b7M g)=some (b7M g)/\some (b7N imms)=some (b7N imms)/\some b7P=some b7P/\some b7Q=some b7Q/\some (b7K l)=some (b7K l)/\some (b7O l)=some (b7O l)/\tI (j.1:Int)=tI (x.1:Int)/\tI (j.1:Int)=tI (x.1:Int)/\some b7S=some b7S/\some (b7L v op im iv ks)=some (b7L v op im iv ks)/\some [iI (Nd.op j.2.2),iI (Nd.im j.2.2),IV.nilslice]=some [iI (Nd.op x.2.2),iI (Nd.im x.2.2),IV.nilslice]/\Heap.set (j.2.1.set X (IObj.tip (V+3))) 1 (IObj.cells (IV.vslice (some X) (V+3) (K+1) 3 (Y++ [iI (Nd.op (j.2.2)),iI (Nd.im j.2.2),IV.vslice none 0 0 1 []])::List.drop 1 W9))=x.2.1/\((l[x.1]?=some x.2.2/\Nd.ks x.2.2=[])/\IP x.2.1 1 0 g imms (List.take x.1 l) x.2.2)/\l.length-x.1<=M) \/ ∃(x:Nat×Heap×Nd×Nat×Nat),some (b7K l)=some (b7K l)/\some (b7M g)=some (b7M g)/\some (b7N imms)=some (b7N imms)/\some b7P=some b7P/\some b7Q=some b7Q/\some (b7K l)=some (b7K l)/\some (b7O l)=some (b7O l)/\tI (j.1:Int)=tI (x.1:Int)/\tI (j.1:Int)=tI (x.1:Int)/\some b7S=some b7S/\some (b7L v op im iv ks)=some (b7L v op im iv ks)/\some [iI (Nd.op j.2.2),iI (Nd.im j.2.2),IV.nilslice]=some [iI (Nd.op x.2.2.1),iI (Nd.im x.2.2.1),IV.vslice (some x.2.2.2.1) x.2.2.2.2 ((Nd.ks x.2.2.1).length) 1 (List.map b7R (Nd.ks x.2.2.1))]/\Heap.set (j.2.1.set X (IObj.tip (V+3))) 1 (IObj.cells (IV.vslice (some X) (V+3) (K+1) 3 (Y++ [iI (Nd.op j.2.2),iI (Nd.im j.2.2),IV.vslice none 0 0 1 []])::List.drop 1 W9))=x.2.1/\(l[x.1]?=some x.2.2.1/\IP x.2.1 1 0 g imms (List.take x.1 l) x.2.2.1)/\l.length-x.1<=M)))/\(∀(p:Nat×Heap×Nd)(b:FF),(l[p.1]?=some p.2.2/\Nd.ks p.2.2=[])/\IP p.2.1 1 0 g imms (List.take p.1 l) p.2.2->l.length-p.1<=M->aJ p.2.1 1 fun Gp=>oZ Gp 1 fun(b4:Nat)=> ∃(y:Y12),((0:Nat)=y.length/\[]=List.map b7R y)/\y.length<=1000000000/\∀(s:Y11),oX (Nd.mk (Nd.op p.2.2) (Nd.im p.2.2) y) s->gC p.2.1 b4 TypeDesc.string (IV.str s) (fun Rs=>aG .i64 Rs 0 fun d8=> ∃(r:Nat×Heap),some (b7K l)=some (b7K l)/\some (b7M g)=some (b7M g)/\some (b7N imms)=some (b7N imms)/\some b7P=some b7P/\some b7Q=some b7Q/\some (b7K l)=some (b7K l)/\some (b7O l)=some (b7O l)/\tI (wW ((p.1:Int)+1))=some (c4J r)/\some (b7L v op im iv ks)=some (b7L v op im iv ks)/\p.2.1=r.2/\(c3W g imms l r)/\l.length-r.1<l.length-x.1) (aJ p.2.1 1 fun Gq=>oZ Gq 1 fun(a7:Nat)=> ∃(q:Y12),((0:Nat)=q.length/\[]=List.map b7R q)/\q.length<=(1000000000:Nat)/\∀(s:Y11),oX (Nd.mk (Nd.op p.2.2) (Nd.im p.2.2) q) s->lU p.2.1 a7 TypeDesc.string (IV.str s) (iI (p.1:Int)) fun(a3:List (IV×IV))=> ∃(r:Nat×Heap),some (b7K l)=some (b7K l)/\some (b7M g)=some (b7M g)/\some (b7N imms)=some (b7N imms)/\some b7P=some b7P/\some b7Q=some b7Q/\some (b7K l)=some (b7K l)/\some (b7O l)=some (b7O l)/\tI (wW ((p.1:Int)+(1:Int)))=some (c4J r)/\some (b7L v op im iv ks)=some (b7L v op im iv ks)/\Heap.set p.2.1 a7 (IObj.map a3)=r.2/\(c3W g imms l r)/\l.length-r.1<l.length-x.1))/\∀(p:Nat×Heap×Nd×Nat×Nat)(b:FF),l[p.1]?=some p.2.2.1/\IP p.2.1 1 0 g imms (List.take p.1 l) p.2.2.1->l.length-p.1<=M->aJ p.2.1 1 fun gT=>oZ gT 1 fun(b5:Nat)=> ∃(y:Y12),((Nd.ks p.2.2.1).length=y.length/\List.map b7R (Nd.ks p.2.2.1)=List.map b7R y)/\y.length<=1000000000/\∀(s:Y11),oX (Nd.mk (Nd.op (((p.2).2).1)) (Nd.im p.2.2.1) y) s->gC p.2.1 b5 TypeDesc.string (IV.str s) (fun r23=>aG .i64 r23 0 fun d9=> ∃(r:Nat×Heap),some (b7K l)=some (b7K l)/\some (b7M g)=some (b7M g)/\some (b7N imms)=some (b7N imms)/\some b7P=some b7P/\some b7Q=some b7Q/\some (b7K l)=some (b7K l)/\some (b7O l)=some (b7O l)/\tI (wW ((p.1:Int)+1))=some (c4J r)/\some (b7L v op im iv ks)=some (b7L v op im iv ks)/\p.2.1=r.2/\(c3W g imms l r)/\l.length-r.1<l.length-x.1) (aJ p.2.1 1 fun r25=>oZ r25 1 fun(a8:Nat)=> ∃(q:Y12),((Nd.ks p.2.2.1).length=q.length/\List.map b7R (Nd.ks p.2.2.1)=List.map b7R q)/\q.length<=1000000000/\∀(s:Y11),oX (Nd.mk (Nd.op p.2.2.1) (Nd.im p.2.2.1) q) s->lU p.2.1 a8 TypeDesc.string (IV.str s) (iI (p.1:Int)) fun(a4:List (IV×IV))=> ∃(r:Nat×Heap),some (b7K l)=some (b7K l)/\some (b7M g)=some (b7M g)/\some (b7N imms)=some (b7N imms)/\some b7P=some b7P/\some b7Q=some b7Q/\some (b7K l)=some (b7K l)/\some (b7O l)=some (b7O l)/\tI (wW ((p.1:Int)+1))=some (c4J r)/\some (b7L v op im iv ks)=some (b7L v op im iv ks)/\Heap.set ((p.2).1) a8 (IObj.map a4)=r.2/\(c3W g imms l r)/\l.length-r.1<l.length-x.1))/\∀(j:Nat×Heap×Nd×Nat×Nat)(b:FF),l[j.1]?=some j.2.2.1/\IZ j.2.1 1 0 g imms (List.take j.1 l)->l.length-j.1<=M-> ∃(M:Nat),(aJ j.2.1 1 fun c1=>vE 3 c1 0 (aJ (j.2.1.push c6K) 1 fun O=>aC (Nat.ble 1 O.length) ((∃(x:Nat×Heap×Nd),some (b7K l)=some (b7K l)/\some (b7M g)=some (b7M g)/\some (b7N imms)=some (b7N imms)/\some b7P=some b7P/\some b7Q=some b7Q/\some (b7K l)=some (b7K l)/\some (b7O l)=some (b7O l)/\tI ((j.1):Int)=tI (x.1:Int)/\tI (j.1:Int)=tI (x.1:Int)/\some b7S=some b7S/\some (b7L v op im iv ks)=some (b7L v op im iv ks)/\some [iI (Nd.op j.2.2.1),iI (Nd.im j.2.2.1),IV.vslice (some j.2.2.2.1) j.2.2.2.2 ((Nd.ks j.2.2.1).length) 1 (List.map b7R (Nd.ks j.2.2.1))]=some [iI (Nd.op x.2.2),iI (Nd.im x.2.2),IV.nilslice]/\Heap.set (j.2.1.push c6K) 1 (IObj.cells (IV.vslice (some (j.2.1.next)) 3 1 3 [iI (Nd.op j.2.2.1),iI (Nd.im j.2.2.1),IV.vslice none 0 ((Nd.ks j.2.2.1).length) 1 (List.map b7R (Nd.ks (((j.2).2).1)))]::List.drop 1 O))=x.2.1/\((l[x.1]?=some x.2.2/\Nd.ks x.2.2=[])/\IP x.2.1 1 0 g imms (List.take x.1 l) x.2.2)/\l.length-x.1<=M) \/ ∃(x:Nat×Heap×Nd×Nat×Nat),some (b7K l)=some (b7K l)/\some (b7M g)=some (b7M g)/\some (b7N imms)=some (b7N imms)/\some b7P=some b7P/\some b7Q=some b7Q/\some (b7K l)=some (b7K l)/\some (b7O l)=some (b7O l)/\tI ((j.1):Int)=tI (x.1:Int)/\tI (j.1:Int)=tI (x.1:Int)/\some b7S=some b7S/\some (b7L v op im iv ks)=some (b7L v op im iv ks)/\some [iI (Nd.op j.2.2.1),iI (Nd.im j.2.2.1),IV.vslice (some j.2.2.2.1) j.2.2.2.2 ((Nd.ks j.2.2.1).length) 1 (List.map b7R (Nd.ks j.2.2.1))]=some [iI (Nd.op x.2.2.1),iI (Nd.im x.2.2.1),IV.vslice (some x.2.2.2.1) x.2.2.2.2 ((Nd.ks x.2.2.1).length) 1 (List.map b7R (Nd.ks x.2.2.1))]/\Heap.set (j.2.1.push c6K) 1 (IObj.cells (IV.vslice (some (j.2.1.next)) 3 1 3 [iI (Nd.op j.2.2.1),iI (Nd.im j.2.2.1),IV.vslice none 0 ((Nd.ks j.2.2.1).length) 1 (List.map b7R (Nd.ks j.2.2.1))]::List.drop 1 O))=x.2.1/\(l[x.1]?=some x.2.2.1/\IP x.2.1 1 0 g imms (List.take x.1 l) x.2.2.1)/\l.length-x.1<=M)) fun(D A L:Nat)(Z:Y14)=>cF j.2.1 D fun(c0:Nat)=>aC (Nat.beq c0 A&&Nat.ble ((L+1)*40) 140737488355328) (aJ (j.2.1.set D (IObj.tip (A+3))) 1 fun R=>aC (Nat.ble 1 R.length) ((∃(x:Nat×Heap×Nd),some (b7K l)=some (b7K l)/\some (b7M g)=some (b7M g)/\some (b7N imms)=some (b7N imms)/\some b7P=some b7P/\some b7Q=some b7Q/\some (b7K l)=some (b7K l)/\some (b7O l)=some (b7O l)/\tI (j.1:Int)=tI (x.1:Int)/\tI (j.1:Int)=tI (x.1:Int)/\some b7S=some b7S/\some (b7L v op im iv ks)=some (b7L v op im iv ks)/\some [iI (Nd.op j.2.2.1),iI (Nd.im j.2.2.1),IV.vslice (some j.2.2.2.1) j.2.2.2.2 ((Nd.ks j.2.2.1).length) 1 (List.map b7R (Nd.ks j.2.2.1))]=some [iI (Nd.op x.2.2),iI (Nd.im x.2.2),IV.nilslice]/\Heap.set (j.2.1.set D (IObj.tip (A+3))) 1 (IObj.cells (IV.vslice (some D) (A+3) (L+1) 3 (Z++ [iI (Nd.op j.2.2.1),iI (Nd.im j.2.2.1),IV.vslice none 0 ((Nd.ks j.2.2.1).length) 1 (List.map b7R (Nd.ks j.2.2.1))])::List.drop 1 R))=x.2.1/\((l[x.1]?=some x.2.2/\Nd.ks x.2.2=[])/\IP x.2.1 1 0 g imms (List.take x.1 l) x.2.2)/\l.length-x.1<=M) \/ ∃(x:Nat×Heap×Nd×Nat×Nat),some (b7K l)=some (b7K l)/\some (b7M g)=some (b7M g)/\some (b7N imms)=some (b7N imms)/\some b7P=some b7P/\some b7Q=some b7Q/\some (b7K l)=some (b7K l)/\some (b7O l)=some (b7O l)/\tI (j.1:Int)=tI (x.1:Int)/\tI (j.1:Int)=tI (x.1:Int)/\some b7S=some b7S/\some (b7L v op im iv ks)=some (b7L v op im iv ks)/\some [iI (Nd.op ((j.2.2).1)),iI (Nd.im j.2.2.1),IV.vslice (some j.2.2.2.1) j.2.2.2.2 ((Nd.ks j.2.2.1).length) 1 (List.map b7R (Nd.ks ((j.2.2).1)))]=some [iI (Nd.op x.2.2.1),iI (Nd.im x.2.2.1),IV.vslice (some x.2.2.2.1) x.2.2.2.2 ((Nd.ks ((x.2.2).1)).length) 1 (List.map b7R (Nd.ks x.2.2.1))]/\Heap.set (j.2.1.set D (IObj.tip (A+3))) 1 (IObj.cells (IV.vslice (some D) (A+3) (L+1) 3 (Z++ [iI (Nd.op (j.2.2.1)),iI (Nd.im j.2.2.1),IV.vslice none 0 ((Nd.ks j.2.2.1).length) 1 (List.map b7R (Nd.ks j.2.2.1))])::List.drop 1 R))=(x.2).1/\(l[x.1]?=some x.2.2.1/\IP x.2.1 1 0 g imms (List.take x.1 l) x.2.2.1)/\l.length-x.1<=M)))/\(∀(p:Nat×Heap×Nd)(b:FF),(l[p.1]?=some ((p.2).2)/\Nd.ks p.2.2=[])/\IP p.2.1 1 0 g imms (List.take p.1 l) p.2.2->l.length-p.1<=M->aJ p.2.1 1 fun c2=>oZ c2 1 fun(b6:Nat)=> ∃(y:Y12),((0:Nat)=y.length/\[]=List.map b7R y)/\y.length<=1000000000/\∀(s:Y11),oX (Nd.mk (Nd.op p.2.2) (Nd.im p.2.2) y) s->gC p.2.1 b6 TypeDesc.string (IV.str s) (fun(c3:Y14)=>aG .i64 c3 0 fun e1=> ∃(r:Nat×Heap),some (b7K l)=some (b7K l)/\some (b7M g)=some (b7M g)/\some (b7N imms)=some (b7N imms)/\some b7P=some b7P/\some b7Q=some b7Q/\some (b7K l)=some (b7K l)/\some (b7O l)=some (b7O l)/\tI (wW ((p.1:Int)+1))=some (c4J r)/\some (b7L v op im iv ks)=some (b7L v op im iv ks)/\p.2.1=r.2/\(c3W g imms l r)/\l.length-r.1<l.length-x.1) (aJ p.2.1 1 fun c4=>oZ c4 1 fun(a9:Nat)=> ∃(q:Y12),((0:Nat)=q.length/\[]=List.map b7R q)/\q.length<=1000000000/\∀(s:Y11),oX (Nd.mk (Nd.op p.2.2) (Nd.im p.2.2) q) s->lU p.2.1 a9 TypeDesc.string (IV.str s) (iI (p.1:Int)) fun(a5:List (IV×IV))=> ∃(r:Nat×Heap),some (b7K l)=some (b7K l)/\some (b7M g)=some (b7M g)/\some (b7N imms)=some (b7N imms)/\some b7P=some b7P/\some b7Q=some b7Q/\some (b7K l)=some (b7K l)/\some (b7O l)=some (b7O l)/\tI (wW ((p.1:Int)+1))=some (c4J r)/\some (b7L v op im iv ks)=some (b7L v op im iv ks)/\Heap.set p.2.1 a9 (IObj.map a5)=r.2/\(c3W g imms l r)/\l.length-r.1<l.length-x.1))/\∀(p:Nat×Heap×Nd×Nat×Nat)(b:FF),l[p.1]?=some p.2.2.1/\IP ((p.2).1) 1 0 g imms (List.take p.1 l) p.2.2.1->l.length-p.1<=M->aJ p.2.1 1 fun c6=>oZ c6 1 fun(b7:Nat)=> ∃(y:Y12),((Nd.ks ((p.2.2).1)).length=y.length/\List.map b7R (Nd.ks p.2.2.1)=List.map b7R y)/\y.length<=1000000000/\∀(s:Y11),oX (Nd.mk (Nd.op p.2.2.1) (Nd.im p.2.2.1) y) s->gC p.2.1 b7 TypeDesc.string (IV.str s) (fun c7=>aG .i64 c7 0 fun e2=> ∃(r:Nat×Heap),some (b7K l)=some (b7K l)/\some (b7M g)=some (b7M g)/\some (b7N imms)=some (b7N imms)/\some b7P=some b7P/\some b7Q=some b7Q/\some (b7K l)=some (b7K l)/\some (b7O l)=some (b7O l)/\tI (wW ((p.1:Int)+1))=some (c4J r)/\some (b7L v op im iv ks)=some (b7L v op im iv ks)/\p.2.1=r.2/\(c3W g imms l r)/\l.length-r.1<l.length-x.1) (aJ p.2.1 1 fun c8=>oZ c8 1 fun(b0:Nat)=> ∃(q:Y12),((Nd.ks p.2.2.1).length=q.length/\List.map b7R (Nd.ks p.2.2.1)=List.map b7R q)/\q.length<=1000000000/\∀(s:Y11),oX (Nd.mk (Nd.op p.2.2.1) (Nd.im p.2.2.1) q) s->lU p.2.1 b0 TypeDesc.string (IV.str s) (iI (p.1:Int)) fun(a6:List (IV×IV))=> ∃(r:Nat×Heap),some (b7K l)=some (b7K l)/\some (b7M g)=some (b7M g)/\some (b7N imms)=some (b7N imms)/\some b7P=some b7P/\some b7Q=some b7Q/\some (b7K l)=some (b7K l)/\some (b7O l)=some (b7O l)/\tI (wW ((p.1:Int)+1))=some (c4J r)/\some (b7L v op im iv ks)=some (b7L v op im iv ks)/\Heap.set p.2.1 b0 (IObj.map a6)=r.2/\(c3W g imms l r)/\l.length-r.1<l.length-x.1))) (∃(y:List T),(ks.length=y.length/\cQ ks=cQ y)/\(nS y/\y.length<=1000000000000000)/\aI (!Kv (T.mk v op im iv y) (g.length:Int) (imms.length:Int)) (aJ x.2 1 fun c9=>aZ 3 c9 0 fun(d5:Y10)(d2 b1:Nat)(a0:Y14)=>aC (aP [IV.vslice none 0 b1 3 a0,iI (-1)]) (Q (.tuple [.vslice none 0 b1 3 a0,iI (-1:Int)]) h)) (∃(z:Y12),(g.length=z.length/\List.map b7R g=List.map b7R z)/\z.length<=1000000000/\aI (!List.all z fun i=>decide (0<=i) &&decide (i< (l.length:Int))) (aJ x.2 1 fun d0=>aZ 3 d0 0 fun(d6:Y10)(d3 b2:Nat)(a1:Y14)=>aC (aP [IV.vslice none 0 b2 3 a1,iI (-1)]) (Q (.tuple [.vslice none 0 b2 3 a1,iI (-1)]) h)) (∃(d:Nat)(q:List T)(m iL:Nat)(g imms:Y12)(l:Y15),(ks.length=q.length/\cQ ks=cQ q)/\IS x.2 1 m iL g imms l/\(T.num (T.mk v op im iv q)<=d/\T.wi (T.mk v op im iv q) (g.length:Int) (imms.length:Int)/\T.ok (T.mk v op im iv q))/\((∀(x:Int),x∈g->aU x)/\(∀(x:Int),x∈imms->aU x)/\(∀(x:Nd),x∈l->lV x)/\l.length+T.num (T.mk v op im iv q)<=1000000000/\g.length<=1000/\imms.length<=1000)/\∀(h2:Heap),IS h2 1 m iL g imms ((cB (T.mk v op im iv q) g imms l).1)->sK 1 m iL x.2 h2->aJ h2 1 fun d1=>aZ 3 d1 0 fun(d7:Y10)(d4 b3:Nat)(a2:Y14)=>aC (aP [IV.vslice none 0 b3 3 a2,iI ((cB (T.mk v op im iv q) g imms l).2)]) (Q (.tuple [.vslice none 0 b3 3 a2,iI ((cB (T.mk v op im iv q) g imms l).2)]) h)))))):=by kernel_rfl
theorem c0U: ∀xs h Q,Ec xs h Q->aL env 141 xs h Q:=by
 intro xs h Q hk;unfold Ec at hk;split at hk
 ·rename_i n1 c1 v op im iv n2 c2 n3 c3 n4 c4;obtain⟨l,ks,L,imms,⟨rfl,rfl⟩,⟨rfl,rfl⟩,⟨rfl,rfl⟩,⟨rfl,rfl⟩,hb,hk⟩:=hk;refine aN (b9X) (c2C v op im iv ks L imms l h Q) ?_;delta d5G d5H b7K b7L b7M b7N b7O b7Q b7P c3W b7R b7S c4J c6K tI wW iI;have tn: ∀x:Nat,(x:Int).toNat=x:=AK
  obtain⟨⟨b6,R,d1,a0⟩,⟨a8,b7⟩,⟨hv,c5⟩,a6,b5⟩:=hb;have a3:(T.mk v op im iv ks).num=jY ks+1:=rfl;have c6:=xQ ks;rw [a3]at b7;have a9: ∀{i:Nat}(h:i<l.length),l[i]?=some l[i]:=fun h=>AA h
  have tk: ∀{i:Nat}(h:i<l.length),l.take i++ [l[i]]=l.take (i+1):=fun h=>(AZ h).symm
  have A: ∀i,∀x∈l.take i,lV x:=fun i x hx=>R x (FK hx)
  refine aA (by simp only [aP,bG,bC,mV,bR,AL]) ⟨⟨(0,_),rfl,rfl,rfl,rfl,rfl,rfl,rfl,rfl,rfl,rfl,⟨BE _,.inl ⟨List.take_zero,⟨AV _,BY (AV _),JG⟩,rfl,rfl⟩⟩,trivial⟩,?_⟩;rintro⟨i,g⟩ _ ⟨hi,hz⟩;dsimp only at hi hz⊢;refine aB (fun c=>?_) (fun c=>?_)
  ·rw [decide_eq_true_eq]at c;have m:i<l.length:=JF;have X:=R _ (AH m);have a2:=a0 _ (AH m);simp only [tn];refine aA (by simp;omega) (pK m rfl ⟨l.length-i,aB (fun c1=> .inl ⟨(i,g,l[i]),JJ,JJ,JJ,JJ,JJ,JJ,JJ,JJ,JJ,JJ,JJ,JJ,JJ,⟨⟨a9 m,?_⟩,hz⟩,AG _⟩) (fun c1=>aA (by rw [AS];omega) (.inr ⟨(i,g.push (.tip (l[i].ks.length*1)),l[i],g.next,l[i].ks.length*1),JJ,JJ,JJ,JJ,JJ,JJ,JJ,JJ,JJ,JJ,JJ,JJ,JJ,⟨a9 m,hz.push⟩,AG _⟩)),?_,?_⟩)
   ·exact CS (bL.1 c1)
   ·rintro⟨i,g,n⟩ _ ⟨⟨y,D⟩,hz⟩ a4;dsimp only at y D hz a4⊢;obtain⟨m,rfl⟩:=AP.1 y;have X:=R _ (AH m);have a2:=a0 _ (AH m);have V:(l.take i).length=i:=by rw [AR];omega
    refine⟨l.length-i,?_,?_,?_⟩
    ·rcases hz with⟨h0,⟨b1,b2,b3⟩,h1,h2⟩| ⟨iL,O⟩
     ·have z:=IZ.toP b1 b2 b3 h1 h2 l[i];rw [<-h0]at z;have eC:cN l[i]=[.int .i64 l[i].op,.int .i64 l[i].im,.vslice none 0 0 1 []]:=by unfold cN;rw [D];rfl
      rw [eC]at z;refine aD h1 (In rfl (aD (by rw [aQ b1,h1]) (aA rfl (.inl ⟨(i,_,l[i]),JJ,JJ,JJ,JJ,JJ,JJ,JJ,JJ,JJ,JJ,JJ,JJ,JJ,⟨⟨y,D⟩,z⟩,AG _⟩))))
     ·have z:=O.toP l[i];have a5:=O.ne;have Z:=O;obtain⟨b,h1,h2,h3⟩:=Z;have eC:cN l[i]=[.int .i64 l[i].op,.int .i64 l[i].im,.vslice none 0 0 1 []]:=by unfold cN;rw [D];rfl
      rw [eC]at z;refine aD h1 (Ff rfl (aS h2 (aA (by simp only [AD,bL,AS,true_and];omega) (aD (by rw [aH a5.2.1,h1]) (aA rfl (.inl ⟨(i,_,l[i]),JJ,JJ,JJ,JJ,JJ,JJ,JJ,JJ,JJ,JJ,JJ,JJ,JJ,⟨⟨y,D⟩,z⟩,AG _⟩))))))
    ·rintro⟨i,g,n⟩ _ ⟨⟨y,D⟩,z⟩ Y;dsimp only at y z Y D⊢;obtain⟨m,rfl⟩:=AP.1 y;have X:=R _ (AH m);have a2:=a0 _ (AH m);have V:(l.take i).length=i:=by rw [AR];omega
     have p:=lT X (A i);have a1:=z;obtain⟨iL,b,h1,h2,h3⟩:=a1;have eN:(⟨l[i].op,l[i].im,([]:Y12)⟩:Nd)=l[i]:=by(show(⟨l[i].op,l[i].im,[]⟩:Nd)=l[i];rw [<-D])
     refine aD h1 (iP rfl ⟨([]:Y12),⟨JH,JH⟩,JH,fun s K=>?_⟩);unfold oX at K;subst K;rw [eN]
     cases e:oV l[i] (l.take i) 0 with
     |some j=>
      rw [e]at p;have G:=z.found X (A i) e;rw [tk m]at G;exact fU h3 (by rw [iD,p];rfl) (bB rfl ⟨(i+1,g),JJ,JJ,JJ,JJ,JJ,JJ,JJ,by rw [AF _ JF];rfl,JJ,JJ,⟨m,G⟩,by(try dsimp only);omega⟩)
     |none=>
      rw [e]at p;have G:=z.new X (A i) e;rw [tk m,V]at G;refine fT h3 (by rw [iD,p];rfl) (aD h1 (iP rfl ⟨([]:Y12),⟨JH,JH⟩,JH,fun s K=>?_⟩));unfold oX at K;subst K;rw [eN];exact eX h3 (wO _ _ _ (by rw [p];rfl)) ⟨(i+1,_),JJ,JJ,JJ,JJ,JJ,JJ,JJ,by rw [AF _ JF];rfl,JJ,JJ,⟨m,G⟩,by(try dsimp only);omega⟩
    ·rintro⟨i,g,n,j2,e2⟩ _ ⟨y,z⟩ Y;dsimp only at y z Y⊢;obtain⟨m,rfl⟩:=AP.1 y;have X:=R _ (AH m);have a2:=a0 _ (AH m);have V:(l.take i).length=i:=by rw [AR];omega
     have p:=lT X (A i);have a1:=z;obtain⟨iL,b,h1,h2,h3⟩:=a1;have eN:(⟨l[i].op,l[i].im,l[i].ks⟩:Nd)=l[i]:=JJ
     refine aD h1 (iP rfl ⟨l[i].ks,⟨JH,JH⟩,JF,fun s K=>?_⟩);unfold oX at K;subst K;rw [eN]
     cases e:oV l[i] (l.take i) 0 with
     |some j=>
      rw [e]at p;have G:=z.found X (A i) e;rw [tk m]at G;exact fU h3 (by rw [iD,p];rfl) (bB rfl ⟨(i+1,g),JJ,JJ,JJ,JJ,JJ,JJ,JJ,by rw [AF _ JF];rfl,JJ,JJ,⟨m,G⟩,by(try dsimp only);omega⟩)
     |none=>
      rw [e]at p;have G:=z.new X (A i) e;rw [tk m,V]at G;refine fT h3 (by rw [iD,p];rfl) (aD h1 (iP rfl ⟨l[i].ks,⟨JH,JH⟩,JF,fun s K=>?_⟩));unfold oX at K;subst K;rw [eN];exact eX h3 (wO _ _ _ (by rw [p];rfl)) ⟨(i+1,_),JJ,JJ,JJ,JJ,JJ,JJ,JJ,by rw [AF _ JF];rfl,JJ,JJ,⟨m,G⟩,by(try dsimp only);omega⟩
   ·rintro⟨i,g,n,j2,e2⟩ _ ⟨y,hz⟩ a4;dsimp only at y hz a4⊢;obtain⟨m,rfl⟩:=AP.1 y;have X:=R _ (AH m);have a2:=a0 _ (AH m);have V:(l.take i).length=i:=by rw [AR];omega
    refine⟨l.length-i,?_,?_,?_⟩
    ·rcases hz with⟨h0,⟨b1,b2,b3⟩,h1,h2⟩| ⟨iL,O⟩
     ·have z:=IZ.toP b1 b2 b3 h1 h2 l[i];rw [<-h0]at z
      skip
      refine aD h1 (In rfl (aD (by rw [aQ b1,h1]) (aA rfl (.inr ⟨(i,_,l[i],j2,e2),JJ,JJ,JJ,JJ,JJ,JJ,JJ,JJ,JJ,JJ,JJ,JJ,JJ,⟨y,z⟩,AG _⟩))))
     ·have z:=O.toP l[i];have a5:=O.ne;have Z:=O;obtain⟨b,h1,h2,h3⟩:=Z
      skip
      refine aD h1 (Ff rfl (aS h2 (aA (by simp only [AD,bL,AS,true_and];omega) (aD (by rw [aH a5.2.1,h1]) (aA rfl (.inr ⟨(i,_,l[i],j2,e2),JJ,JJ,JJ,JJ,JJ,JJ,JJ,JJ,JJ,JJ,JJ,JJ,JJ,⟨y,z⟩,AG _⟩))))))
    ·rintro⟨i,g,n⟩ _ ⟨⟨y,D⟩,z⟩ Y;dsimp only at y z Y D⊢;obtain⟨m,rfl⟩:=AP.1 y;have X:=R _ (AH m);have a2:=a0 _ (AH m);have V:(l.take i).length=i:=by rw [AR];omega
     have p:=lT X (A i);have a1:=z;obtain⟨iL,b,h1,h2,h3⟩:=a1;have eN:(⟨l[i].op,l[i].im,([]:Y12)⟩:Nd)=l[i]:=by(show(⟨l[i].op,l[i].im,[]⟩:Nd)=l[i];rw [<-D])
     refine aD h1 (iP rfl ⟨([]:Y12),⟨JH,JH⟩,JH,fun s K=>?_⟩);unfold oX at K;subst K;rw [eN]
     cases e:oV l[i] (l.take i) 0 with
     |some j=>
      rw [e]at p;have G:=z.found X (A i) e;rw [tk m]at G;exact fU h3 (by rw [iD,p];rfl) (bB rfl ⟨(i+1,g),JJ,JJ,JJ,JJ,JJ,JJ,JJ,by rw [AF _ JF];rfl,JJ,JJ,⟨m,G⟩,by(try dsimp only);omega⟩)
     |none=>
      rw [e]at p;have G:=z.new X (A i) e;rw [tk m,V]at G;refine fT h3 (by rw [iD,p];rfl) (aD h1 (iP rfl ⟨([]:Y12),⟨JH,JH⟩,JH,fun s K=>?_⟩));unfold oX at K;subst K;rw [eN];exact eX h3 (wO _ _ _ (by rw [p];rfl)) ⟨(i+1,_),JJ,JJ,JJ,JJ,JJ,JJ,JJ,by rw [AF _ JF];rfl,JJ,JJ,⟨m,G⟩,by(try dsimp only);omega⟩
    ·rintro⟨i,g,n,j2,e2⟩ _ ⟨y,z⟩ Y;dsimp only at y z Y⊢;obtain⟨m,rfl⟩:=AP.1 y;have X:=R _ (AH m);have a2:=a0 _ (AH m);have V:(l.take i).length=i:=by rw [AR];omega
     have p:=lT X (A i);have a1:=z;obtain⟨iL,b,h1,h2,h3⟩:=a1;have eN:(⟨l[i].op,l[i].im,l[i].ks⟩:Nd)=l[i]:=JJ
     refine aD h1 (iP rfl ⟨l[i].ks,⟨JH,JH⟩,JF,fun s K=>?_⟩);unfold oX at K;subst K;rw [eN]
     cases e:oV l[i] (l.take i) 0 with
     |some j=>
      rw [e]at p;have G:=z.found X (A i) e;rw [tk m]at G;exact fU h3 (by rw [iD,p];rfl) (bB rfl ⟨(i+1,g),JJ,JJ,JJ,JJ,JJ,JJ,JJ,by rw [AF _ JF];rfl,JJ,JJ,⟨m,G⟩,by(try dsimp only);omega⟩)
     |none=>
      rw [e]at p;have G:=z.new X (A i) e;rw [tk m,V]at G;refine fT h3 (by rw [iD,p];rfl) (aD h1 (iP rfl ⟨l[i].ks,⟨JH,JH⟩,JF,fun s K=>?_⟩));unfold oX at K;subst K;rw [eN];exact eX h3 (wO _ _ _ (by rw [p];rfl)) ⟨(i+1,_),JJ,JJ,JJ,JJ,JJ,JJ,JJ,by rw [AF _ JF];rfl,JJ,JJ,⟨m,G⟩,by(try dsimp only);omega⟩
  ·rw [decide_eq_false_iff_not]at c;have b4:i=l.length:=JF;subst b4;rw [DH]at hz;obtain⟨iL,O⟩: ∃iL,IS g 1 0 iL L imms l:=by
    rcases hz with⟨h0,_⟩|q
    ·exact absurd h0 b6
    ·exact q
   have a7:=O;obtain⟨b,h1,h2,h3⟩:=a7;have bad: ¬ (Kv (T.mk v op im iv ks) L.length imms.length=true/\L.all (fun i=>decide (0<=i) &&decide (i< (l.length:Int)))=true)->aJ g 1 fun r=>aZ 3 r 0 fun i e n c=>aC (aP [.vslice none 0 n 3 c,.int .i64 (-1)]) (Q (.tuple [.vslice none 0 n 3 c,.int .i64 (-1)]) h):=fun b9=>by
    unfold mH at hk;rw [if_neg b9]at hk;exact aD h1 (bM rfl (aA (by simp only [aP,bG,bR,AL]) hk))
   refine⟨ks,⟨rfl,rfl⟩,⟨wM ks JF,JF⟩,aB (fun c1=>bad (fun q=>by rw [q.1]at c1;cases c1)) (fun c1=>⟨L,⟨rfl,rfl⟩,JF,aB (fun c2=>bad (fun q=>by rw [q.2]at c2;cases c2)) (fun c2=>?_)⟩)⟩;rw [BO]at c1 c2;unfold mH at hk;rw [if_pos ⟨c1,c2⟩]at hk;have hw:=Xy c1;have d0:=N5 (T.mk v op im iv ks) L imms l a8 hv a6 R (by rw [a3];omega);refine⟨(T.mk v op im iv ks).num,ks,0,iL,L,imms,l,⟨rfl,rfl⟩,O,⟨AG _,hw.1,a8⟩,⟨hv,a6,R,by rw [a3];omega,c5,b5⟩,fun h4 c0 c9=>?_⟩;obtain⟨b',b0,c7,c8⟩:=c0;exact aD b0 (bM rfl (aA (by simp only [aP,bG,bR,AL]) hk))
 ·exact hk.elim
end Go.Proofs.YthimicfahhgpcaaGreat
end
end
