/-
  Texts of this proof, one after the other.
  Conditions: none.
-/
import Derived.Test.YtkonebkblgemkaaGreatW9
set_option linter.unusedVariables false
set_option linter.unusedSimpArgs false
set_option maxRecDepth 100000
set_option maxHeartbeats 4000000
noncomputable section
variable{i j m b:Nat}{x y z u v:Int}{h g:Go.Pv.Heap}{c d l:List Go.Pv.IV}{A B C:List Go.M15.Nd}{K L:Y12}{s t:Go.Pv.IV}{F:List Go.M10.E}{D:Go.Pv.Meta}{V W:List Go.Value}{T U:Go.TypeId}{o:Bool}{X Y:Go.Value}{r:Y11}{G:Go.M10.BSt}{O:Go.Oper}{N:Y10}{H:Array Go.Value}
section
namespace Go.Proofs.YtkonebkblgemkaaGreat
open Go.Pv Go.M15 Go.M10
def a7A(xs:Y14)(h:Heap)(K:KT):Prop:=match xs with
 | [.int .i64 n,.int .i64 m]=>(0<m/\m<4611686018427387904)/\K (.int .i64 (n%m)) h
 |_=>False
theorem f2K(n m:Int)(h:Heap)(Q:KT):dF (aU noC) env 12 cC bD bD [.int .i64 n,.int .i64 m] h Q=(
 aF (!m==0) (aK (decide (Int.tmod n m<0)) (Q (.int .i64 (wW (Int.tmod n m+m))) h) (Q (.int .i64 (Int.tmod n m)) h))):=by kernel_rfl
theorem d6P: ∀xs h Q,a7A xs h Q->aM env 12 xs h Q:=by
 intro xs h Q hk;unfold a7A at hk;split at hk
 .rename_i n m;refine aL (jW env) (f2K n m h Q) ?_;delta wW;obtain⟨hm,hk⟩:=hk;have h1:=FQ n (IR m);have i:=Go.M13.uZ n m hm.1;refine aA (by simp;omega) (aB (λg=>bN hk ?_) (λg=>bN hk ?_))
  .simp only [decide_eq_true_eq]at g;rw [AA _ JZ];congr 1;omega
  .simp only [decide_eq_false_iff_not]at g;congr 1;omega
 .exact hk.elim
def b5J:=aV 12 a7A noC
theorem c1K:aS env b5J:=aE d6P (jW env)
def Wd(xs:Y14)(h:Heap)(K:KT):Prop:=match xs with
 | [.int .i64 n,.int .i64 raw]=>bE raw/\∀w:Int,bE w->K (.int .i64 w) h
 |_=>False
theorem f3S(n g:Int)(h:Heap)(Q:KT):dF (aU b5J) env 35 cC bD bD [.int .i64 n,.int .i64 g] h Q=(
 ((0:Int)<24/\(24:Int)<4611686018427387904)/\aK (decide (n% (24:Int)<10)) (aF (decide (0<=n% (24:Int)) &&decide (n% (24:Int)<10)) (aN .i64 [iI 0,iI 1,iI (-1:Int),iI 2,iI (-9223372036854775808:Int),iI 9223372036854775807,iI 4294967296,iI (-2147483648:Int),iI 63,iI 64] ((n% (24:Int)).toNat*(1:Nat)) λi=>Q (.int .i64 i) h)) (aK (decide (n% (24:Int)<22)) (((0:Int)<17/\(17:Int)<4611686018427387904)/\Q (.int .i64 (wW (wW (Int.tdiv n 24)% (17:Int)-6))) h) (Q (.int .i64 g) h))):=by kernel_rfl
theorem c3V: ∀xs h Q,Wd xs h Q->aM env 35 xs h Q:=by
 intro xs h Q hk;unfold Wd at hk;split at hk
 .rename_i n g;refine aL (c1K) (f3S n g h Q) ?_;delta wW iI;obtain⟨m,hk⟩:=hk;refine And.intro JZ (aB (λi=>?_) (λi=>aB (λhd=>And.intro JZ (hk _ ?_)) (λhd=>hk _ m)))
  .rw [decide_eq_true_eq]at i;refine aA (by simp;omega) ?_;rw [AM];show aN .i64 (Go.M13.a6K.map (IV.int .i64)) _ _;have j:(n%24).toNat<Go.M13.a6K.length:=by have:Go.M13.a6K.length=10:=rfl;omega
   refine cO j (hk _ ?_);have l: ∀x∈Go.M13.a6K,bE x:=KA
   exact l _ (AG j)
  .have:=AA (IntKind.i64.wrap (n.tdiv 24)%17-6) JZ;rw [this];unfold bE
   omega
 .exact hk.elim
def b6X:=aV 35 Wd b5J
theorem c2R:aS env b6X:=aE c3V (c1K)
def a2J(xs:Y14)(h:Heap)(K:KT):Prop:=match xs with
 | [.ptr id 0]=> ∃(r:Nat)(w:Int),RN h id r w/\∀(n:Int)(h2:Heap),bE n->(r=0->n=0)->RN h2 id (r-1) w->HF id h h2->K (.int .i64 n) h2
 |_=>False
theorem e4K(id:Nat)(h:Heap)(Q:KT):dF (aU b6X) env 39 cC bD bD [.ptr id 0] h Q=(
 aT h id λr0=>bM 1 r0 0 λO K z G=>aK ((z:Int)==0) (Q (.int .i64 0) h) (aT h id λD=>bM 1 D 0 λR L A y=>aF (true&&decide (0< (A:Int))) (aN .i64 y 0 λr=>aT h id λu=>bM 1 u 0 λm l g j=>aF (true&& (decide (1<=(g:Int)) &&decide ((g:Int)<=(g:Int)))) (aT h id λi=>aF (Nat.ble 1 i.length) (Q (.int .i64 r) (h.set id (IObj.cells (IV.vslice m (l- (g- (g:Int).toNat)*1) ((g:Int).toNat-1) 1 (List.take (((g:Int).toNat-1)*(1:Nat)) (List.drop 1 j))::List.drop 1 i)))))))):=by kernel_rfl
theorem e2S: ∀xs h Q,a2J xs h Q->aM env 39 xs h Q:=by
 intro xs h Q hk;unfold a2J at hk;split at hk
 .rename_i id;obtain⟨r,w,⟨j,z,e,l,m,u,g⟩,hk⟩:=hk;refine aL (c2R) (e4K id h Q) ?_;refine aC g (b1M ?_);refine aB (λc=>hk 0 h (by unfold bE;omega) (λ_=>rfl) ?_ HF.refl) (λc=>aC g (b1M ?_))
  .have h0:l.length=0:=by simpa using c
   have h1:r=0:=JZ;subst h1;exact⟨j,z,e,l,m,u,g⟩
  have y:0<l.length:=by
   simp at c;exact JW (by simpa using c)
  refine aA (by simp;omega) (cO (i:=0) y (aC g (b1M (aA (by simp;omega) (aC g (aA KB ?_))))));refine hk _ _ (m _ (AG y)) (λq=>JZ) ⟨j,z,e- (l.length- ((l.length:Int)).toNat)*1,l.drop 1,λx A=>m x (JK A),by rw [DJ];omega,?_⟩ HF.set;refine(aH (h:=h)).trans ?_;simp;exact AJ KB
 .exact hk.elim
def a0U:=aV 39 a2J b6X
theorem a8B:aS env a0U:=aE e2S (c2R)
def d9Z(xs:Y14)(h:Heap)(K:KT):Prop:=match xs with
 | [.int .i64 f]=>(f=0\/f=1)/\K (.vslice none 0 (cK f).length 1 ((cK f).map IV.str)) h
 |_=>False
theorem f7U(f:Int)(h:Heap)(Q:KT):dF (aU a0U) env 153 cC bD bD [.int .i64 f] h Q=(
 aK (f==0) (Q (.vslice none 0 4 1 [IV.str [120],IV.str [121],IV.str [105],IV.str [106]]) h) (Q (.vslice none 0 2 1 [IV.str [110],IV.str [105]]) h)):=by kernel_rfl
theorem f6B: ∀xs h Q,d9Z xs h Q->aM env 153 xs h Q:=by
 intro xs h Q hk;unfold d9Z at hk;split at hk
 .rename_i f;refine aL (a8B) (f7U f h Q) ?_;obtain⟨hf,hk⟩:=hk;rcases hf with rfl|rfl
  .exact aB (λ_=>aA rfl hk) (λc=>by cases c)
  .exact aB (λc=>by cases c) (λ_=>aA rfl hk)
 .exact hk.elim
def d7Z:=aV 153 d9Z a0U
theorem d5L:aS env d7Z:=aE f6B (a8B)
def Vz(d:Nat)(xs:Y14)(h:Heap)(K:KT):Prop:=match xs with
 | [.ptr id 0,.int .i64 f,.int .i64 dp]=> ∃(r:Nat)(w:Int),RN h id r w/\(f=0\/f=1)/\(0<=dp/\dp<=4/\4-dp< (d:Int))/\
  (∀(k n:Int)(nm:Y11)(op:Int)(ks:List E)(g:Nat)(h2:Heap),rO f (4-dp).toNat r g (.mk k n nm op ks)->GN h id g w h2->K (.agg [.int .i64 k,.int .i64 n,.str nm,.int .i64 op,.vslice none 0 ks.length 5 (bP ks)]) h2)
 |_=>False
def a6A(n:Int):=wW (Int.tdiv n 16)% (1000:Int)
def c6U(dp:Int):=((4:Int)-wW (dp+1)).toNat
abbrev b4A(f:Int):=f=0\/f=1
def e6Y(n k op:Int)(nm:Y11)(ks:List E):=[iI k,iI n,IV.str nm,iI op,IV.vslice none 0 ks.length 5 (bP ks)]
def Cj(n:Int)(g:Int):Bool:=decide (0<=Int.tmod (a6A n) g) &&decide (Int.tmod (a6A n) g<g)
def Ts(f:Int)(n:Int)(Q:KT)(h2:Heap):Prop:=aF (!(↑((cK f).length):Int)==0) (aF (Cj n (↑((cK f).length):Int)) (dU (List.map IV.str (cK f)) ((Int.tmod (a6A n) (↑((cK f).length):Int)).toNat*1) λg=>Q (.agg [.int .i64 2,iI 0,IV.str g,iI 0,IV.vslice none 0 0 5 []]) h2))
def Tt(n:Int)(f:Int)(Q:KT)(h2:Heap)(dp:Int):Prop:=aK (Int.tmod (n% (16:Int)) 2==0) (Ts f n Q h2) (aK (decide (dp>3)) (aK (decide (n% (16:Int)>8)) (Ts f n Q h2) (bE n/\∀(g:Int),bE g->Q (.agg [.int .i64 1,iI g,IV.str [],iI 0,IV.vslice none 0 0 5 []]) h2)) (bE n/\∀(i:Int),bE i->Q (.agg
 [.int .i64 1,iI i,IV.str [],iI 0,IV.vslice none 0 0 5 []]) h2))
def R9(dp:Int)(g:Nat):Prop:=0<=wW (dp+1)/\wW (dp+1)<=4/\(4:Int)-wW (dp+1)< (g:Int)
def R8(id:Nat)(f:Int)(dp:Int)(G:Nat)(Q:KT)(A:Heap)(K:Int)(D:Int->Int->Y11->Int->List E->Y14):Prop:= ∃(l:Nat)(m:Int),RN A id l m/\(b4A f)/\(R9 dp G)/\∀(r u:Int)(y:Y11)(z:Int)(g:List E)(i:Nat)(j:Heap),rO f (c6U dp) l i (E.mk r u y z g)->GN A id i m j->Q (.agg (D r u y z g)) j
theorem f2W(y:Nat)(id:Nat)(f dp:Int)(h:Heap)(Q:KT):dF (aU (aV 81 (Vz y) d7Z)) env 81 cC bD bD [.ptr id 0,.int .i64 f,.int .i64 dp] h Q=(
 ∃(r:Nat)(w:Int),RN h id r w/\∀(n:Int)(h2:Heap),bE n->(r=0->n=0)->RN h2 id (r-1) w->HF id h h2->(b4A f)/\((0:Int)<16/\(16:Int)<4611686018427387904)/\((0:Int)<1000/\(1000:Int)<4611686018427387904)/\aK (decide (n% (16:Int)<4)) (Tt n f Q h2 dp) (aK (decide (dp>3)) (Tt n f Q h2 dp) (aK (decide (n% (16:Int)<6)) (aF (Cj n 2) (dU [IV.str [97],IV.str [98]] ((Int.tmod (a6A n) 2).toNat*1) λR=>R8 id f dp y Q h2 3 (λk n nm op ks=>[iI 3,iI 0,IV.str R,iI 0,IV.vslice none 0 1 5 (e6Y n k op nm ks)]))) (aK (decide (n% (16:Int)<7)) (∃(r:Nat)(w:Int),RN h2 id r w/\(b4A f)/\(R9 dp y)/\∀(k n:Int)(nm:Y11)(op:Int)(ks:List E)(A:Nat)(g:Heap),rO f (c6U dp) r A (E.mk k n nm op ks)->GN h2 id A w g-> ∃(r:Nat)(w:Int),RN g id r w/\(b4A f)/\(R9 dp y)/\∀(u m:Int)(j:Y11)(l:Int)(i:List E)(A:Nat)(h2:Heap),rO f (c6U dp) r A (E.mk u m j l i)->GN g id A w h2->R8 id f dp y Q h2 5 (λL D G K z=>[iI 5,iI 0,IV.str [],iI 0,IV.vslice none 0 3 5 [iI k,iI n,IV.str nm,iI op,IV.vslice none 0 ks.length 5 (bP ks),iI u,iI m,IV.str j,iI l,IV.vslice none 0 i.length 5 (bP i),iI L,iI D,IV.str G,iI K,IV.vslice none 0 z.length 5 (bP z)]])) (aK (decide (n% (16:Int)<9)) (aF (Cj n 2) (aN .i64 [iI 20,iI 21] ((Int.tmod (a6A n) 2).toNat*1) λO=>R8 id f dp y Q h2 4 (λk n nm op ks=>[iI 4,iI 0,IV.str [],iI O,IV.vslice none 0 1 5 (e6Y n k op nm ks)]))) (∃(r:Nat)(w:Int),RN h2 id r w/\(b4A f)/\(R9 dp y)/\∀(k m:Int)(nm:Y11)(op:Int)(ks:List E)(A:Nat)(g:Heap),rO f (c6U dp) r A (E.mk k m nm op ks)->GN h2 id A w g->R8 id f dp y Q g 4 (λu D j l i=>[iI 4,iI 0,IV.str [],iI (wW ((4:Int)+Int.tmod (a6A n) 15)),IV.vslice none 0 2 5 [iI k,iI m,IV.str nm,iI op,IV.vslice none 0 ks.length 5 (bP ks),iI u,iI D,IV.str j,iI l,IV.vslice none 0 i.length 5 (bP i)]]))))))):=by kernel_rfl
theorem e9D: ∀d xs h Q,Vz d xs h Q->aM env 81 xs h Q:=by
 intro d
 induction d with
 |zero=>
  intro xs h Q hk;unfold Vz at hk;split at hk
  .rename_i id f dp;obtain⟨r,w,hr,hf,hd,hk⟩:=hk;have h1:=hd.2.1;have h2:=hd.2.2;omega
  .exact hk.elim
 |succ dd ih=>
  intro xs h Q hk;unfold Vz at hk;split at hk
  .rename_i id f dp;obtain⟨r,w,hr,hf,hd,hk⟩:=hk;refine aL (aE ih (d5L)) (f2W dd id f dp h Q) ?_;delta b4A a6A Cj Ts Tt R9 c6U R8 e6Y wW iI; (try dsimp -iota -proj only);obtain⟨a8,a9,b0⟩:=hd;refine⟨r,w,hr,λn h2 hn hz g1 g2=>⟨hf,⟨KA,KA⟩,⟨KA,KA⟩,?_⟩⟩;have hg:GN h id (r-1) w h2:=⟨g1,g2⟩;have a2:n≠0->1<=r:=λq=>by
    rcases GE r with i|i
    .exact absurd (hz i) q
    .exact i
   have b1:0< (cK f).length:=by rcases hf with rfl|rfl<;>decide
   have A:0<=IntKind.i64.wrap (Int.tdiv n 16)%1000:=CT _ KA;generalize IntKind.i64.wrap (Int.tdiv n 16)%1000=m at A⊢;have t1:0<=Int.tmod m ((cK f).length:Int)/\Int.tmod m ((cK f).length:Int)< (cK f).length:=by
    rw [CH A];exact⟨CT _ JZ,CR _ JZ⟩
   have t2:0<=Int.tmod m 2/\Int.tmod m 2<2:=by
    rw [CH A];omega
   have t3:0<=Int.tmod m 15/\Int.tmod m 15<15:=by
    rw [CH A];omega
   generalize Int.tmod m 2=m2 at t2⊢;generalize Int.tmod m 15=m15 at t3⊢;generalize Int.tmod m ((cK f).length:Int)=ml at t1⊢;have a3: ∀s∈cK f,Q (IV.agg [IV.int .i64 2,IV.int .i64 0,IV.str s,IV.int .i64 0,IV.vslice none 0 0 5 []]) h2:=λs hs=>
    hk 2 0 s 0 [] (r-1) h2 ⟨⟨.inr (.inl ⟨rfl,rfl,rfl,rfl,hs⟩),trivial⟩,AR _,Nat.sub_le _ _,AR _⟩ hg
   have var:aF (!(((cK f).length:Int)==0)) (aF (decide (0<=ml) &&decide (ml< ((cK f).length:Int))) (dU ((cK f).map IV.str) (ml.toNat*1) λs=>Q (IV.agg [IV.int .i64 2,IV.int .i64 0,IV.str s,IV.int .i64 0,IV.vslice none 0 0 5 []]) h2)):=
    aA (by simp only [BS,beq_eq_false_iff_ne];omega) (aA (by simp;omega) (Ep JZ a3))
   have K:n≠0->bE n/\∀w:Int,bE w->Q (IV.agg [IV.int .i64 1,IV.int .i64 w,IV.str [],IV.int .i64 0,IV.vslice none 0 0 5 []]) h2:=λq=>⟨hn,λw hw=>
    hk 1 w [] 0 [] (r-1) h2 ⟨⟨.inl ⟨rfl,rfl,rfl,rfl,hw⟩,trivial⟩,AR _,Nat.sub_le _ _,by have:=a2 q;simp [E.cost,Es.cost];omega⟩ hg⟩
   refine aB (λc1=>aB (λ_=>var) (λc2=>?_)) (λc1=>?_)
   .have y:n≠0:=λq=>by rw [q]at c2;cases c2
    exact aB (λ_=>aB (λ_=>var) (λ_=>K y)) (λ_=>K y)
   rw [decide_eq_false_iff_not]at c1;have y:n≠0:=λq=>by rw [q]at c1;exact c1 KA
   have b2:=a2 y;refine aB (λ_=>aB (λ_=>var) (λ_=>aB (λ_=>aB (λ_=>var) (λ_=>K y)) (λ_=>K y))) (λc3=>?_);rw [decide_eq_false_iff_not]at c3;have a5:IntKind.i64.wrap (dp+1)=dp+1:=AA _ JZ;rw [a5];have u:0<=dp+1/\dp+1<=4/\4- (dp+1)< (dd:Int):=JZ;have eD:(4-dp).toNat=(4- (dp+1)).toNat+1:=JZ;have eR:r=(r-1)+1:=JZ;rw [eD]at hk;generalize(4- (dp+1)).toNat=D at hk⊢;rw [eR]at hk;have O: ∀(k0 L:Int)(G:Y11),Lz f k0 0 G L 1-> ∀(a:E)(g:Nat)(h3:Heap),rO f D (r-1) g a->GN h2 id g w h3->Q (IV.agg [IV.int .i64 k0,IV.int .i64 0,IV.str G,IV.int .i64 L,IV.vslice none 0 1 5 (bP [a])]) h3:=
    λk0 L G hd a g h3 z j=>hk k0 0 G L [a] g h3 (rO.node (pK.snoc pK.nil z) hd) (hg.trans j)
   have a0: ∀(a b:E)(g i:Nat)(h3 h4:Heap),rO f D (r-1) g a->rO f D g i b->GN h2 id g w h3->GN h3 id i w h4->Q (IV.agg [IV.int .i64 4,IV.int .i64 0,IV.str [],IV.int .i64 (IntKind.i64.wrap (4+m15)),IV.vslice none 0 2 5 (bP [a,b])]) h4:=
    λa b g i h3 h4 z X j R=>hk 4 0 [] _ [a,b] i h4 (rO.node (pK.snoc (pK.snoc pK.nil z) X) (.inr (.inr (.inr (.inl ⟨rfl,rfl,rfl,.inl ⟨rfl,by rw [AA _ JZ];omega,by rw [AA _ JZ];omega⟩⟩))))) ((hg.trans j).trans R)
   have a1: ∀(a b c:E)(g i Z:Nat)(h3 h4 Y:Heap),rO f D (r-1) g a->rO f D g i b->rO f D i Z c->GN h2 id g w h3->GN h3 id i w h4->GN h4 id Z w Y->Q (IV.agg [IV.int .i64 5,IV.int .i64 0,IV.str [],IV.int .i64 0,IV.vslice none 0 3 5 (bP [a,b,c])]) Y:=
    λa b c g i Z h3 h4 Y z X p3 j R g5=>hk 5 0 [] 0 [a,b,c] Z Y (rO.node (pK.snoc (pK.snoc (pK.snoc pK.nil z) X) p3) (.inr (.inr (.inr (.inr ⟨rfl,rfl,rfl,rfl,rfl⟩))))) (((hg.trans j).trans R).trans g5)
   refine aB (λ_=>aA (by simp;omega) (Ep (l:=zW) (show m2.toNat*1<2 by omega) λs hs=>?_)) (λ_=>aB (λ_=>?_) (λ_=>aB (λ_=>aA (by simp;omega) (e0V (l:=[20,21]) (show m2.toNat*1<2 by omega) λs hs=>?_)) (λ_=>?_)))
   .exact⟨r-1,w,g1,hf,u,λk1 n1 T V Nn g h3 z j=>O 3 0 s (.inr (.inr (.inl ⟨rfl,rfl,rfl,rfl,hs⟩))) _ g h3 z j⟩
   .exact⟨r-1,w,g1,hf,u,λk1 n1 T V Nn g h3 z j=>⟨g,w,j.1,hf,u,λk2 n2 a6 a7 mK i h4 X R=>⟨i,w,R.1,hf,u,λk3 n3 b3 b4 ks3 Z Y p3 g5=>a1 _ _ _ g i Z h3 h4 Y z X p3 j R g5⟩⟩⟩
   .have a4:20<=s/\s<=21:=by simp only [CD,DW,or_false]at hs;omega
    exact⟨r-1,w,g1,hf,u,λk1 n1 T V Nn g h3 z j=>O 4 s [] (.inr (.inr (.inr (.inl ⟨rfl,rfl,rfl,.inr ⟨rfl,a4⟩⟩)))) _ g h3 z j⟩
   .exact⟨r-1,w,g1,hf,u,λk1 n1 T V Nn g h3 z j=>⟨g,w,j.1,hf,u,λk2 n2 a6 a7 mK i h4 X R=>a0 _ _ g i h3 h4 z X j R⟩⟩
  .exact hk.elim
def Uv:=aV 81 (λxs h K=> ∃d,Vz d xs h K) d7Z
theorem c1V:aS env Uv:=aE (λxs h Q hk=>hk.elim λd hk=>e9D d xs h Q hk) (d5L)
def f1N(id:Nat)(f dp g:Int)(r:Nat)(w:Int)(h:Heap):Inv':= .or
 (dL (Nat×Nat×Int×Heap) (λx=>[(0,.v (.ptr id 0)),(1,.v (.int .i64 f)),(2,.v (.int .i64 dp)),(9,.v .nilslice),(10,.v (.int .i64 x.1))]) (λ_=>[]) (λx=>x.2.2.2) (λx=>x.1<=10/\jP f dp.toNat r x.2.1 w x.2.2.1 []/\GN h id x.2.1 x.2.2.1 x.2.2.2) (λx=>x.1))
 (dL (Nat×Nat×Int×Heap×List S×Nat) (λx=>[(0,.v (.ptr id 0)),(1,.v (.int .i64 f)),(2,.v (.int .i64 dp)),(9,.v (.vslice (some x.2.2.2.2.2) (x.2.2.2.2.1.length*17) x.2.2.2.2.1.length 17 (bI x.2.2.2.2.1))),(10,.v (.int .i64 x.1))]) (λ_=>[]) (λx=>x.2.2.2.1) (λx=>x.1+x.2.2.2.2.1.length<=10/\jP f dp.toNat r x.2.1 w x.2.2.1 x.2.2.2.2.1/\GN h id x.2.1 x.2.2.1 x.2.2.2.1/\x.2.2.2.1.get x.2.2.2.2.2= .tip (x.2.2.2.2.1.length*17)/\h.next<=x.2.2.2.2.2/\x.2.2.2.2.2<x.2.2.2.1.next) (λx=>x.1))
def f1M(id:Nat)(f dp:Int)(r:Nat)(w:Int)(h:Heap):Inv':=dL (Int×Int×Heap) (λx=>[(0,.v (.ptr id 0)),(1,.v (.int .i64 f)),(2,.v (.int .i64 dp)),(6,.l 6 0),(8,.v (.vslice none 0 (cK f).length 1 ((cK f).map IV.str))),(9,.v (.int .i64 x.1)),(10,.v (.int .i64 x.2.1))])
 (λ_=>[(6,[.int .i64 0,.str [],.str [],.int .i64 0,.int .i64 0,.int .i64 0,.str [],.int .i64 0,.nilslice,.int .i64 0,.int .i64 0,.str [],.int .i64 0,.nilslice,.nilslice,.nilslice,.nilslice])]) (λx=>x.2.2)
 (λx=>(0<=x.1/\x.1<1000)/\(0<=x.2.1/\x.2.1<16)/\(2<dp->x.2.1<8\/12<=x.2.1)/\(10<=w->x.2.1<10)/\GN h id (r-1) w x.2.2) (λ_=>0)
def Ek(d:Nat)(xs:Y14)(h:Heap)(K:KT):Prop:=match xs with
 | [.ptr id 0,.int .i64 f,.int .i64 dp,.int .i64 mo]=> ∃(r:Nat)(w:Int),(RN h id r w/\0<=w/\w<=10)/\(f=0\/f=1)/\(0<=dp/\dp<=3/\2*(3-dp)+1< (d:Int))/\(0<=mo/\mo<=10)/\
  (∀(l:List S)(g:Nat)(i:Int)(h2:Heap),jP f dp.toNat r g w i l->GN h id g i h2->K (.vslice none 0 l.length 17 (bI l)) h2)
 |_=>False
def a2X(d:Nat)(xs:Y14)(h:Heap)(K:KT):Prop:=match xs with
 | [.ptr id 0,.int .i64 f,.int .i64 dp]=> ∃(r:Nat)(w:Int),(RN h id r w/\0<r/\0<=w/\w<=10)/\(f=0\/f=1)/\(0<=dp/\dp<=3/\2*(3-dp)< (d:Int))/\(∀(k:Int)(nm O:Y11)(n D G:Int)(l:Y11)(m:Int)(i:List E)(R T:Int)(u:Y11)(y:Int)(j g:List E)(A z:List S)(L:Nat)(V:Int)(h2:Heap),I7 f dp.toNat r L w V (.mk k nm O n (.mk D G l m i) (.mk R T u y j) g A z)->GN h id L V h2->K (.agg [.int .i64 k,.str nm,.str O,.int .i64 n,.int .i64 D,.int .i64 G,.str l,.int .i64 m,.vslice none 0 i.length 5 (bP i),.int .i64 R,.int .i64 T,.str u,.int .i64 y,.vslice none 0 j.length 5 (bP j),.vslice none 0 g.length 5 (bP g),.vslice none 0 A.length 17 (bI A),.vslice none 0 z.length 17 (bI z)]) h2)
 |_=>False
def yV(g:Nat×Nat×Int×Heap×List M10.S×Nat):=g.2.2.2
def e6V(n k A D m K L u:Int)(nm G l r:Y11)(i j g:List E)(z y:List M10.S):=[iI k,IV.str nm,IV.str G,iI n,iI A,iI D,IV.str l,iI m,IV.vslice none 0 i.length 5 (bP i),iI K,iI L,IV.str r,iI u,IV.vslice none 0 j.length 5 (bP j),IV.vslice none 0 g.length 5 (bP g),IV.vslice none 0 z.length 17 (bI z),IV.vslice none 0 y.length 17 (bI
 y)]
def Bk(g:Nat×Nat×Int×Heap×List M10.S×Nat):=((yV g).2).1
def a5Z(x:Nat×Nat×Int×Heap):=x.2.2.2
def Zy(g:Nat×Nat×Int×Heap×List M10.S×Nat):=g.2.2.2
abbrev e6W(dp:Int)(g:Nat):=0<=dp/\dp<=3/\(2:Int)*((3:Int)-dp)< (g:Int)
def e6X:=IV.vslice none 0 0 17 []
def yO(id:Nat)(f:Int)(dp:Int)(g:TV)(i:TV)(j:IV)(l:IV)(m:Prop):Prop:=some (TV.v (.ptr id 0))=some (TV.v (.ptr id 0))/\tI f=tI f/\tI dp=tI dp/\some g=some i/\some (TV.v j)=some (TV.v l)/\m
def yP(g:Nat×Nat×Int×Heap×List M10.S×Nat):Nat:=g.2.2.2.2.1.length*17
def S4(id:Nat)(f:Int)(dp:Int)(j:IV)(l:Int)(m:Nat×Nat×Int×Heap->Prop)(r:Nat×Nat×Int×Heap×List M10.S×Nat->Prop):Prop:=(∃(i:Nat×Nat×Int×Heap),yO id f dp (TV.v j) (TV.v IV.nilslice) (iI l) (iI (i.1:Int)) (m i)) \/ ∃(g:Nat×Nat×Int×Heap×List M10.S×Nat),yO id f dp (TV.v j) (TV.v (.vslice (some g.2.2.2.2.2) (yP g) g.2.2.2.2.1.length 17 (bI g.2.2.2.2.1)))
 (iI l) (iI (g.1:Int)) (r g)
def S6(f:Int)(dp:Int)(r:Nat)(w:Int)(h:Heap)(id:Nat)(g:Nat×Nat×Int×Heap):Prop:=g.1<=10/\jP f dp.toNat r g.2.1 w g.2.2.1 []/\GN h id g.2.1 g.2.2.1 g.2.2.2
def S5(f:Int)(dp:Int)(r:Nat)(w:Int)(h:Heap)(id:Nat)(g:Nat×Nat×Int×Heap×List M10.S×Nat):Prop:=jP f dp.toNat r g.2.1 w g.2.2.1 (((Zy g).2).1)/\GN h id g.2.1 g.2.2.1 ((Zy g).1)/\Heap.get ((Zy g).1) (((Zy g).2).2)=IObj.tip (yP g)/\Heap.next h<=Prod.snd ((Zy g).2)/\Prod.snd ((Zy g).2)<Heap.next
 ((Zy g).1)
def Lf(Q:KT)(g:Nat×Nat×Int×Heap×List M10.S×Nat):Prop:=Q (.vslice none 0 ((Bk g).length) 17 (bI (Bk g))) ((yV g).1)
theorem f3F(dd:Nat)(id:Nat)(f dp V:Int)(r:Nat)(w:Int)(h:Heap)(Q:KT):dF (aU (aV 152 (a2X dd) (aV 80 (Ek dd) Uv))) env 80 cC (mJ 4 (f1N id f dp V r w h)) bD [.ptr id 0,.int .i64 f,.int .i64 dp,.int .i64 V] h Q=(
 ∃(L:Nat)(a0:Int),RN h id L a0/\∀(n:Int)(h2:Heap),bE n->(L=0->n=0)->RN h2 id (L-1) a0->HF id h h2->(0<wW (V+1)/\wW (V+1)<4611686018427387904)/\(S4 id f dp IV.nilslice (n%wW (V+1)) (λx=>h2=x.2.2.2/\(S6 f dp r w h id x)/\True) (λg=>h2=(yV g).1/\(g.1+(Bk g).length<=(10:Nat)/\S5 f dp r w h id g)/\True))/\(∀(x:Nat×Nat×Int×Heap)(b:FF),x.1<=10/\jP f dp.toNat r x.2.1 w x.2.2.1 []/\GN h id x.2.1 x.2.2.1 (a5Z x)->aK (decide (((x.1):Int)>0)) (aT (a5Z x) id λr0=>bM 1 r0 0 λi1 e2 l3 c4=>aK (decide ((l3:Int)>0)) (∃(m:Nat)(j:Int),(RN (a5Z x) id m j/\0<m/\0<=j/\j<=10)/\(f=(0:Int) \/f=1)/\(e6W dp dd)/\∀(k:Int)(nm Z:Y11)(n O R:Int)(z:Y11)(A:Int)(y:List E)(vk vn:Int)(G:Y11)(K:Int)(D l:List E)(Y T:List M10.S)(X:Nat)(w2:Int)(h2:Heap),I7 f dp.toNat m X j w2 (M10.S.mk k nm Z n (E.mk O R z A y) (E.mk vk vn G K D) l Y T)->GN (a5Z x) id X w2 h2->S4 id f dp (IV.vslice (some (h2.next)) 17 1 17 (e6V n k O R A vk vn K nm Z z G y D l Y T)) (wW ((x.1:Int)- (1:Int))) (λu=>h2.push (IObj.tip 17)=u.2.2.2/\(S6 f dp r w h id u)/\u.1<x.1) (λi=>h2.push (IObj.tip 17)=((i.2.2).2).1/\(i.1+i.2.2.2.2.1.length<=10/\S5 f dp r w h id i)/\i.1<x.1)) (Q e6X (a5Z x))) (Q e6X (a5Z x)))/\∀(g:Nat×Nat×Int×Heap×List M10.S×Nat)(b:FF),g.1+(Bk g).length<=10/\jP f dp.toNat r g.2.1 w g.2.2.1 (Bk g)/\GN h id g.2.1 g.2.2.1 ((yV g).1)/\Heap.get ((yV g).1) (((yV g).2).2)=IObj.tip (yP g)/\Heap.next h<=Prod.snd ((yV g).2)/\Prod.snd ((yV g).2)< ((yV g).1).next->aK (decide ((g.1:Int)>0)) (aT ((yV g).1) id λr5=>bM 1 r5 0 λi6 e7 l8 c9=>aK (decide ((l8:Int)>0)) (∃(m:Nat)(j:Int),(RN ((yV g).1) id m j/\0<m/\0<=j/\j<=10)/\(f=0\/f=1)/\(e6W dp dd)/\∀(k:Int)(nm Z:Y11)(n O R:Int)(z:Y11)(A:Int)(y:List E)(vk vn:Int)(G:Y11)(K:Int)(D l:List E)(Y T:List M10.S)(X:Nat)(w2:Int)(h2:Heap),I7 f dp.toNat m X j w2 (M10.S.mk k nm Z n (E.mk O R z A y) (E.mk vk vn G K D) l Y T)->GN ((yV g).1) id X w2 h2->lL h2 (((yV g).2).2) λa1=>aF (Nat.beq a1 (yP g) &&Nat.ble (((Bk g).length+1)*248) 140737488355328) (S4 id f dp (IV.vslice (some (((yV g).2).2)) ((Bk g).length*17+17) ((Bk g).length+1) 17 (bI (Bk g)++(e6V n k O R A vk vn K nm Z z G y D l Y T))) (wW ((g.1:Int)-1)) (λu=>h2.set (((yV g).2).2) (IObj.tip ((Bk g).length*17+17))=u.2.2.2/\(S6 f dp r w h id u)/\u.1<g.1) (λi=>h2.set (((yV g).2).2) (IObj.tip ((Bk g).length*17+17))=(((i.2).2).2).1/\(i.1+i.2.2.2.2.1.length<=10/\S5 f dp r w h id i)/\i.1<g.1))) (Lf Q g)) (Lf Q g)):=by kernel_rfl
def c5T:=[iI 0,IV.str [],IV.str [],iI 0,iI 0,iI 0,IV.str [],iI 0,IV.nilslice,iI 0,iI 0,IV.str [],iI 0,IV.nilslice,IV.nilslice,IV.nilslice,IV.nilslice]
abbrev Li(f:Int):=f=0\/f=1
def vL(g:Int×Int×Heap):=g.2.2
def a9Y(dp:Int):=(wW (dp+1)).toNat
def Au(f:Int):=(cK f).length
abbrev c5U:=(0:Int)<=3/\(3:Int)<=10
def c5V(f:Int):=IV.vslice none 0 (Au f) 1 (List.map IV.str (cK f))
def yM(id:Nat)(f:Int)(dp:Int)(n:Int)(h2:Heap)(w:Int)(h:Heap)(r:Nat)(i:Int):Prop:= ∃(g:Int×Int×Heap),yO id f dp (TV.l 6 0) (TV.l 6 0) (c5V f) (c5V f) (tI (wW (Int.tdiv n 16)% (1000:Int))=tI g.1/\tI i=tI g.2.1/\some c5T=some c5T/\h2=g.2.2/\((0<=g.1/\g.1<1000)/\(0<=g.2.1/\g.2.1<16)/\(2<dp->g.2.1<8\/12<=
 g.2.1)/\(10<=w->g.2.1<10)/\GN h id (r-1) w g.2.2)/\True)
def S7(h2:Heap)(id:Nat)(n:Int)(f:Int)(dp:Int)(w:Int)(h:Heap)(r:Nat):=aT h2 id λg=>aN .i64 g 1 λi=>aK (decide (i>=10)) (aK (decide (n% (16:Int)>=10)) (yM id f dp n h2 w h r 0) (yM id f dp n h2 w h r (n% (16:Int)))) (yM id f dp n h2 w h r (n% (16:Int)))
def yN(i:Int×Int×Heap)(g:Int):Bool:=decide (0<=Int.tmod i.1 g) &&decide (Int.tmod i.1 g<g)
def mF(id:Nat)(f:Int)(O:Heap)(D:Int)(G:Int)(K:Nat)(L:Nat->Nat->Int->Int->Int->Y11->Int->List E->Nat->Heap->Prop):Prop:= ∃(l g:Nat)(i:Int),RN O id g i/\(Li f)/\(0<=D/\D<=4/\G< (l:Int))/\∀(m r:Int)(u:Y11)(y:Int)(z:List E)(j:Nat)(A:Heap),rO f K g j (E.mk m r u y z)->GN O id j i A->L
 l g i m r u y z j A
def S8(dp:Int)(g:Nat):Prop:=0<=wW (dp+1)/\wW (dp+1)<=3/\(2:Int)*((3:Int)-wW (dp+1))+1< (g:Int)
theorem f8G(T:Nat)(id:Nat)(f dp:Int)(r:Nat)(w:Int)(h:Heap)(Q:KT):dF (aU (aV 152 (a2X T) (aV 80 (Ek T) Uv))) env 152 (λk=>match Nat.beq k 27 with|true=>3|false=>0) bD (mJ 8 (f1M id f dp r w h)) [.ptr id 0,.int .i64 f,.int .i64 dp] h Q=(
 ∃(L:Nat)(X:Int),RN h id L X/\∀(n:Int)(h2:Heap),bE n->(L=0->n=0)->RN h2 id (L-1) X->HF id h h2->(Li f)/\((0:Int)<1000/\(1000:Int)<4611686018427387904)/\((0:Int)<16/\(16:Int)< (4611686018427387904:Int))/\aK (decide (dp>2)) (aK (decide (n% (16:Int)>=8)) (aK (decide (n% (16:Int)<12)) (yM id f dp n h2 w h r 0) (S7 h2 id n f dp w h r)) (S7 h2 id n f dp w h r)) (S7 h2 id n f dp w h r)/\∀(i:Int×Int×Heap)(b:FF),((0:Int)<=i.1/\i.1<1000)/\(0<=i.2.1/\i.2.1<16)/\(2<dp->i.2.1<8\/12<=i.2.1)/\(10<=w->i.2.1<10)/\GN h id (r-1) w (vL i)->aK (decide (i.2.1<6)) (aF (!((Au f):Int)==0) (aF (yN i ((Au f):Int)) (dU (List.map IV.str (cK f)) ((Int.tmod i.1 ((Au f):Int)).toNat*1) λs6=>mF id f (vL i) 0 4 4 (λd r w k n nm op ks m h2=>Q (.agg [.int .i64 1,IV.str s6,IV.str [],iI 0,iI 0,iI 0,IV.str [],iI 0,IV.vslice none 0 0 5 [],iI k,iI n,IV.str nm,iI op,IV.vslice none 0 ks.length 5 (bP ks),IV.vslice none 0 0 5 [],IV.vslice none 0 0 17 [],IV.vslice none 0 0 17 []]) h2)))) (aK (decide (i.2.1<8)) (aF (yN i 2) (dU [IV.str [97],IV.str [98]] ((Int.tmod i.1 2).toNat*1) λs7=>mF id f (vL i) 2 2 2 (λd r w k n nm op ks m h2=> ∃(d r:Nat)(w:Int),RN h2 id r w/\(Li f)/\((0:Int)<=1/\(1:Int)<=4/\(3:Int)< (d:Int))/\∀(z A:Int)(u:Y11)(y:Int)(j:List E)(m:Nat)(g:Heap),rO f 3 r m (E.mk z A u y j)->GN h2 id m w g->Q (.agg [.int .i64 2,IV.str s7,IV.str [],iI 0,iI k,iI n,IV.str nm,iI op,IV.vslice none 0 ks.length 5 (bP ks),iI z,iI A,IV.str u,iI y,IV.vslice none 0 j.length 5 (bP j),IV.vslice none 0 0 5 [],IV.vslice none 0 0 17 [],IV.vslice none 0 0 17 []]) g))) (aK (decide (i.2.1<10)) (mF id f (vL i) 1 3 3 (λd r w k n nm op ks m h2=> ∃(r:Nat)(w:Int),(RN h2 id r w/\0<=w/\w<=10)/\(Li f)/\(S8 dp T)/\c5U/\∀(l:List M10.S)(m:Nat)(D:Int)(g:Heap),jP f (a9Y dp) r m w D l->GN h2 id m D g-> ∃(r:Nat)(w:Int),(RN g id r w/\0<=w/\w<=10)/\(Li f)/\(S8 dp T)/\((0:Int)<=2/\(2:Int)<=10)/\∀(G:List M10.S)(m:Nat)(D:Int)(h2:Heap),jP f (a9Y dp) r m w D G->GN g id m D h2->Q (.agg [.int .i64 3,IV.str [],IV.str [],iI 0,iI 0,iI 0,IV.str [],iI 0,IV.vslice none 0 0 5 [],iI k,iI n,IV.str nm,iI op,IV.vslice none 0 ks.length 5 (bP ks),IV.vslice none 0 0 5 [],IV.vslice none 0 l.length 17 (bI l),IV.vslice none 0 G.length 17 (bI G)]) h2)) (aK (decide (i.2.1<12)) (aT (vL i) id λr8=>aN .i64 r8 1 λn9=>aT (vL i) id λK=>aF (Nat.ble 2 K.length) (mF id f ((vL i).set id (IObj.cells (List.take 1 K++ [iI (wW (n9+1))]++List.drop 2 K))) 1 3 3 (λd r w k n nm op ks m h2=> ∃(r:Nat)(w:Int),(RN h2 id r w/\0<=w/\w<=10)/\(Li f)/\(S8 dp T)/\c5U/\∀(l:List M10.S)(m:Nat)(D:Int)(g:Heap),jP f (a9Y dp) r m w D l->GN h2 id m D g->Q (.agg [.int .i64 4,IV.str [],IV.str [],iI 0,iI 0,iI 0,IV.str [],iI 0,IV.vslice none 0 0 5 [],iI k,iI n,IV.str nm,iI op,IV.vslice none 0 ks.length 5 (bP ks),IV.vslice none 0 0 5 [],IV.vslice none 0 l.length 17 (bI l),IV.vslice none 0 0 17 []]) g))) (aK (decide (i.2.1<14)) (mF id f (vL i) 1 3 3 (λd r w k n nm op ks m h2=>Q (.agg [.int .i64 5,IV.str [],IV.str [],iI 0,iI 0,iI 0,IV.str [],iI 0,IV.vslice none 0 0 5 [],iI k,iI n,IV.str nm,iI op,IV.vslice none 0 (ks.length) 5 (bP ks),IV.vslice none 0 0 5 [],IV.vslice none 0 0 17 [],IV.vslice none 0 0 17 []]) h2)) (aK (decide (i.2.1<15)) (aF (!((Au f):Int)==0) (aF (yN i ((Au f):Int)) (dU (List.map IV.str (cK f)) ((Int.tmod i.1 ((Au f):Int)).toNat*1) λO=>aF (yN i 2) (dU [IV.str [102],IV.str [103]] ((Int.tmod i.1 2).toNat*1) λR=>aK (decide (0<wW ((2:Int)-Int.tmod i.1 2))) (mF id f (vL i) 2 2 2 (λd r w k n nm op ks m h2=>aK (decide ((1:Int)<wW ((2:Int)-Int.tmod i.1 2))) (mF id f (h2.push (IObj.tip 5)) 2 2 2 (λd r w z A u y j m g=>lL g (h2.next) λY=>aF (Nat.beq Y 5 &&true) (aK (decide (2<wW ((2:Int)-Int.tmod i.1 2))) (mF id f (g.set (h2.next) (IObj.tip 10)) 2 2 2 (λd r w k n nm op ks m V=>lL V (h2.next) λZ=>aF (Nat.beq Z 10 &&true) False)) (Q (.agg [.int .i64 6,IV.str O,IV.str R,iI 0,iI 0,iI 0,IV.str [],iI 0,IV.vslice none 0 0 5 [],iI 0,iI 0,IV.str [],iI 0,IV.vslice none 0 0 5 [],IV.vslice none 0 2 5 [iI k,iI n,IV.str nm,iI op,IV.vslice none 0 ks.length 5 (bP ks),iI z,iI A,IV.str u,iI y,IV.vslice none 0 j.length 5 (bP j)],IV.vslice none 0 0 17 [],IV.vslice none 0 0 17 []]) (g.set (h2.next) (IObj.tip 10)))))) (Q (.agg [.int .i64 6,IV.str O,IV.str R,iI 0,iI 0,iI 0,IV.str [],iI 0,IV.vslice none 0 0 5 [],iI 0,iI 0,IV.str [],iI 0,IV.vslice none 0 0 5 [],IV.vslice none 0 1 5 [iI k,iI n,IV.str nm,iI op,IV.vslice none 0 ks.length 5 (bP ks)],IV.vslice none 0 0 17 [],IV.vslice none 0 0 17 []]) (h2.push (IObj.tip 5))))) (Q (.agg [.int .i64 6,IV.str O,IV.str R,iI 0,iI 0,iI 0,IV.str [],iI 0,IV.vslice none 0 0 5 [],iI 0,iI 0,IV.str [],iI 0,IV.vslice none 0 0 5 [],IV.vslice none 0 0 5 [],IV.vslice none 0 0 17 [],IV.vslice none 0 0 17 []]) (vL i)))))) (Q (.agg [.int .i64 7,IV.str [],IV.str [],iI i.1,iI 0,iI 0,IV.str [],iI 0,IV.vslice none 0 0 5 [],iI 0,iI 0,IV.str [],iI 0,IV.vslice none 0 0 5 [],IV.vslice none 0 0 5 [],IV.vslice none 0 0 17 [],IV.vslice none 0 0 17 []]) (vL i)))))))):=by kernel_rfl
theorem gSt: ∀d,(∀xs h Q,Ek d xs h Q->aM env 80 xs h Q)/\(∀xs h Q,a2X d xs h Q->aM env 152 xs h Q):=by
 intro d
 induction d with
 |zero=>
  refine⟨?_,?_⟩
  .intro xs h Q hk;unfold Ek at hk;split at hk
   .rename_i id f dp mo;obtain⟨r,w,hr,hf,hd,hm,hk⟩:=hk;have h1:=hd.2.1;have h2:=hd.2.2;omega
   .exact hk.elim
  .intro xs h Q hk;unfold a2X at hk;split at hk
   .rename_i id f dp;obtain⟨r,w,hr,hf,hd,hk⟩:=hk;have h1:=hd.2.1;have h2:=hd.2.2;omega
   .exact hk.elim
 |succ dd ih=>
  have hT:aS env (aV 152 (a2X dd) (aV 80 (Ek dd) Uv)):=aE (ih.2) (aE (ih.1) (c1V));refine⟨?_,?_⟩
  .intro xs h Q hk;unfold Ek at hk;split at hk
   .rename_i id f dp mo;obtain⟨r,w,hr,hf,hd,hm,hk⟩:=hk;refine aL hT (f3F dd id f dp mo r w h Q) ?_;delta yO yP S4 S6 yV Bk Zy S5 a5Z e6W e6V e6X Lf tI wW iI; (try dsimp -iota -proj only);obtain⟨hr,c9,a5⟩:=hr;obtain⟨d0,d2,d3⟩:=hd;have d8:IntKind.i64.wrap (mo+1)=mo+1:=AA _ JZ;rw [d8];refine⟨r,w,hr,λn h2 hn hz g1 g2=>⟨JZ,.inl ⟨((n% (mo+1)).toNat,r-1,w,h2),KD,KD,KD,KD,?_,KD,⟨?_,jP.mono (jP.nil a5) (Nat.sub_le _ _),g1,g2⟩,trivial⟩,?_,?_⟩⟩
    .dsimp only;rw [FX (CT _ JZ)]
    .have h1:=CT n (show mo+1≠0 by omega);have h2:=CR n (show 0<mo+1 by omega);dsimp only;omega
    .rintro⟨k,r1,w1,g⟩ _ ⟨a1,hp,u⟩;dsimp only at a1 hp u⊢;have R:=u;have b6:=hp.2.2.2.1;refine cV (λc1=>?_) (λ_=>hk [] r1 w1 g hp u);obtain⟨⟨a3,io,e,l,hb,a2,y⟩,b0⟩:=u;refine aC y (jK rfl (cV (λc2=>⟨r1,w1,⟨R.1,JZ,JZ,JZ⟩,hf,JZ,λk2 nm to n2 ak an a7 a8 a6 vk vn c0 c7 b9 a0 th el D w2 h3 p3 G=> .inr ⟨(k-1,D,w2,h3.push (.tip 17),[.mk k2 nm to n2 (.mk ak an a7 a8 a6) (.mk vk vn c0 c7 b9) a0 th el],h3.next),KD,KD,KD,KD,?_,KD,⟨?_,hp.snoc p3,(R.trans G).push,aW,?_,AQ _⟩,?_⟩⟩) (λ_=>hk [] r1 w1 g hp R)))
     .dsimp only;rw [AA _ JZ,show((k:Int)-1)=((k-1:Nat):Int) by omega]
     .dsimp only [List.length_cons,List.length_nil];omega
     .have:=R.2.1;have:=G.2.1;dsimp only;omega
     .dsimp only;omega
    .rintro⟨k,r1,w1,g,l0,i0⟩ _ ⟨a1,hp,u,ht,b1,b2⟩;dsimp only at a1 hp u ht b1 b2⊢;have R:=u;have b6:=hp.2.2.2.1;have e1:=hr.1;refine cV (λc1=>?_) (λ_=>hk l0 r1 w1 g hp u);obtain⟨⟨a3,io,e,l,hb,a2,y⟩,b0⟩:=u;refine aC y (jK rfl (cV (λc2=>⟨r1,w1,⟨R.1,JZ,JZ,JZ⟩,hf,JZ,λk2 nm to n2 ak an a7 a8 a6 vk vn c0 c7 b9 a0 th el D w2 h3 p3 G=>?_⟩) (λ_=>hk l0 r1 w1 g hp R)));have a4:i0≠id:=JZ;have d7:h3.get i0= .tip (l0.length*17):=by rw [G.2.2 _ b2 a4];exact ht
     have d4:i0<h3.next:=AU b2 G.2.1;refine bB d7 (aA (by simp only [AE,bT,BB,true_and];omega) (.inr ⟨(k-1,D,w2,h3.set i0 (.tip (l0.length*17+17)),l0++ [.mk k2 nm to n2 (.mk ak an a7 a8 a6) (.mk vk vn c0 c7 b9) a0 th el],i0),KD,KD,KD,?_,?_,KD,⟨?_,hp.snoc p3,(R.trans G).set b1 a4,?_,b1,d4⟩,?_⟩))
     .dsimp only;rw [Df,AI,CS];rfl
     .dsimp only;rw [AA _ JZ,show((k:Int)-1)=((k-1:Nat):Int) by omega]
     .dsimp only;rw [AI];show k-1+(l0.length+1)<=10;omega
     .dsimp only;rw [aH,AI,CS];rfl
     .dsimp only;omega
   .exact hk.elim
  .intro xs h Q hk;unfold a2X at hk;split at hk
   .rename_i id f dp;obtain⟨r,w,hr,hf,hd,hk⟩:=hk;refine aL hT (f8G dd id f dp r w h Q) ?_;delta Li yO Au c5V c5T yM S7 vL yN mF S8 c5U a9Y tI wW iI; (try dsimp -iota -proj only);obtain⟨hr,e4,c9,a5⟩:=hr;obtain⟨d0,d2,d3⟩:=hd;refine⟨r,w,hr,λn h2 hn hz g1 g2=>⟨hf,⟨KA,KA⟩,⟨KA,KA⟩,?_⟩⟩;have u:GN h id (r-1) w h2:=⟨g1,g2⟩;have K:=CT (IntKind.i64.wrap (Int.tdiv n 16)) (show(1000:Int)≠0 by decide);have T:=CR (IntKind.i64.wrap (Int.tdiv n 16)) (show(0:Int)<1000 by decide);have b3:=CT n (show(16:Int)≠0 by decide);have b4:=CR n (show(0:Int)<16 by decide);generalize IntKind.i64.wrap (Int.tdiv n 16)%1000=m at K T⊢;generalize n%16=k0 at b3 b4⊢;obtain⟨a3,io,e,l,hb,a2,y⟩:=g1;have e3:0< (cK f).length:=by rcases hf with rfl|rfl<;>decide
    refine⟨?_,?_⟩
    .refine cV (λc1=>cV (λc2=>cV (λc3=>⟨(m,0,h2),KD,KD,KD,KD,KD,KD,KD,KD,KD,⟨⟨K,T⟩,⟨KE,KE⟩,λ_=>KE,λ_=>KE,u⟩,trivial⟩) (λc3=>?_)) (λc2=>?_)) (λc1=>?_)
     all_goals
      have hp:2<dp->k0<8\/12<=k0:=JZ;exact aC y (cW rfl (cV (λc4=>cV (λ_=>⟨(m,0,h2),KD,KD,KD,KD,KD,KD,KD,KD,KD,⟨⟨K,T⟩,⟨KE,KE⟩,λ_=>KE,λ_=>KE,u⟩,trivial⟩) (λc5=>⟨(m,k0,h2),KD,KD,KD,KD,KD,KD,KD,KD,KD,⟨⟨K,T⟩,⟨KE,KE⟩,λ_=>KE,λ_=>KE,u⟩,trivial⟩)) (λc4=>⟨(m,k0,h2),KD,KD,KD,KD,KD,KD,KD,KD,KD,⟨⟨K,T⟩,⟨KE,KE⟩,λ_=>KE,λ_=>KE,u⟩,trivial⟩)))
    rintro⟨m,k,g⟩ _ ⟨⟨K,T⟩,⟨b3,b4⟩,d5,d6,u⟩;clear y a2 hb a3 hz hn;dsimp only at K T b3 b4 d5 d6 u⊢;have O:dp.toNat<=4:=JZ;have t1:0<=Int.tmod m ((cK f).length:Int)/\Int.tmod m ((cK f).length:Int)< (cK f).length:=by
     rw [CH K];exact⟨CT _ JZ,CR _ JZ⟩
    have t2:Int.tmod m 2=0\/Int.tmod m 2=1:=by
     rw [CH K];omega
    generalize Int.tmod m 2=m2 at t2⊢;generalize Int.tmod m ((cK f).length:Int)=ml at t1⊢;have nz:(!(((cK f).length:Int)==0))=true:=by simp only [BS,beq_eq_false_iff_ne];omega
    have i: ∀q,jP f (dp.toNat+1) q q w w []:=λq=>jP.nil a5
    have z1:(E.mk 0 0 [] 0 []).dp=0:=e7Z;have z2:(E.mk 0 0 [] 0 []).cost=0:=c7T;have Y: ∀x∈ ([]:List E),x.dp<=5:=λx hx=>by cases hx
    refine cV (λc1=>aA nz (aP t1 (Ep JZ λs hs=>?_))) (λc1=>cV (λc2=>aP JZ (Ep (l:=zW) (show m2.toNat*1<2 by omega) λs hs=>?_)) (λc2=>cV (λc3=>?_) (λc3=>cV (λc4=>?_) (λc4=>cV (λc5=>?_) (λc5=>cV (λc6=>?_) (λc6=>?_))))))
    .refine⟨5,r-1,w,u.1,hf,JZ,λV X z A Nn D h3 j G=>hk 1 s [] 0 0 0 [] 0 [] V X z A Nn [] [] [] D w h3 (I7.node (r0:=r-1) (.inl ⟨rfl,hs,rfl,rfl,rfl,j.1,rfl,rfl,rfl⟩) O ⟨JZ,by have:=j.2.1;omega,Y⟩ ⟨JZ,j.2.2.1⟩ ?_ (i D) (i D) KB) (u.trans G)⟩;have:=j.2.2.2;simp only [Es.cost];omega
    .refine⟨5,r-1,w,u.1,hf,JZ,λV X z A Nn D h3 j G=>⟨5,D,w,G.1,hf,JZ,λk2 n2 b7 b8 mK Z h4 L g4=>hk 2 s [] 0 V X z A Nn k2 n2 b7 b8 mK [] [] [] Z w h4 (I7.node (r0:=r-1) (r1:=Z) (.inr (.inl ⟨rfl,hs,rfl,rfl,j.1,L.1,rfl,rfl,rfl⟩)) O ⟨by have:=j.2.1;omega,by have:=L.2.1;omega,Y⟩ ⟨JZ,CG L.2.2.1 j.2.2.1⟩ ?_ (i Z) (i Z) KB) ((u.trans G).trans g4)⟩⟩;have:=j.2.2.2;have:=L.2.2.2;have:=j.2.2.1;have:=L.2.2.1;simp only [Es.cost];omega
    .have d1:dp<=2:=JZ;have b5:IntKind.i64.wrap (dp+1)=dp+1:=AA _ JZ;have a9:(dp+1).toNat=dp.toNat+1:=JZ;rw [b5,a9];refine⟨5,r-1,w,u.1,hf,JZ,λV X z A Nn D h3 j G=>⟨D,w,⟨G.1,c9,a5⟩,hf,JZ,JZ,λl Z w3 h4 L g4=>⟨Z,w3,⟨g4.1,by have:=L.2.2.2.1.1;omega,L.2.2.2.1.2⟩,hf,JZ,JZ,λl2 r4 w4 h5 p3 g5=>hk 3 [] [] 0 0 0 [] 0 [] V X z A Nn [] l l2 r4 w4 h5 (I7.node (r0:=r-1) (r1:=D) (.inr (.inr (.inl ⟨rfl,rfl,rfl,rfl,rfl,j.1,rfl⟩))) O ⟨JZ,by have:=j.2.1;omega,Y⟩ ⟨JZ,j.2.2.1⟩ ?_ L p3 KB) (((u.trans G).trans g4).trans g5)⟩⟩⟩;have:=j.2.2.2;simp only [Es.cost];omega
    .have d1:dp<=2:=JZ;have b5:IntKind.i64.wrap (dp+1)=dp+1:=AA _ JZ;have a9:(dp+1).toNat=dp.toNat+1:=JZ;have b6:w+1<=10:=JZ;rw [b5,a9];obtain⟨⟨a3,io,e,l,hb,a2,y⟩,b0⟩:=u;refine aC y (cW rfl (aC y (aA rfl ?_)));have gw:GN h id (r-1) (w+1) (g.set id (IObj.cells (List.take 1 [.vslice io e l.length 1 (l.map (IV.int .i64)),.int .i64 w]++ [.int .i64 (IntKind.i64.wrap (w+1))]++List.drop 2 [.vslice io e l.length 1 (l.map (IV.int .i64)),.int .i64 w]))):=⟨RN.wl a3 hb a2 (AA _ JZ),b0.trans HF.set⟩;generalize Heap.set g id (IObj.cells (List.take 1 [.vslice io e l.length 1 (l.map (IV.int .i64)),.int .i64 w]++ [.int .i64 (IntKind.i64.wrap (w+1))]++List.drop 2 [.vslice io e l.length 1 (l.map (IV.int .i64)),.int .i64 w]))=g2 at gw⊢;refine⟨5,r-1,w+1,gw.1,hf,JZ,λV X z A Nn D h3 j G=>⟨D,w+1,⟨G.1,JZ,b6⟩,hf,JZ,JZ,λl Z w3 h4 L g4=>hk 4 [] [] 0 0 0 [] 0 [] V X z A Nn [] l [] Z w3 h4 (I7.node (r0:=r-1) (r1:=D) (wa:=w+1) (.inr (.inr (.inr (.inl ⟨rfl,rfl,rfl,rfl,rfl,j.1,rfl,rfl⟩)))) O ⟨JZ,by have:=j.2.1;omega,Y⟩ ⟨JZ,j.2.2.1⟩ ?_ L (jP.nil L.2.2.2.1.2) KB) ((gw.trans G).trans g4)⟩⟩;have:=j.2.2.2;simp only [Es.cost];omega
    .refine⟨5,r-1,w,u.1,hf,JZ,λV X z A Nn D h3 j G=>hk 5 [] [] 0 0 0 [] 0 [] V X z A Nn [] [] [] D w h3 (I7.node (r0:=r-1) (r1:=D) (.inr (.inr (.inr (.inr (.inl ⟨rfl,rfl,rfl,rfl,rfl,j.1,rfl,rfl,rfl⟩))))) O ⟨JZ,by have:=j.2.1;omega,Y⟩ ⟨JZ,j.2.2.1⟩ ?_ (i D) (i D) KB) (u.trans G)⟩;have:=j.2.2.2;simp only [Es.cost];omega
    .refine aA nz (aP t1 (Ep JZ λs hs=>aP JZ ?_));rcases t2 with rfl|rfl
     .refine qR rfl (brT KA ⟨5,r-1,w,u.1,hf,JZ,λV X z A Nn D h3 j G=>brT KA ⟨5,D,w,G.1.push,hf,JZ,λk2 n2 b7 b8 mK Z h4 L g4=>?_⟩⟩);have e2:=u.1.1;have d9:id<h3.next:=G.1.1;have a4:h3.next≠id:=JZ;have c8:h4.get h3.next= .tip 5:=by
       rw [g4.2.2 _ (AQ _) a4];exact aW
      refine bB c8 (aA rfl (qQ KA ?_));refine hk 6 s [102] 0 0 0 [] 0 [] 0 0 [] 0 [] [.mk V X z A Nn,.mk k2 n2 b7 b8 mK] [] [] Z w _ (I7.node (r0:=r-1) (r1:=Z) (.inr (.inr (.inr (.inr (.inr (.inl ⟨rfl,hs,.inl ⟨rfl,rfl⟩,rfl,rfl,rfl,⟨j.1,L.1,trivial⟩,rfl,rfl⟩)))))) O ⟨JZ,JZ,λx hx=>?_⟩ ⟨JZ,CG L.2.2.1 j.2.2.1⟩ ?_ (i Z) (i Z) KB) (((u.trans G).push.trans g4).set ?_ a4)
      .rcases CD.1 hx with rfl|hx
       .have:=j.2.1;omega
       .rw [BU.1 hx];have:=L.2.1;omega
      .have:=j.2.2.2;have:=L.2.2.2;have:=j.2.2.1;have:=L.2.2.1;simp only [Es.cost];omega
      .have:=u.2.1;have:=G.2.1;omega
     .refine qR rfl (brT KA ⟨5,r-1,w,u.1,hf,JZ,λV X z A Nn D h3 j G=>qQ KA ?_⟩);refine hk 6 s [103] 0 0 0 [] 0 [] 0 0 [] 0 [] [.mk V X z A Nn] [] [] D w _ (I7.node (r0:=r-1) (r1:=D) (.inr (.inr (.inr (.inr (.inr (.inl ⟨rfl,hs,.inr ⟨rfl,rfl⟩,rfl,rfl,rfl,⟨j.1,trivial⟩,rfl,rfl⟩)))))) O ⟨JZ,JZ,λx hx=>?_⟩ ⟨JZ,j.2.2.1⟩ ?_ (i D) (i D) KB) (u.trans G).push
      .rw [BU.1 hx];have:=j.2.1;omega
      .have:=j.2.2.2;simp only [Es.cost];omega
    .exact hk 7 [] [] m 0 0 [] 0 [] 0 0 [] 0 [] [] [] [] (r-1) w g (I7.node (r0:=r-1) (r1:=r-1) (.inr (.inr (.inr (.inr (.inr (.inr ⟨rfl,rfl,rfl,⟨K,T⟩,rfl,rfl,rfl,rfl,rfl⟩)))))) O ⟨JZ,JZ,Y⟩ ⟨JZ,AF _⟩ (by simp only [Es.cost];omega) (i _) (i _) KB) u
   .exact hk.elim
def d4K:=aV 80 (λxs h K=> ∃d,Ek d xs h K) Uv
theorem e1N:aS env d4K:=aE (λxs h Q hk=>hk.elim λd hk=>(gSt d).1 xs h Q hk) (c1V)
def d8K:=aV 152 (λxs h K=> ∃d,a2X d xs h K) d4K
theorem d5W:aS env d8K:=aE (λxs h Q hk=>hk.elim λd hk=>(gSt d).2 xs h Q hk) (e1N)
def e0C(xs:Y14)(h:Heap)(K:KT):Prop:=match xs with
 | [.vslice none e0 n0 1 c0]=> ∃l:Y12,(n0=l.length/\c0=l.map (IV.int .i64))/\(∀x∈l,bE x)/\∀(j m:Int)(g:List S)(r:E)(i:List S)(u:E),PP j m g r i u->K (.agg [.vslice none 0 2 2 (a0J j m),.vslice none 0 2 9 (fnC g r i u)]) h
 |_=>False
def e6B(l:Y12):=if 60< (l.length:Int)then(60:Int)else(l.length:Int)
abbrev e6C:=(0:Int)<4/\(4:Int)<4611686018427387904
def qD(l:Y12):Nat:=(e6B l).toNat-0
def Jp(z:Nat)(y:Heap)(Y:Heap)(Z:Nat)(g:Int)(a4:Int)(a5:Nat)(a0:Int)(a6:Nat)(u:Nat)(a1:Nat)(a8:Nat)(a7:Int->Y11->Int->List E->Heap->Y14->Int->Prop):Prop:= ∃(l:Int),(RN Y z Z l/\0<=l/\l<=10)/\(g=0\/g=1)/\(0<=g/\g<=3/\a4< (a5:Int))/\(0<=a0/\a0<=10)/\∀(i:List M10.S)(A:Nat)(D:Int)(m:Heap),jP g a6 Z A l D i->GN Y z A D m->aT
 m (y.next) λj=>aF (Nat.ble u j.length) (∃(a2 G:Nat)(K:Int),RN (m.set (y.next) (IObj.cells (List.take a1 j++ [IV.vslice none 0 i.length 17 (bI i)]++List.drop u j))) z G K/\(g=0\/g=1)/\((0:Int)<=1/\
 (1:Int)<=4/\3< (a2:Int))/\∀(L O:Int)(R:Y11)(T:Int)(V:List E)(X:Nat)(r:Heap),rO g 3 G X (E.mk L O R T V)->GN (m.set (y.next) (IObj.cells (List.take a1 j++ [IV.vslice none 0 i.length 17
 (bI i)]++List.drop u j))) z X K r->aT r (y.next) λa3=>a7 O R T V r a3 L)
def Jq(g:Int)(i:Y14):IV:=IV.agg [.vslice none 0 2 2 [IV.str [97],iI (wW ((1:Int)+g% (4:Int))),IV.str [98],iI (wW ((1:Int)+wW (Int.tdiv g 4)% (4:Int)))],IV.vslice none 0 2 9 (List.take 18 i)]
def Jo(r:Nat)(Q:KT)(h:Heap)(R:Heap)(l:Nat):Prop:= ∃(y:Int),RN R l r y/\∀(m:Int)(g:Heap),bE m->(r=0->m=0)->RN g l (r-1) y->HF l R g->e6C/\e6C/\∃(T V:Nat),Jp l g (g.push (IObj.cells [IV.str [102],IV.vslice none 1 2 1 [IV.str [120],IV.str [121]],IV.vslice none 1 2 1 [IV.str
 [105],IV.str [106]],IV.nilslice,iI 0,iI 0,IV.str [],iI 0,IV.nilslice,IV.str [103],IV.vslice none 1 1 1 [IV.str [110]],IV.vslice none 1 1 1 [IV.str [105]],IV.nilslice,iI 0,iI 0,IV.str [],iI 0,IV.nilslice])) V 0 7 T 5 0 4 3 9 (fun
 zb17 zb18 zb19 zb20 zb22 zb23 zb16=>aF (Nat.ble 9 zb23.length) (∃(z A:Nat),Jp l g (zb22.set (g.next) (IObj.cells (List.take 4 zb23++ [iI zb16,iI zb17,IV.str zb18,iI zb19,IV.vslice none 0 zb20.length 5 (bP zb20)]++List.drop 9 zb23))) A 1 5
 z 3 1 13 12 18 (λG K L u O i D=>aF (Nat.ble 18 i.length) (aT (O.set (g.next) (IObj.cells (List.take 13 i++ [iI D,iI G,IV.str K,iI L,IV.vslice none 0 u.length 5 (bP u)]++List.drop
 18 i))) (g.next) λj=>aF (true&&Nat.ble 18 j.length) (aF (aQ [Jq m j]) (Q (Jq m j) h))))))
theorem f7W(l:Y12)(e0:Nat)(h:Heap)(Q:KT):dF (aU d8K) env 34 cC bD bD [.vslice none e0 (l).length 1 ((l).map (IV.int .i64))] h Q=(
 aF (aQ [IV.vslice none 0 l.length 1 (List.map (IV.int .i64) l)]) (aF (true&& (decide (0<=if 60< (l.length:Int)then(60:Int)else(l.length:Int)) &&decide ((e6B l)<=(l.length:Int)))) (aK (Nat.beq (qD l) 0) (∃(r:Nat),Jo r Q h (Heap.mk (PT.node PT.nil (some (IObj.cells [IV.vslice none 1 0 1 [],iI 0])) PT.nil) ((0:Nat)+1)) 0) (aF (Nat.ble (((0:Nat)+(qD l))*8) 140737488355328) (∃(r:Nat),Jo r Q h (Heap.mk (PT.node (PT.node PT.nil (some (IObj.cells [IV.vslice (some (0:Nat)) (((0:Nat)+(qD l))*1) ((0:Nat)+(qD l)) 1 ([]++List.take ((qD l)*1) (List.drop 0 (List.map (IV.int .i64) l))),iI 0])) PT.nil) (some (IObj.tip (((0:Nat)+(qD l))*1))) PT.nil) ((0:Nat)+1+1)) ((0:Nat)+1)))))):=by kernel_rfl
theorem e9W: ∀xs h Q,e0C xs h Q->aM env 34 xs h Q:=by
 intro xs h Q hk;unfold e0C at hk;split at hk
 .rename_i e0 n0 c0;obtain⟨l,⟨rfl,rfl⟩,hb,hk⟩:=hk;refine aL (d5W) (f7W l e0 h Q) ?_;delta e6B qD e6C Jp Jq Jo wW iI; (try dsimp -iota -proj only);have a0:l.length<=9223372036854775807\/True:= .inr trivial;refine aA (by simp only [aQ,aY,bL,AN]) (aA (by simp only [BD,AE,decide_eq_true_eq];split<;>omega) ?_);obtain⟨K,hK,a1,a2⟩: ∃K:Nat,(Int.toNat (if(60:Int)< (l.length:Int)then 60 else(l.length:Int))-0)=K/\K<=60/\K<=l.length:=⟨_,rfl,by split<;>omega,by split<;>omega⟩
  rw [hK];refine aB (λc=>?_) (λc=>aA (by rw [BB];omega) ?_)
  .have u:RN (Heap.mk (PT.node PT.nil (some (IObj.cells [IV.vslice none 1 0 1 [],IV.int .i64 0])) PT.nil) (0+1)) 0 0 0:=⟨Nat.one_pos,none,1,[],λx hx=>(by cases hx),rfl,rfl⟩;refine⟨0,0,u,λn h2 hn hz X g2=>⟨⟨KA,KA⟩,⟨KA,KA⟩,10,0-1,0,⟨X.push,KA,KA⟩,.inl rfl,⟨KA,KA,KA⟩,⟨KA,KA⟩,λG r1 r h3 y z=>?_⟩⟩;have g:h2.next≠0:=DL X.1;have O:=z.2.2 h2.next (AQ _) g;rw [aW]at O;have Z:h2.next<h3.next:=AU (AQ _) z.2.1;refine aC O (aA rfl ⟨5,r1,r,z.1.set g,.inl rfl,⟨KA,KA,KA⟩,λk n1 nm op ks r2 h4 p2 A=>?_⟩);have R:=A.2.2 h2.next Z g;rw [aH]at R;have l4:h2.next<h4.next:=AU Z A.2.1;have m:0<=r/\r<=10:=by have:=y.2.2.2.1;omega
   refine aC R (aA rfl ⟨10,r2,r,⟨A.1.set g,m⟩,.inr rfl,⟨KA,KA,KA⟩,⟨KA,KA⟩,λL r3 w3 h5 p3 D=>?_⟩);have T:=D.2.2 h2.next l4 g;rw [aH]at T;have l5:h2.next<h5.next:=AU l4 D.2.1;refine aC T (aA rfl ⟨5,r3,w3,D.1.set g,.inr rfl,⟨KA,KA,KA⟩,λY n2 i j mK r4 h6 p4 q4=>?_⟩);have V:=q4.2.2 h2.next l5 g;rw [aH]at V;refine aC V (aA rfl (aC aH (aA rfl ?_)));have m0:=CT n (show(4:Int)≠0 by decide);have m1:=CR n (show(0:Int)<4 by decide);have m2:=CT (IntKind.i64.wrap (Int.tdiv n 4)) (show(4:Int)≠0 by decide);have m3:=CR (IntKind.i64.wrap (Int.tdiv n 4)) (show(0:Int)<4 by decide);have pp:PP (IntKind.i64.wrap (1+n%4)) (IntKind.i64.wrap (1+IntKind.i64.wrap (Int.tdiv n 4)%4)) G (.mk k n1 nm op ks) L (.mk Y n2 i j mK):=by
    refine⟨⟨?_,?_,?_,?_⟩,GB.mk0 y p2 JZ (DX _),GB.mk0 p3.dp0 p4 (by have:=y.2.2.2.2.2.2;have:=p2.2.2.1;omega) m.1⟩
    all_goals rw [AA _ JZ];omega
   exact aA (PP.pure pp) (hk _ _ G (.mk k n1 nm op ks) L (.mk Y n2 i j mK) pp)
  .have u:RN (Heap.mk (PT.node (PT.node PT.nil (some (IObj.cells [IV.vslice (some 0) ((0+K)*1) (0+K) 1 ([]++List.take (K*1) (List.drop 0 (List.map (IV.int .i64) l))),IV.int .i64 0])) PT.nil) (some (IObj.tip ((0+K)*1))) PT.nil) (0+1+1)) (0+1) K 0:=by
    refine⟨AQ _,some 0,(0+K)*1,l.take K,λx hx=>hb x (DY hx),by rw [AW];omega,?_⟩;show(IObj.cells _:IObj)=_;rw [AW,show min K l.length=K by omega,FA];simp
   refine⟨K,0,u,λn h2 hn hz X g2=>⟨⟨KA,KA⟩,⟨KA,KA⟩,10,K-1,0,⟨X.push,KA,KA⟩,.inl rfl,⟨KA,KA,KA⟩,⟨KA,KA⟩,λG r1 r h3 y z=>?_⟩⟩;have g:h2.next≠0+1:=DL X.1;have O:=z.2.2 h2.next (AQ _) g;rw [aW]at O;have Z:h2.next<h3.next:=AU (AQ _) z.2.1;refine aC O (aA rfl ⟨5,r1,r,z.1.set g,.inl rfl,⟨KA,KA,KA⟩,λk n1 nm op ks r2 h4 p2 A=>?_⟩);have R:=A.2.2 h2.next Z g;rw [aH]at R;have l4:h2.next<h4.next:=AU Z A.2.1;have m:0<=r/\r<=10:=by have:=y.2.2.2.1;omega
   refine aC R (aA rfl ⟨10,r2,r,⟨A.1.set g,m⟩,.inr rfl,⟨KA,KA,KA⟩,⟨KA,KA⟩,λL r3 w3 h5 p3 D=>?_⟩);have T:=D.2.2 h2.next l4 g;rw [aH]at T;have l5:h2.next<h5.next:=AU l4 D.2.1;refine aC T (aA rfl ⟨5,r3,w3,D.1.set g,.inr rfl,⟨KA,KA,KA⟩,λY n2 i j mK r4 h6 p4 q4=>?_⟩);have V:=q4.2.2 h2.next l5 g;rw [aH]at V;refine aC V (aA rfl (aC aH (aA rfl ?_)));have m0:=CT n (show(4:Int)≠0 by decide);have m1:=CR n (show(0:Int)<4 by decide);have m2:=CT (IntKind.i64.wrap (Int.tdiv n 4)) (show(4:Int)≠0 by decide);have m3:=CR (IntKind.i64.wrap (Int.tdiv n 4)) (show(0:Int)<4 by decide);have pp:PP (IntKind.i64.wrap (1+n%4)) (IntKind.i64.wrap (1+IntKind.i64.wrap (Int.tdiv n 4)%4)) G (.mk k n1 nm op ks) L (.mk Y n2 i j mK):=by
    refine⟨⟨?_,?_,?_,?_⟩,GB.mk0 y p2 JZ (DX _),GB.mk0 p3.dp0 p4 (by have:=y.2.2.2.2.2.2;have:=p2.2.2.1;omega) m.1⟩
    all_goals rw [AA _ JZ];omega
   exact aA (PP.pure pp) (hk _ _ G (.mk k n1 nm op ks) L (.mk Y n2 i j mK) pp)
 .exact hk.elim
def d8A:=aV 34 e0C d8K
theorem d5M:aS env d8A:=aE e9W (d5W)
def e9E(l:List (Y11))(s:Y11):Inv':=dL Nat (λi=>[(0,.v (.vslice none 0 l.length 1 (l.map IV.str))),(1,.v (.str s)),(5,.v (.int .i64 (i:Int)))]) (λ_=>[]) (λ_=>Heap.empty) (λi=>i<=l.length/\s∉l.take i) (λi=>l.length-i)
def b8Y(xs:Y14)(h:Heap)(K:KT):Prop:=match xs with
 | [.vslice none 0 m 1 c,.str s]=> ∃l:List (Y11),(m=l.length/\c=l.map IV.str)/\l.length<=1000/\K (.bool (decide (s∈l))) h
 |_=>False
def lZ(g:TV)(i:IV)(j:IV)(l:Prop):Prop:=some g=some g/\some (TV.v i)=some (TV.v j)/\l
def Ip(l:List Bs)(s:Bs)(i:Int)(g:Nat)(j:Prop):Prop:=lZ (TV.v (.vslice none 0 l.length 1 (List.map IV.str l))) (IV.str s) (IV.str s) (tI i=tI (g:Int)/\Heap.mk PT.nil 0=Heap.mk PT.nil 0/\(g<=l.length/\¬s∈List.take g l)/\j)
def jA(g:Nat)(i:Int):Bool:=decide (0<=(g:Int)) &&decide ((g:Int)<i)
theorem f2T(l:List Bs)(s:Bs)(h:Heap)(Q:KT):dF (aU d8A) env 201 cC (mJ 3 (e9E l s)) bD [.vslice none 0 l.length 1 (l.map IV.str),.str s] h Q=(
 aF (aQ [IV.vslice none 0 l.length 1 (List.map IV.str l),IV.str s]) ((∃(x:Nat),Ip l s 0 x True)/\∀(x:Nat)(b:FF),x<=l.length/\¬s∈List.take x l->aK (decide ((x:Int)< (l.length:Int))) (aF (jA x (l.length:Int)) (dU (List.map IV.str l) ((x:Int).toNat*1) λi=>aK (i==s) (Q (.bool true) h) (∃(g:Nat),Ip l s (wW ((x:Int)+1)) g (l.length-g<l.length-x)))) (Q (.bool false) h))):=by kernel_rfl
theorem f0E: ∀xs h Q,b8Y xs h Q->aM env 201 xs h Q:=by
 intro xs h Q hk;unfold b8Y at hk;split at hk
 .rename_i m c s;obtain⟨l,⟨rfl,rfl⟩,y,hk⟩:=hk;refine aL (d5M) (f2T l s h Q) ?_;delta lZ Ip jA tI wW;refine aA (by simp only [aQ,aY,bF,bV,bK,cI,AN]) ⟨⟨0,KD,KD,KD,KD,⟨AR _,KB⟩,trivial⟩,?_⟩;rintro i _ ⟨u,r⟩;refine cV (λc=>?_) (λc=>?_)
  .have g:i<l.length:=JZ;refine aP JZ (qR (b:=l[i]) (by rw [AK,AM,BJ,AB g];rfl) (aB (λj=>?_) (λj=>⟨i+1,KD,KD,(by(try dsimp only);rw [AA _ JZ];rfl),KD,⟨g,?_⟩,JZ⟩)))
   .rw [beq_iff_eq]at j;have e:s∈l:=j▸AG g
    rwa [decide_eq_true e]at hk
   .rw [beq_eq_false_iff_ne]at j;rw [AO g,BZ,BU];exact λq=>q.elim r λq=>j q.symm
  .rw [AJ JZ]at r
   rwa [decide_eq_false r]at hk
 .exact hk.elim
def d4J:=aV 201 b8Y d8A
theorem e1M:aS env d4J:=aE f0E (d5M)
def e0K(xs:Y14)(h:Heap)(K:KT):Prop:=match xs with
 | [.str s]=>s∈oQ/\K (.bool true) h
 |_=>False
theorem f6L: ∀xs h Q,e0K xs h Q->aM env 198 xs h Q:=by
 intro xs h Q hk;unfold e0K at hk;split at hk
 .rename_i s;obtain⟨g,hk⟩:=hk;simp only [oQ,CD,DW,or_false]at g;rcases g with rfl|rfl|rfl|rfl|rfl|rfl|rfl|rfl|rfl<;>exact⟨60,_,h,by kernel_rfl,hk⟩
 .exact hk.elim
def d8M:=aV 198 e0K d4J
theorem d5Y:aS env d8M:=aE f6L (e1M)
def e0F(xs:Y14)(h:Heap)(K:KT):Prop:=match xs with
 | [.agg [.vslice none 0 2 2 ac,.vslice none 0 2 9 fc],.str s]=>sC ac fc/\(s=[102] \/s=[103])/\K (.int .i64 (if s=[102]then 0 else 1)) h
 |_=>False
theorem f8B(z A:Int)(u:List S)(D G:Int)(j:Y11)(l:Int)(g:List E)(y:List S)(K L:Int)(m:Y11)(r:Int)(i:List E)(s:Y11)(h:Heap)(Q:KT):dF (aU d8M) env 202 (λk=>if k=3 then 3 else 0) bD bD [.agg [.vslice none 0 2 2 [.str [97],.int .i64 z,.str [98],.int .i64 A],.vslice none 0 2 9 [.str [102],.vslice none 1 2 1 [.str [120],.str [121]],.vslice none 1 2 1 [.str [105],.str [106]],.vslice none 0 u.length 17 (bI u),.int .i64 D,.int .i64 G,.str j,.int .i64 l,.vslice none 0 g.length 5 (bP g),.str [103],.vslice none 1 1 1 [.str [110]],.vslice none 1 1 1 [.str [105]],.vslice none 0 y.length 17 (bI y),.int .i64 K,.int .i64 L,.str m,.int .i64 r,.vslice none 0 i.length 5 (bP i)]],.str s] h Q=(
 aF (aQ [IV.agg [.vslice none 0 2 2 [IV.str [97],iI z,IV.str [98],iI A],IV.vslice none 0 2 9 [IV.str [102],IV.vslice none 1 2 1 [IV.str [120],IV.str [121]],IV.vslice none 1 2 1 [IV.str [105],IV.str [106]],IV.vslice none 0 u.length 17 (bI u),iI D,iI G,IV.str j,iI l,IV.vslice none 0 (g.length) 5 (bP g),IV.str [103],IV.vslice none 1 1 1 [IV.str [110]],IV.vslice none 1 1 1 [IV.str [105]],IV.vslice none 0 y.length 17 (bI y),iI K,iI L,IV.str m,iI r,IV.vslice none 0 i.length 5 (bP i)]],IV.str s]) (aK ([102]==s) (Q (.int .i64 0) h) (aK ([103]==s) (Q (.int .i64 1) h) (Q (.int .i64 (-1:Int)) h)))):=by kernel_rfl
theorem f6G: ∀xs h Q,e0F xs h Q->aM env 202 xs h Q:=by
 intro xs h Q hk;unfold e0F at hk;split at hk
 .rename_i R T s;obtain⟨⟨A,D,u,⟨G,K,i,j,g⟩,y,⟨L,O,m,r,l⟩,rfl,rfl⟩,z,hk⟩:=hk;refine aL (d5Y) (f8B A D u G K i j g y L O m r l s h Q) ?_;delta iI;refine aA (by simp only [aQ,aY,bF,bV,bK,cI,AN]) ?_;rcases z with rfl|rfl
  .exact aB (λ_=>hk) (λc=>absurd c KA)
  .exact aB (λc=>absurd c KA) (λ_=>aB (λ_=>hk) (λc=>absurd c KA))
 .exact hk.elim
def d8F:=aV 202 e0F d8M
theorem d5R:aS env d8F:=aE f6G (d5Y)
def b8U(xs:Y14)(h:Heap)(K:KT):Prop:=match xs with
 | [.int .i64 op]=>K (.bool (decide (4<=op/\op<=18))) h
 |_=>False
theorem f2P(op:Int)(h:Heap)(Q:KT):dF (aU d8F) env 220 cC bD bD [.int .i64 op] h Q=(
 aK (decide (op>=4)) (Q (.bool (decide (op<=18))) h) (Q (.bool false) h)):=by kernel_rfl
theorem f0B: ∀xs h Q,b8U xs h Q->aM env 220 xs h Q:=by
 intro xs h Q hk;unfold b8U at hk;split at hk
 .rename_i op;refine aL (d5R) (f2P op h Q) ?_;refine cV (λc=>bN hk ?_) (λc=>bN hk ?_)
  .congr 1
   rw [decide_eq_decide];omega
  .congr 1
   rw [decide_eq_false_iff_not];omega
 .exact hk.elim
def b5R:=aV 220 b8U d8F
theorem c1P:aS env b5R:=aE f0B (d5R)
def b9P(xs:Y14)(h:Heap)(K:KT):Prop:=match xs with
 | [.agg [.int .i64 k,.int .i64 n,.str nm,.int .i64 op,.vslice none 0 m 5 c]]=>(k=0/\n=0/\nm=[]/\op=0/\m=0/\c=[])/\K (.bool true) h
 |_=>False
theorem f3K(k n:Int)(nm:Y11)(op:Int)(m:Nat)(c:Y14)(h:Heap)(Q:KT):dF (aU b5R) env 230 cC bD bD [.agg [.int .i64 k,.int .i64 n,.str nm,.int .i64 op,.vslice none 0 m 5 c]] h Q=(
 aF (aQ [IV.agg [.int .i64 k,iI n,IV.str nm,iI op,IV.vslice none 0 m 5 c]]) (aK (k==0) (aK (n==0) (aK (nm==[]) (aK (op==0) (Q (.bool ((m:Int)==0)) h) (Q (.bool false) h)) (Q (.bool false) h)) (Q (.bool false) h)) (Q (.bool false) h))):=by kernel_rfl
theorem f0R: ∀xs h Q,b9P xs h Q->aM env 230 xs h Q:=by
 intro xs h Q hk;unfold b9P at hk;split at hk
 .rename_i k n nm op m c;refine aL (c1P) (f3K k n nm op m c h Q) ?_;delta iI;obtain⟨⟨rfl,rfl,rfl,rfl,rfl,rfl⟩,hk⟩:=hk;exact aA rfl hk
 .exact hk.elim
def b6O:=aV 230 b9P b5R
theorem c2I:aS env b6O:=aE f0R (c1P)
def e7Y(k n:Int)(nm:Y11)(op:Int)(ks:List E):Inv':=dL (Nat×Nat) (λx=>[(1,.l 1 0),(3,.v (.int .i64 (x.2:Int))),(4,.v (.int .i64 (x.1:Int)))]) (λ_=>[(1,[.int .i64 k,.int .i64 n,.str nm,.int .i64 op,.vslice none 0 ks.length 5 (bP ks)])]) (λ_=>Heap.empty) (λx=>x.1<=ks.length/\x.2=Es.dp (ks.take x.1)) (λx=>ks.length-x.1)
def Vy(d:Nat)(xs:Y14)(h:Heap)(K:KT):Prop:=match xs with
 | [.agg [.int .i64 k,.int .i64 n,.str nm,.int .i64 op,.vslice none 0 m 5 c]]=> ∃(ks:List E)(f:Int),(m=ks.length/\c=bP ks)/\(Es.dp ks<d/\Es.dp ks<=1000/\ks.length<=3/\Es.wf f ks)/\K (.int .i64 (Es.dp ks:Int)) h
 |_=>False
def b0H(k n op:Int)(nm:Y11)(ks:List E):=[iI k,iI n,IV.str nm,iI op,IV.vslice none 0 ks.length 5 (bP ks)]
def Io(k:Int)(n:Int)(nm:Y11)(op:Int)(ks:List E)(i:Int)(g:Nat×Nat)(j:Int)(m:Prop):Prop:=lZ (TV.l 1 0) (iI i) (iI (g.2:Int)) (tI j=tI (g.1:Int)/\some (b0H k n op nm ks)=some (b0H k n op nm ks)/\Heap.mk PT.nil 0=Heap.mk PT.nil 0/\(g.1<=ks.length/\g.2=Es.dp (List.take g.1 ks))/\m)
theorem f2U(l:Nat)(k n:Int)(nm:Y11)(op:Int)(ks:List E)(h:Heap)(Q:KT):dF (aU (aV 197 (Vy l) b6O)) env 197 cC (mJ 4 (e7Y k n nm op ks)) bD [.agg [.int .i64 k,.int .i64 n,.str nm,.int .i64 op,.vslice none 0 ks.length 5 (bP ks)]] h Q=(
 aF (aQ [IV.agg (b0H k n op nm ks)]) ((∃(i:Nat×Nat),Io k n nm op ks 0 i 0 True)/\∀(i:Nat×Nat)(b:FF),i.1<=ks.length/\i.2=Es.dp (List.take i.1 ks)->aK (decide ((i.1:Int)< (ks.length:Int))) (aF (jA i.1 (ks.length:Int)) (aN .i64 (bP ks) ((i.1:Int).toNat*5) λz=>aN .i64 (bP ks) ((i.1:Int).toNat*5+1) λA=>dU (bP ks) ((i.1:Int).toNat*(5:Nat)+1+1) λG=>aN .i64 (bP ks) ((i.1:Int).toNat*5+1+1+1) λD=>bM 5 (bP ks) ((i.1:Int).toNat*5+1+1+1+1) λy u r m=> ∃(g:List E)(f:Int),(r=g.length/\m=bP g)/\(Es.dp g<l/\Es.dp g<=1000/\g.length<=3/\Es.wf f g)/\∃(j:Nat×Nat),Io k n nm op ks (if wW ((1:Int)+((Es.dp g):Int))>(i.2:Int)then wW ((1:Int)+((Es.dp g):Int))else(i.2:Int)) j (wW ((i.1:Int)+1)) (ks.length-j.1<ks.length-i.1))) (Q (.int .i64 (i.2:Int)) h))):=by kernel_rfl
theorem e9C: ∀d xs h Q,Vy d xs h Q->aM env 197 xs h Q:=by
 intro d
 induction d with
 |zero=>
  intro xs h Q hk;unfold Vy at hk;split at hk
  .rename_i k n nm op m c;obtain⟨ks,f,⟨rfl,rfl⟩,⟨hd,u,l,r⟩,hk⟩:=hk;omega
  .exact hk.elim
 |succ dd ih=>
  intro xs h Q hk;unfold Vy at hk;split at hk
  .rename_i k n nm op m c;obtain⟨ks,f,⟨rfl,rfl⟩,⟨hd,u,l,r⟩,hk⟩:=hk;refine aL (aE ih (c2I)) (f2U dd k n nm op ks h Q) ?_;delta b0H lZ Io jA tI wW iI;refine aA (by simp only [aQ,aY,bF,bV,bK,cI,AN]) ⟨⟨(0,0),KD,KD,KD,KD,KD,⟨AR _,rfl⟩,trivial⟩,?_⟩;rintro⟨i,m⟩ _ ⟨y,hm⟩;dsimp only at y hm⊢;subst hm;refine cV (λc=>?_) (λc=>?_)
   .have g:i<ks.length:=JZ;refine aP JZ (Ly g (by rw [AK]) λD G z A q e=>?_);have h1:=Es.dp_mem (AG g);have h2:ks[i].dp=Es.dp q:=by rw [e];rfl
    have h3:=Es.dp_take g;have h4:=Es.dp_le (ks:=ks) i;have j:=EW.of (Es.wf_mem r (AG g));rw [e]at j;refine⟨q,f,⟨rfl,rfl⟩,⟨JZ,JZ,j.1,j.2⟩,(i+1,Es.dp (ks.take (i+1))),KD,?_,(by(try dsimp only);rw [AA _ JZ];rfl),KD,KD,⟨g,rfl⟩,KE⟩;dsimp only;rw [AA _ JZ]
    congr 3
    split<;>omega
   .rw [AJ JZ];exact hk
  .exact hk.elim
def b5X:=aV 197 (λxs h K=> ∃d,Vy d xs h K) b6O
theorem c1T:aS env b5X:=aE (λxs h Q hk=>hk.elim λd hk=>e9C d xs h Q hk) (c2I)
def e2C(l:List S)(dp:Nat):Inv':=dL (Nat×Nat×Nat×Nat) (λx=>[(0,.v (.vslice none 0 l.length 17 (bI l))),(1,.v (.int .i64 (dp:Int))),(7,.v (.int .i64 (x.2.1:Int))),(8,.v (.int .i64 (x.2.2.1:Int))),(9,.v (.int .i64 (x.2.2.2:Int))),(10,.v (.int .i64 (x.1:Int)))]) (λ_=>[]) (λ_=>Heap.empty)
 (λx=>x.1<=l.length/\x.2.1=Ss.cnt (l.take x.1)/\x.2.2.1=Ss.whl (l.take x.1)/\x.2.2.2=Ss.dp dp (l.take x.1)) (λx=>l.length-x.1)
def Vx(d:Nat)(xs:Y14)(h:Heap)(K:KT):Prop:=match xs with
 | [.vslice none 0 m 17 c,.int .i64 q]=> ∃(l:List S)(dp:Nat),(m=l.length/\c=bI l/\q=(dp:Int))/\(Ss.cnt l<d/\Ss.cnt l<=1000/\Ss.dp dp l<=1000/\dp+Ss.cnt l<=2000)/\K (.tuple [.int .i64 (Ss.cnt l:Int),.int .i64 (Ss.whl l:Int),.int .i64 (Ss.dp dp l:Int)]) h
 |_=>False
def yT(g:Nat×Nat×Nat×Nat):=g.2.2
def Im(i:List S)(dp:Nat)(j:Int)(l:Int)(m:Int)(r:Int)(u:Nat×Nat×Nat×Nat->Prop):Prop:= ∃(g:Nat×Nat×Nat×Nat),lZ (TV.v (.vslice none 0 i.length 17 (bI i))) (iI (dp:Int)) (iI (dp:Int)) (tI j=tI (g.2.1:Int)/\tI l=tI (g.2.2.1:Int)/\tI m=tI (g.2.2.2:Int)/\tI r=tI (g.1:Int)/\Heap.mk PT.nil 0=Heap.mk PT.nil 0/\(g.1
 <=i.length/\g.2.1=Ss.cnt (List.take g.1 i)/\g.2.2.1=Ss.whl (List.take g.1 i)/\g.2.2.2=Ss.dp dp (List.take g.1 i))/\u g)
def Iq(j:List S)(D:Nat×Nat×Nat×Nat)(dp:Nat)(A:Nat)(r:Nat)(u:List M10.S->Nat->Prop):Prop:=bM 17 (bI j) ((D.1:Int).toNat*17+r) λy z l m=> ∃(g:List M10.S)(i:Nat),(l=g.length/\m=bI g/\wW ((dp:Int)+1)=(i:Int))/\(Ss.cnt g<A/\Ss.cnt g<=1000/\Ss.dp i g<=1000/\i+Ss.cnt g<=2000)/\u
 g i
def Il(g:List S)(m:Nat×Nat×Nat×Nat)(dp:Nat)(z:Nat)(y:List M10.S->Int):Prop:=Iq g m dp z 15 (λl r=>aF (jA m.1 (g.length:Int)) (Iq g m dp z 16 (λi j=>Im g dp (wW (wW (wW ((m.2.1:Int)+1)+((Ss.cnt l):Int))+((Ss.cnt i):Int))) (wW (wW (y l)+((Ss.whl i):Int))) (if(if
 ((Ss.dp j i):Int)>((Ss.dp r l):Int)then((Ss.dp j i):Int)else((Ss.dp r l):Int))>if(dp:Int)>(↑((yT m).2):Int)then(dp:Int)else(↑((yT m).2):Int)then if((Ss.dp j i):Int)>((Ss.dp r l):Int)then((Ss.dp j
 i):Int)else((Ss.dp r l):Int)else if(dp:Int)>(↑((yT m).2):Int)then(dp:Int)else(↑((yT m).2):Int)) (wW ((m.1:Int)+1)) (λu=>g.length-u.1<g.length-m.1))))
theorem f2S(j:Nat)(l:List S)(dp:Nat)(h:Heap)(Q:KT):dF (aU (aV 195 (Vx j) b5X)) env 195 cC (mJ 4 (e2C l dp)) bD [.vslice none 0 l.length 17 (bI l),.int .i64 (dp:Int)] h Q=(
 aF (aQ [IV.vslice none 0 l.length 17 (bI l),iI (dp:Int)]) ((Im l dp 0 0 0 0 (λg=>True))/\∀(g:Nat×Nat×Nat×Nat)(b:FF),g.1<=l.length/\g.2.1=Ss.cnt (List.take g.1 l)/\Prod.fst (yT g)=Ss.whl (List.take g.1 l)/\Prod.snd (yT g)=Ss.dp dp (List.take g.1 l)->aK (decide ((g.1:Int)< (l.length:Int))) (aF (jA g.1 (l.length:Int)) (aN .i64 (bI l) ((g.1:Int).toNat*17+0) λm=>aK (m==4) (aF (jA g.1 (l.length:Int)) (Il l g dp j (λi=>(wW ((↑((yT g).1):Int)+1)+((Ss.whl i):Int))))) (aF (jA g.1 (l.length:Int)) (Il l g dp j (λi=>((↑((yT g).1):Int)+((Ss.whl i):Int))))))) (Q (.tuple [.int .i64 (g.2.1:Int),iI (↑((yT g).1):Int),iI (↑((yT g).2):Int)]) h))):=by kernel_rfl
theorem e9B: ∀d xs h Q,Vx d xs h Q->aM env 195 xs h Q:=by
 intro d
 induction d with
 |zero=>
  intro xs h Q hk;unfold Vx at hk;split at hk
  .rename_i m c q;obtain⟨l,dp,⟨rfl,rfl,rfl⟩,⟨hd,T,z,A⟩,hk⟩:=hk;omega
  .exact hk.elim
 |succ dd ih=>
  intro xs h Q hk;unfold Vx at hk;split at hk
  .rename_i m c q;obtain⟨l,dp,⟨rfl,rfl,rfl⟩,⟨hd,T,z,A⟩,hk⟩:=hk;refine aL (aE ih (c1T)) (f2S dd l dp h Q) ?_;delta lZ Im yT jA Iq Il tI wW iI; (try dsimp -iota -proj only);have lc:=Ss.len_cnt l;refine aA (by simp only [aQ,aY,bF,bV,bK,cI,AN]) ⟨⟨(0,0,0,0),KD,KD,KD,KD,KD,KD,KD,⟨AR _,rfl,rfl,rfl⟩,trivial⟩,?_⟩;rintro⟨i,a,b,m⟩ _ ⟨V,K,y,hm⟩;dsimp only at V K y hm⊢;subst K y hm;refine cV (λc=>?_) (λc=>?_)
   .have g:i<l.length:=JZ;obtain⟨k,nm,to,n,ak,an,O,R,L,vk,vn,Y,Z,X,D,j,r,e⟩:=d7B l[i];have h1:=Ss.cnt_mem (AG g);have h2:=Ss.dp_mem (d:=dp) (AG g);have e1:l[i].cnt=1+Ss.cnt j+Ss.cnt r:=by rw [e];rfl
    have e2:l[i].dp dp=max dp (max (Ss.dp (dp+1) j) (Ss.dp (dp+1) r)):=by rw [e];rfl
    have G:l[i].whl=(if k=4 then 1 else 0)+Ss.whl j+Ss.whl r:=by rw [e];rfl
    have t1:=Ss.cnt_take g;have t2:=Ss.whl_take g;have t3:=Ss.dp_take (d:=dp) g;have b1:=Ss.cnt_le (l:=l) (i+1);have b2:=Ss.whl_cnt (l.take i);have b3:=Ss.dp_le (d:=dp) (l:=l) i;have b4:=Ss.whl_cnt j;have b5:=Ss.whl_cnt r;refine aP JZ (e0W g e (by rw [AK];rfl) (aB (λu=>?_) (λu=>?_)))
    .rw [beq_iff_eq]at u;rw [if_pos u]at G;refine aP JZ (a7G g e (by rw [AK]) ⟨j,dp+1,⟨rfl,rfl,(by rw [AA _ JZ];rfl)⟩,⟨JZ,JZ,JZ,JZ⟩,aP JZ (a7H g e (by rw [AK]) ⟨r,dp+1,⟨rfl,rfl,(by rw [AA _ JZ];rfl)⟩,⟨JZ,JZ,JZ,JZ⟩,(i+1,Ss.cnt (l.take (i+1)),Ss.whl (l.take (i+1)),Ss.dp dp (l.take (i+1))),KD,KD,?_,?_,?_,(by(try dsimp only);rw [AA _ JZ];rfl),KD,⟨g,rfl,rfl,rfl⟩,KE⟩)⟩)
     .dsimp only;rw [AA (_+1) JZ,AA (_+1+_) JZ,AA _ JZ]
      congr 3
      omega
     .dsimp only;rw [AA (_+1) JZ,AA (_+1+_) JZ,AA _ JZ]
      congr 3
      omega
     .dsimp only
      congr 3
      split<;>split<;>split<;>omega
    .rw [beq_eq_false_iff_ne]at u;rw [if_neg u]at G;refine aP JZ (a7G g e (by rw [AK]) ⟨j,dp+1,⟨rfl,rfl,(by rw [AA _ JZ];rfl)⟩,⟨JZ,JZ,JZ,JZ⟩,aP JZ (a7H g e (by rw [AK]) ⟨r,dp+1,⟨rfl,rfl,(by rw [AA _ JZ];rfl)⟩,⟨JZ,JZ,JZ,JZ⟩,(i+1,Ss.cnt (l.take (i+1)),Ss.whl (l.take (i+1)),Ss.dp dp (l.take (i+1))),KD,KD,?_,?_,?_,(by(try dsimp only);rw [AA _ JZ];rfl),KD,⟨g,rfl,rfl,rfl⟩,KE⟩)⟩)
     .dsimp only;rw [AA (_+1) JZ,AA (_+1+_) JZ,AA _ JZ]
      congr 3
      omega
     .dsimp only;rw [AA (((Ss.whl (List.take i l):Nat):Int)+((Ss.whl j:Nat):Int)) JZ,AA _ JZ]
      congr 3
      omega
     .dsimp only
      congr 3
      split<;>split<;>split<;>omega
   .rw [AJ JZ];exact hk
  .exact hk.elim
def b5W:=aV 195 (λxs h K=> ∃d,Vx d xs h K) b5X
theorem c1S:aS env b5W:=aE (λxs h Q hk=>hk.elim λd hk=>e9B d xs h Q hk) (c1T)
def d6V(l:List S):Inv':=dL Nat (λi=>[(0,.v (.vslice none 0 l.length 17 (bI l))),(3,.v (.int .i64 (i:Int)))]) (λ_=>[]) (λ_=>Heap.empty) (λi=>i<=l.length) (λi=>l.length-i)
def b9J(d:Nat)(xs:Y14)(h:Heap)(K:KT):Prop:=match xs with
 | [.vslice none 0 m 17 c]=> ∃(l:List S)(f:Int),(m=l.length/\c=bI l)/\(Ss.cnt l<d/\Ss.cnt l<=1000/\Ss.wf f l/\Ss.ed 5 l)/\K (.bool false) h
 |_=>False
def tA(Q:KT)(h:Heap)(g:List E)(i:Nat)(j:Int)(l:Prop):Prop:=(Es.dp g<i/\Es.dp g<=1000/\g.length<=3/\Es.wf j g)/\aK (decide (((Es.dp g):Int)>20)) (Q (.bool true) h) l
def N0(y:Nat)(j:Y14)(Q:KT)(h:Heap)(g:List S)(x:Nat)(u:Int)(D:Nat)(G:Nat)(K:Nat)(L:Nat)(O:Nat)(R:Int->Nat->List E->Prop):Prop:=aK (decide (u< (y:Int))) (aF (true&&decide (u< (y:Int))) (aN .i64 j D λT=>aN .i64 j G λV=>dU j K λX=>aN .i64 j L λY=>bM 5 j O λZ a0 z A=> ∃(m:Nat)(i:List E)(r:Int),(z
 =i.length/\A=bP i)/\tA Q h i m r (R r m i))) (∃(l:Nat),lZ (TV.v (.vslice none 0 g.length 17 (bI g))) (iI (wW ((x:Int)+1))) (iI (l:Int)) (Heap.mk PT.nil 0=Heap.mk PT.nil 0/\Nat.le l g.length/\g.length-l<g.length
 -x))
theorem f8H(A:Nat)(l:List S)(h:Heap)(Q:KT):dF (aU (aV 196 (b9J A) b5W)) env 196 (λk=>if k=9 then 3 else 0) (mJ 3 (d6V l)) bD [.vslice none 0 l.length 17 (bI l)] h Q=(
 aF (aQ [IV.vslice none 0 l.length 17 (bI l)]) ((∃(x:Nat),lZ (TV.v (.vslice none 0 l.length 17 (bI l))) (iI 0) (iI (x:Int)) (Heap.mk PT.nil 0=Heap.mk PT.nil 0/\Nat.le x (l.length)/\True))/\∀(x:Nat)(b:FF),x<=l.length->aK (decide ((x:Int)< (l.length:Int))) (aF (jA x (l.length:Int)) (aN .i64 (bI l) ((x:Int).toNat*17) λn0=>dU (bI l) ((x:Int).toNat*17+1) λs1=>dU (bI l) ((x:Int).toNat*17+1+1) λs2=>aN .i64 (bI l) ((x:Int).toNat*17+1+1+1) λn3=>aN .i64 (bI l) ((x:Int).toNat*17+1+(1:Nat)+1+1) λn4=>aN .i64 (bI l) ((x:Int).toNat*17+1+1+1+1+1) λn5=>dU (bI l) ((x:Int).toNat*17+1+1+1+1+1+(1:Nat)) λs6=>aN .i64 (bI l) ((x:Int).toNat*17+1+1+1+1+1+1+1) λn7=>bM 5 (bI l) ((x:Int).toNat*17+1+1+1+(1:Nat)+1+1+1+1) λi8 e9 D r=>aN .i64 (bI l) ((x:Int).toNat*17+1+1+1+1+1+1+1+1+1) λa1=>aN .i64 (bI l) ((x:Int).toNat*17+1+1+1+1+1+1+1+1+1+1) λa2=>dU (bI l) ((x:Int).toNat*17+1+1+1+1+1+(1:Nat)+1+1+1+1+1) λa4=>aN .i64 (bI l) ((x:Int).toNat*17+1+1+1+1+1+1+1+1+1+1+1+1) λa3=>bM 5 (bI l) ((x:Int).toNat*17+1+1+1+1+1+1+1+1+1+1+1+1+1) λX O G u=>bM 5 (bI l) ((x:Int).toNat*17+1+1+1+1+1+1+1+1+1+1+1+1+1+1) λY R m j=>bM 17 (bI l) ((x:Int).toNat*17+1+1+1+1+1+1+1+1+1+1+1+1+1+1+1) λZ T K y=>bM 17 (bI l) ((x:Int).toNat*17+1+1+1+1+1+1+1+1+1+1+1+1+1+1+1+1) λa0 V L z=> ∃(d:Nat)(ks:List E)(f:Int),(D=ks.length/\r=bP ks)/\tA Q h ks d f (∃(d:Nat)(ks:List E)(f:Int),(G=ks.length/\u=bP ks)/\tA Q h ks d f (∃(g:List M10.S)(f:Int),(K=g.length/\y=bI g)/\(Ss.cnt g<A/\Ss.cnt g<=1000/\Ss.wf f g/\Ss.ed 5 g)/\∃(i:List M10.S)(f:Int),(L=i.length/\z=bI i)/\(Ss.cnt i<A/\Ss.cnt i<=1000/\Ss.wf f i/\Ss.ed 5 i)/\N0 m j Q h l x 0 0 1 2 3 4 (λf d ks=>(N0 m j Q h l x 1 5 6 7 8 9 (λf d ks=>(N0 m j Q h l x 2 10 11 12 13 14 (λf d ks=>False))))))))) (Q (IV.bool false) h))):=by kernel_rfl
theorem f5H: ∀d xs h Q,b9J d xs h Q->aM env 196 xs h Q:=by
 intro d
 induction d with
 |zero=>
  intro xs h Q hk;unfold b9J at hk;split at hk
  .rename_i m c;obtain⟨l,f,⟨rfl,rfl⟩,⟨hd,hb,hw,he⟩,hk⟩:=hk;omega
  .exact hk.elim
 |succ dd ih=>
  intro xs h Q hk;unfold b9J at hk;split at hk
  .rename_i m c;obtain⟨l,f,⟨rfl,rfl⟩,⟨hd,hb,hw,he⟩,hk⟩:=hk;refine aL (aE ih (c1S)) (f8H dd l h Q) ?_;delta lZ jA tA N0 wW iI; (try dsimp -iota -proj only);have lc:=Ss.len_cnt l;refine aA (by simp only [aQ,aY,bF,bV,bK,cI,AN]) ⟨⟨0,KD,KD,KD,AR _,trivial⟩,?_⟩;rintro i _ hi;refine cV (λc=>?_) (λc=>hk);have g:i<l.length:=JZ;refine aP JZ (c8O g (by rw [AK]) λk nm to n ak an a0 a1 r vk vn a8 a9 z j th el e=>?_);have h1:=Ss.cnt_mem (AG g);have e1:l[i].cnt=1+Ss.cnt th+Ss.cnt el:=by rw [e];rfl
   have y:=Ss.wf_mem hw (AG g);have u:=Ss.ed_mem he (AG g);rw [e]at y u;obtain⟨hn,G,K⟩:=y;obtain⟨⟨ha,hv,hr⟩,A,D⟩:=u;have a2:Es.dp r<=5:=ha;have a3:Es.dp z<=5:=hv;have h2:=hn.args2;obtain⟨w1,w2,w3⟩:=hn.ew;refine⟨10,r,f,⟨rfl,rfl⟩,⟨JZ,JZ,w1.1,w1.2⟩,qQ JZ ⟨10,z,f,⟨rfl,rfl⟩,⟨JZ,JZ,w2.1,w2.2⟩,qQ JZ ⟨th,f,⟨rfl,rfl⟩,⟨JZ,JZ,G,A⟩,el,f,⟨rfl,rfl⟩,⟨JZ,JZ,K,D⟩,cV (λV=>?_) (λV=>⟨i+1,KD,(by(try dsimp only);rw [AA _ JZ];rfl),KD,g,JZ⟩)⟩⟩⟩;have L:0<j.length:=JZ;refine aA (by rw [BD,decide_eq_true_eq];exact V) (Ly (i:=0) L rfl λk2 n2 a4 a6 q Y=>?_);have q1:Es.dp q<=5:=by have:=hr _ (AG L);rw [Y]at this;exact this
   have R:=EW.of (Es.wf_mem w3 (AG L));rw [Y]at R;refine⟨10,q,f,⟨rfl,rfl⟩,⟨JZ,JZ,R.1,R.2⟩,qQ JZ (cV (λX=>?_) (λX=>⟨i+1,KD,(by(try dsimp only);rw [AA _ JZ];rfl),KD,g,JZ⟩))⟩;have O:1<j.length:=JZ;refine aA (by rw [BD,decide_eq_true_eq];exact X) (Ly (i:=1) O rfl λk3 n3 a5 a7 q3 Z=>?_);have q2:Es.dp q3<=5:=by have:=hr _ (AG O);rw [Z]at this;exact this
   have T:=EW.of (Es.wf_mem w3 (AG O));rw [Z]at T;exact⟨10,q3,f,⟨rfl,rfl⟩,⟨JZ,JZ,T.1,T.2⟩,qQ JZ (qQ JZ ⟨i+1,KD,(by(try dsimp only);rw [AA _ JZ];rfl),KD,g,JZ⟩)⟩
  .exact hk.elim
def d8L:=aV 196 (λxs h K=> ∃d,b9J d xs h K) b5W
theorem d5X:aS env d8L:=aE (λxs h Q hk=>hk.elim λd hk=>f5H d xs h Q hk) (c1S)
def e0N(xs:Y14)(h:Heap)(K:KT):Prop:=match xs with
 | [.agg [.vslice none 0 2 2 ac,.vslice none 0 2 9 fc]]=>vR ac fc/\K (.bool false) h
 |_=>False
def Ao:=IV.bool true
def In(Q:KT)(h:Heap)(m:List S)(u:List E)(D:Nat->List M10.S->Nat->List E->Int->Prop):Prop:= ∃(y:Nat)(g:List M10.S)(j:Nat),(m.length=g.length/\bI m=bI g/\(0:Int)=(j:Int))/\(Ss.cnt g<y/\Ss.cnt g<=1000/\Ss.dp j g<=1000/\j+Ss.cnt g<=2000)/\aK (decide (((Ss.cnt g):Int)>200)) (Q Ao h) (aK (decide
 (((Ss.whl g):Int)>16)) (Q Ao h) (aK (decide (((Ss.dp j g):Int)>20)) (Q Ao h) (∃(z:Nat)(i:List M10.S)(A:Int),(m.length=i.length/\bI m=bI i)/\(Ss.cnt i<z/\Ss.cnt i<=1000/\Ss.wf A i/\Ss.ed 5 i)/\∃ (zb52
 :Nat),∃(l:List E)(r:Int),(u.length=l.length/\bP u=bP l)/\tA Q h l zb52 r (D j i zb52 l r))))
theorem f8M(z A:Int)(j:List S)(D G:Int)(m:Y11)(r:Int)(g:List E)(l:List S)(K L:Int)(u:Y11)(y:Int)(i:List E)(h:Heap)(Q:KT):dF (aU d8L) env 142 (λk=>if k=5 then 3 else if k=10 then 3 else 0) bD bD [.agg [.vslice none 0 2 2 [.str [97],.int .i64 z,.str [98],.int .i64 A],.vslice none 0 2 9 [.str [102],.vslice none 1 2 1 [.str [120],.str [121]],.vslice none 1 2 1 [.str [105],.str [106]],.vslice none 0 j.length 17 (bI j),.int .i64 D,.int .i64 G,.str m,.int .i64 r,.vslice none 0 g.length 5 (bP g),.str [103],.vslice none 1 1 1 [.str [110]],.vslice none 1 1 1 [.str [105]],.vslice none 0 l.length 17 (bI l),.int .i64 K,.int .i64 L,.str u,.int .i64 y,.vslice none 0 i.length 5 (bP i)]]] h Q=(
 aF (aQ [IV.agg [.vslice none 0 2 2 [IV.str [97],iI z,IV.str [98],iI A],IV.vslice none 0 2 9 [IV.str [102],IV.vslice none 1 2 1 [IV.str [120],IV.str [121]],IV.vslice none 1 2 1 [IV.str [105],IV.str [106]],IV.vslice none 0 j.length 17 (bI j),iI D,iI G,IV.str m,iI r,IV.vslice none 0 (g.length) 5 (bP g),IV.str [103],IV.vslice none 1 1 1 [IV.str [110]],IV.vslice none 1 1 1 [IV.str [105]],IV.vslice none 0 l.length 17 (bI l),iI K,iI L,IV.str u,iI y,IV.vslice none 0 i.length 5 (bP i)]]]) (aK (decide (z<1)) (Q Ao h) (aK (decide (z>16)) (Q Ao h) (aK (decide (A<1)) (Q Ao h) (aK (decide (A>16)) (Q Ao h) (In Q h j g (λdp O d ks f=>(In Q h l i (λdp O d ks f=>(Q (.bool false) h)))))))))):=by kernel_rfl
theorem f6O: ∀xs h Q,e0N xs h Q->aM env 142 xs h Q:=by
 intro xs h Q hk;unfold e0N at hk;split at hk
 .rename_i ac fc;obtain⟨⟨L,O,m,⟨R,T,u,y,j⟩,r,⟨V,X,z,A,l⟩,K,rfl,rfl⟩,hk⟩:=hk;refine aL (d5X) (f8M L O m R T u y j r V X z A l h Q) ?_;delta Ao tA In iI; (try dsimp -iota -proj only);obtain⟨⟨Y,Z,a3,a4⟩,g,i⟩:=K;have D:=EW.of g.vw;have G:=EW.of i.vw;have x0:=g.cnt;have x1:=g.whl;have x2:=g.dp;have x3:Es.dp j<=5:=g.vd;have y0:=i.cnt;have y1:=i.whl;have y2:=i.dp;have y3:Es.dp l<=5:=i.vd;exact aA (by simp only [aQ,aY,bF,bV,bK,cI,AN]) (qQ JZ (qQ JZ (qQ JZ (qQ JZ ⟨1000,m,0,⟨rfl,rfl,rfl⟩,⟨JZ,JZ,JZ,JZ⟩,qQ JZ (qQ JZ (qQ JZ ⟨1000,m,0,⟨rfl,rfl⟩,⟨JZ,JZ,g.wf,g.ed⟩,1000,j,0,⟨rfl,rfl⟩,⟨JZ,JZ,D.1,D.2⟩,qQ JZ ⟨1000,r,0,⟨rfl,rfl,rfl⟩,⟨JZ,JZ,JZ,JZ⟩,qQ JZ (qQ JZ (qQ JZ ⟨1000,r,1,⟨rfl,rfl⟩,⟨JZ,JZ,i.wf,i.ed⟩,1000,l,1,⟨rfl,rfl⟩,⟨JZ,JZ,G.1,G.2⟩,qQ JZ hk⟩))⟩⟩))⟩))))
 .exact hk.elim
def d8R:=aV 142 e0N d8L
theorem d6D:aS env d8R:=aE f6O (d5X)
def e2J(k n:Int)(nm:Y11)(op:Int)(ks:List E):Inv':=dL Nat (λi=>[(1,.l 1 0),(3,.v (.int .i64 (i:Int)))]) (λ_=>[(1,[.int .i64 k,.int .i64 n,.str nm,.int .i64 op,.vslice none 0 ks.length 5 (bP ks)])]) (λ_=>Heap.empty) (λi=>i<=ks.length) (λi=>ks.length-i)
def b9M(d:Nat)(xs:Y14)(h:Heap)(K:KT):Prop:=match xs with
 | [.agg [.int .i64 k,.int .i64 n,.str nm,.int .i64 op,.vslice none 0 m 5 c]]=> ∃(ks:List E)(f:Int),(m=ks.length/\c=bP ks)/\(Es.dp ks<d/\E.wf f (.mk k n nm op ks))/\K (.bool true) h
 |_=>False
def b0J(k n op:Int)(nm:Y11)(ks:List E):=[iI k,iI n,IV.str nm,iI op,IV.vslice none 0 ks.length 5 (bP ks)]
def vM:=IV.bool false
def b0K(ks:List E):=(ks.length:Int)==1
def pY(g:Nat)(j:Int)(m:Nat)(i:Y14)(r:Prop):Prop:=some (TV.l g 0)=some (TV.l g 0)/\tI j=tI (m:Int)/\some i=some i/\r
def iE(g:Nat)(i:Nat)(j:Prop):Prop:=Heap.mk PT.nil 0=Heap.mk PT.nil 0/\Nat.le g i/\j
def N3(ks:List E)(y:Nat->Int->Int->Y11->Int->Nat->Y14->Prop)(z:Bool)(A:Prop)(D:Prop):Prop:= ∀(g:Nat)(G:FF),g<=ks.length->aK (decide ((g:Int)< (ks.length:Int))) (aF (decide (0<=(g:Int)) &&decide ((g:Int)< (ks.length:Int))) (aN .i64 (bP ks) ((g:Int).toNat*5) λi=>aN .i64 (bP ks) ((g:Int).toNat*5+
 1) λj=>dU (bP ks) ((g:Int).toNat*5+1+1) λl=>aN .i64 (bP ks) ((g:Int).toNat*5+1+1+1) λm=>bM 5 (bP ks) ((g:Int).toNat*5+1+1+1+1) λK L r u=>y g i j l m r u))
 (aK z A D)
def eB(Q:KT)(h:Heap)(g:Bool)(i:Bool)(j:Prop)(l:Prop):Prop:=aK g (aK i j l) (Q vM h)
theorem f8I(j:Nat)(k n:Int)(nm:Y11)(op:Int)(ks:List E)(h:Heap)(Q:KT):dF (aU (aV 200 (b9M j) d8R)) env 200 cC (mJ 3 (e2J k n nm op ks)) bD [.agg [.int .i64 k,.int .i64 n,.str nm,.int .i64 op,.vslice none 0 ks.length 5 (bP ks)]] h Q=(
 aF (aQ [IV.agg (b0J k n op nm ks)]) ((∃(x:Nat),pY 1 0 x (b0J k n op nm ks) (iE x ks.length True))/\N3 ks (λx r u z y m l=> ∃(g:List E)(f:Int),(m=g.length/\l=bP g)/\(Es.dp g<j/\E.wf f (E.mk r u z y g))/\∃(i:Nat),pY 1 (wW ((x:Int)+1)) i (b0J k n op nm ks) (iE i ks.length (ks.length-i<ks.length-x))) (k==1) (eB Q h (((ks.length):Int)==0) (nm==[]) (Q (.bool (op==0)) h) (Q vM h)) (aK (k==2) (eB Q h ((ks.length:Int)==0) (n==0) (aK (op==0) (List.Mem nm oQ/\Q (.bool true) h) (Q vM h)) (Q vM h)) (aK (k==3) (eB Q h (b0K ks) (n==0) (aK (op==0) (List.Mem nm oQ/\Q (.bool true) h) (Q vM h)) (Q vM h)) (aK (k==4) (eB Q h (n==0) (nm==[]) (aK ((ks.length:Int)==2) (aK (decide (4<=op/\op<=18)) (Q (.bool true) h) (eB Q h (b0K ks) (op==20) (Q (.bool true) h) (Q (.bool (op==21)) h))) (eB Q h (b0K ks) (op==20) (Q (.bool true) h) (Q (.bool (op==21)) h))) (Q vM h)) (eB Q h (k==5) ((ks.length:Int)==3) (eB Q h (n==(0:Int)) (nm==[]) (Q (.bool (op==0)) h) (Q vM h)) (Q vM h))))))):=by kernel_rfl
theorem f5I: ∀d xs h Q,b9M d xs h Q->aM env 200 xs h Q:=by
 intro d
 induction d with
 |zero=>
  intro xs h Q hk;unfold b9M at hk;split at hk
  .rename_i k n nm op m c;obtain⟨ks,f,⟨rfl,rfl⟩,⟨hd,y⟩,hk⟩:=hk;omega
  .exact hk.elim
 |succ dd ih=>
  intro xs h Q hk;unfold b9M at hk;split at hk
  .rename_i k n nm op m c;obtain⟨ks,f,⟨rfl,rfl⟩,⟨hd,y⟩,hk⟩:=hk;refine aL (aE ih (d6D)) (f8I dd k n nm op ks h Q) ?_;delta b0J pY iE N3 vM eB b0K tI wW iI; (try dsimp -iota -proj only);have h3:=(EW.of y).1;refine aA (by simp only [aQ,aY,bF,bV,bK,cI,AN]) ⟨⟨0,KD,KD,KD,KD,AR _,trivial⟩,?_⟩;rintro i _ K;refine cV (λc=>?_) (λc=>?_)
   .have j:i<ks.length:=JZ;refine aP JZ (Ly j (by rw [AK]) λL O D G q e=>?_);have h1:=Es.dp_mem (AG j);have h2:ks[i].dp=Es.dp q:=by rw [e];rfl
    have z:=Es.wf_mem y.2 (AG j);rw [e]at z;exact⟨q,f,⟨rfl,rfl⟩,⟨JZ,z⟩,i+1,KD,(by(try dsimp only);rw [AA _ JZ];rfl),KD,KD,j,JZ⟩
   have A:Lz f k n nm op ks.length:=y.1;unfold Lz at A;rcases A with⟨rfl,rfl,rfl,g,_⟩| ⟨rfl,rfl,rfl,g,l⟩| ⟨rfl,rfl,rfl,g,l⟩| ⟨rfl,rfl,rfl,⟨g,r,u⟩| ⟨g,r,u⟩⟩| ⟨rfl,rfl,rfl,rfl,g⟩
   .exact bt rfl (bt (by rw [g];rfl) (bt rfl hk))
   .exact bf rfl (bt rfl (bt (by rw [g];rfl) (bt rfl (bt rfl ⟨a7P l,hk⟩))))
   .exact bf rfl (bf rfl (bt rfl (bt (by rw [g];rfl) (bt rfl (bt rfl ⟨b4O l,hk⟩)))))
   .exact bf rfl (bf rfl (bf rfl (bt rfl (bt rfl (bt rfl (bt (by rw [g];rfl) (bt (decide_eq_true ⟨r,u⟩) hk)))))))
   .refine bf rfl (bf rfl (bf rfl (bt rfl (bt rfl (bt rfl (bf (by rw [g];rfl) (bt (by rw [g];rfl) ?_)))))));have ho:op=20\/op=21:=JZ;rcases ho with rfl|rfl
    .exact bt rfl hk
    .exact bf rfl hk
   .exact bf rfl (bf rfl (bf rfl (bf rfl (bt rfl (bt (by rw [g];rfl) (bt rfl (bt rfl hk)))))))
  .exact hk.elim
def d8N:=aV 200 (λxs h K=> ∃d,b9M d xs h K) d8R
theorem d5Z:aS env d8N:=aE (λxs h Q hk=>hk.elim λd hk=>f5I d xs h Q hk) (d6D)
def e0J(xs:Y14)(h:Heap)(K:KT):Prop:=match xs with
 | [.agg [.int .i64 k,.str nm,.str to,.int .i64 n,.int .i64 ak,.int .i64 an,.str anm,.int .i64 aop,.vslice none 0 am 5 ac,.int .i64 vk,.int .i64 vn,.str vnm,.int .i64 vop,.vslice none 0 vm 5 vc,.vslice none 0 m 5 c,.vslice none 0 mt 17 ct,.vslice none 0 ml 17 cl]]=>((nm=[]/\to=[]/\n=0)/\(ak=0/\an=0/\anm=[]/\aop=0/\am=0/\ac=[])/\(m=0/\c=[])/\aQ vc=true/\aQ ct=true/\aQ cl=true)/\K (.bool true) h
 |_=>False
theorem f8F(k n:Int)(nm z:Y11)(u y:Int)(g:Y11)(i:Int)(am:Nat)(r:Y14)(L R:Int)(j:Y11)(l:Int)(O:Nat)(K:Y14)(m:Nat)(c:Y14)(G:Nat)(A:Y14)(D:Nat)(cl:Y14)(h:Heap)(Q:KT):dF (aU d8N) env 231 cC bD bD [.agg [.int .i64 k,.str nm,.str z,.int .i64 n,.int .i64 u,.int .i64 y,.str g,.int .i64 i,.vslice none 0 am 5 r,.int .i64 L,.int .i64 R,.str j,.int .i64 l,.vslice none 0 O 5 K,.vslice none 0 m 5 c,.vslice none 0 G 17 A,.vslice none 0 D 17 cl]] h Q=(
 aF (aQ [IV.agg [.int .i64 k,IV.str nm,IV.str z,iI n,iI u,iI y,IV.str g,iI i,IV.vslice none 0 am 5 r,iI L,iI R,IV.str j,iI l,IV.vslice none 0 O 5 K,IV.vslice none 0 m 5 c,IV.vslice none 0 G 17 A,IV.vslice none 0 D 17 cl]]) (eB Q h (nm==[]) (z==[]) (aK (n==0) ((u=0/\y=0/\g=[]/\i=0/\am=0/\r=[])/\Q (.bool ((m:Int)==0)) h) (Q (.bool false) h)) (Q (.bool false) h))):=by kernel_rfl
theorem f6K: ∀xs h Q,e0J xs h Q->aM env 231 xs h Q:=by
 intro xs h Q hk;unfold e0J at hk;split at hk
 .rename_i k nm O n u y g i am r T X j l V R m c D z A cl;refine aL (d5Z) (f8F k n nm O u y g i am r T X j l V R m c D z A cl h Q) ?_;delta vM eB iI; (try dsimp -iota -proj only);obtain⟨⟨⟨rfl,rfl,rfl⟩,⟨rfl,rfl,rfl,rfl,rfl,rfl⟩,⟨rfl,rfl⟩,G,K,L⟩,hk⟩:=hk;exact aA (by simp only [aQ,aY,G,K,L,AN]) (bt rfl (bt rfl (bt rfl ⟨⟨rfl,rfl,rfl,rfl,rfl,rfl⟩,hk⟩)))
 .exact hk.elim
def d8J:=aV 231 e0J d8N
theorem d5V:aS env d8J:=aE f6K (d5Z)
def e0M(xs:Y14)(h:Heap)(K:KT):Prop:=match xs with
 | [.agg [.int .i64 k,.str nm,.str to,.int .i64 n,.int .i64 ak,.int .i64 an,.str anm,.int .i64 aop,.vslice none 0 am 5 ac,.int .i64 vk,.int .i64 vn,.str vnm,.int .i64 vop,.vslice none 0 vm 5 vc,.vslice none 0 m 5 c,.vslice none 0 mt 17 ct,.vslice none 0 ml 17 cl]]=> ∃(i j g:List E)(r l:List S)(f:Int),(am=i.length/\ac=bP i/\vm=j.length/\vc=bP j/\m=g.length/\c=bP g/\mt=r.length/\ct=bI r/\ml=l.length/\cl=bI l)/\(qS f k nm to n (.mk ak an anm aop i) (.mk vk vn vnm vop j) g r l/\(E.dp (.mk ak an anm aop i)<=5/\E.dp (.mk vk vn vnm vop j)<=5/\∀x∈g,x.dp<=5))/\K (.bool true) h
 |_=>False
def Ax(g:List S):=(g.length:Int)==0
def lJ:=IV.bool false
def pZ(i:Int)(j:Int)(l:Y11)(m:Int)(g:List E):Prop:=i=0/\j=0/\l=[]/\m=0/\g.length=0/\bP g=[]
def jB(g:List E)(i:List E):Prop:=g.length=i.length/\bP g=bP i
def tD(Q:KT)(h:Heap)(l:List E)(m:Int)(r:Int)(u:Y11)(y:Int)(z:Bool):Prop:= ∃(i:Nat)(g:List E)(j:Int),(jB l g)/\(Es.dp g<i/\E.wf j (E.mk m r u y g))/\Q (.bool z) h
def tB(nm:Y11)(K:Y11)(n:Int)(z:Int)(A:Int)(m:Y11)(r:Int)(l:List E)(g:List E)(j:List E)(G:List S)(D:List S)(L:Int)(O:Int)(u:Y11)(y:Int)(Q:KT)(h:Heap)(i:Bool):Prop:=((nm=[]/\K=[]/\n=0)/\(pZ z A m r l)/\(g.length=0/\bP g=[])/\aQ (bP j)=true/\aQ (bI G)=true/\aQ (bI D)=true)/\tD Q h j L O u y i
def Is(g:List E)(V:List S)(k:Int)(z:List S)(nm:Y11)(K:Y11)(n:Int)(D:Int)(G:Int)(j:Y11)(l:Int)(i:List E)(m:List E)(L:Int)(O:Int)(r:Y11)(u:Int)(Q:KT)(h:Heap)(a5:Bool)(a6:Bool)(a7:Nat)(a8:Nat)(a9:Nat)(b0:Nat)(b1:Nat)(b2:Int->Nat->List E->Prop):Prop:=aK a5 (aF a6 (aN .i64 (bP g) a7 λX=>aN .i64 (bP g) a8 λY=>dU (bP g) a9 λZ=>aN .i64 (bP g) b0 λa0=>bM 5 (bP g) b1 λb3 b4 a1 a2=> ∃(R:Nat)(y:List E)(T:Int),(a1=y.length/\a2=bP
 y)/\(Es.dp y<R/\E.wf T (E.mk X Y Z a0 y))/\b2 T R y)) (aK ((V.length:Int)==0) (aK (k==1) (aK (Ax z) (List.Mem nm oQ/\eB Q h (K==[]) (n==0) ((pZ D G j l i)/\aK ((g.length:Int)==0) (tD Q h m L O r
 u true) (Q lJ h)) (Q lJ h)) (Q lJ h)) (aK (k==2) (aK (Ax z) (List.Mem nm oQ/\eB Q h (K==[]) (n==0) (∃(a3:Nat)(A:List E)(a4:Int),(jB i A)/\(Es.dp A<a3/\E.wf a4 (E.mk D G j l A))/\aK ((g.length:Int)==0) (tD
 Q h m L O r u true) (Q lJ h)) (Q lJ h)) (Q lJ h)) (aK (k==3) (tB nm K n D G j l i g m V z L O r u Q h true) (aK (k==4) (tB nm K n D G j l i g m V z L O r u Q h (Ax z)) (aK (k==5) (aK (Ax z) (tB nm K n D
 G j l i g m V z L O r u Q h true) (Q lJ h)) (aK (k==6) (aK (Ax z) (List.Mem nm oQ/\List.Mem K oQ/\aK (n==0) ((pZ D G j l i)/\(pZ L O r u m)/\Q (.bool true) h) (Q lJ h)) (Q lJ h)) (eB Q h (k==7) (Ax z) (eB Q
 h (nm==[]) (K==[]) (aK (decide (n>=0)) (aK (decide (n<=1000000)) ((pZ D G j l i)/\(pZ L O r u m)/\Q (.bool ((g.length:Int)==0)) h) (Q lJ h)) (Q lJ h)) (Q lJ h)) (Q lJ h)))))))) (aK (k==1) (Q lJ h) (aK (k==2) (Q lJ h) (aK (k==3)
 (tB nm K n D G j l i g m V z L O r u Q h true) (aK (k==4) (tB nm K n D G j l i g m V z L O r u Q h (Ax z)) (aK (k==5) (Q lJ h) (aK (k==6) (Q lJ h) (aK (k==7) (Q lJ h) (Q lJ h)))))))))
def Ir(g:List E)(Z:List S)(k:Int)(Y:List S)(nm:Y11)(to:Y11)(n:Int)(V:Int)(X:Int)(u:Y11)(y:Int)(r:List E)(z:List E)(vk:Int)(vn:Int)(A:Y11)(D:Int)(Q:KT)(h:Heap)(m:Int)(G:Nat)(K:Nat)(L:Nat)(O:Nat)(R:Nat)(T:Int->Nat->List E->Prop):Prop:=Is g Z k Y nm to n V X u y r z vk vn A D Q h (decide (m< (g.length:Int))) (true&&decide (m< (g.length:Int))) G K L O R (λl i j=>T l i j)
theorem f8L(k:Int)(nm G:Y11)(n:Int)(A D:Int)(l:Y11)(m:Int)(i:List E)(K L:Int)(r:Y11)(u:Int)(j:List E)(g:List E)(z y:List S)(h:Heap)(Q:KT):dF (aU d8J) env 219 (λk=>if k=3 then 3 else 0) bD bD [.agg [.int .i64 k,.str nm,.str G,.int .i64 n,.int .i64 A,.int .i64 D,.str l,.int .i64 m,.vslice none 0 i.length 5 (bP i),.int .i64 K,.int .i64 L,.str r,.int .i64 u,.vslice none 0 j.length 5 (bP j),.vslice none 0 g.length 5 (bP g),.vslice none 0 z.length 17 (bI z),.vslice none 0 y.length 17 (bI y)]] h Q=(
 aF (aQ [IV.agg [.int .i64 k,IV.str nm,IV.str G,iI n,iI A,iI D,IV.str l,iI m,IV.vslice none 0 i.length 5 (bP i),iI K,iI L,IV.str r,iI u,IV.vslice none 0 j.length 5 (bP j),IV.vslice none 0 g.length 5 (bP g),IV.vslice none 0 z.length 17 (bI z),IV.vslice none 0 y.length 17 (bI y)]]) (Ir g z k y nm G n A D l m i j K L r u Q h 0 0 1 2 3 4 (λf d ks=>Is g z k y nm G n A D l m i j K L r u Q h (decide (1< (g.length:Int))) (true&&decide (1< (g.length:Int))) 5 6 7 8 9 (λf d ks=>Ir g z k y nm G n A D l m i j K L r u Q h 2 10 11 12 13 14 (λf d ks=>False))))):=by kernel_rfl
theorem f6N: ∀xs h Q,e0M xs h Q->aM env 219 xs h Q:=by
 intro xs h Q hk;unfold e0M at hk;split at hk
 .rename_i k nm to n ak an A D am ac vk vn O R vm vc m c mt ct ml cl;obtain⟨z,g,u,th,el,f,⟨rfl,rfl,rfl,rfl,rfl,rfl,rfl,rfl,rfl,rfl⟩,⟨Y,he⟩,hk⟩:=hk;refine aL (d5V) (f8L k nm to n ak an A D z vk vn O R g u th el h Q) ?_;delta Ax vM eB pZ jB tD lJ tB Is Ir iI; (try dsimp -iota -proj only);obtain⟨da,dv,X⟩:=he;have a2:Es.dp z<=5:=da;have a3:Es.dp g<=5:=dv;refine aA (by simp only [aQ,aY,bF,bV,bK,cI,AN]) ?_;unfold qS at Y;rcases Y with⟨rfl,r,rfl,rfl,l,j,rfl,rfl,rfl⟩| ⟨rfl,r,rfl,rfl,l,j,rfl,rfl,rfl⟩| ⟨rfl,rfl,rfl,rfl,l,j,rfl⟩| ⟨rfl,rfl,rfl,rfl,l,j,rfl,rfl⟩| ⟨rfl,rfl,rfl,rfl,l,j,rfl,rfl,rfl⟩| ⟨rfl,r,G,rfl,l,j,y,rfl,rfl⟩| ⟨rfl,rfl,rfl,⟨a4,a5⟩,l,j,rfl,rfl,rfl⟩
  .obtain⟨rfl,rfl,rfl,rfl,rfl⟩:=E.mk.inj (l:E.mk _ _ _ _ _=E.mk 0 0 [] 0 []);exact qQ KA (bt rfl (bt rfl (bt rfl ⟨a7P r,bt rfl (bt rfl ⟨⟨rfl,rfl,rfl,rfl,rfl,rfl⟩,bt rfl ⟨1000,g,f,⟨rfl,rfl⟩,⟨JZ,j⟩,hk⟩⟩)⟩)))
  .exact qQ KA (bt rfl (bf rfl (bt rfl (bt rfl ⟨b4O r,bt rfl (bt rfl ⟨1000,z,f,⟨rfl,rfl⟩,⟨JZ,l⟩,bt rfl ⟨1000,g,f,⟨rfl,rfl⟩,⟨JZ,j⟩,hk⟩⟩)⟩))))
  .obtain⟨rfl,rfl,rfl,rfl,rfl⟩:=E.mk.inj (l:E.mk _ _ _ _ _=E.mk 0 0 [] 0 []);exact qQ KA (bx (bf rfl (bf rfl (bt rfl ⟨⟨⟨rfl,rfl,rfl⟩,⟨rfl,rfl,rfl,rfl,rfl,rfl⟩,⟨rfl,rfl⟩,bV _,bK _,bK _⟩,1000,g,f,⟨rfl,rfl⟩,⟨JZ,j⟩,hk⟩))) (bf rfl (bf rfl (bt rfl ⟨⟨⟨rfl,rfl,rfl⟩,⟨rfl,rfl,rfl,rfl,rfl,rfl⟩,⟨rfl,rfl⟩,bV _,bK _,bK _⟩,1000,g,f,⟨rfl,rfl⟩,⟨JZ,j⟩,hk⟩))))
  .obtain⟨rfl,rfl,rfl,rfl,rfl⟩:=E.mk.inj (l:E.mk _ _ _ _ _=E.mk 0 0 [] 0 []);exact qQ KA (bx (bf rfl (bf rfl (bf rfl (bt rfl ⟨⟨⟨rfl,rfl,rfl⟩,⟨rfl,rfl,rfl,rfl,rfl,rfl⟩,⟨rfl,rfl⟩,bV _,bK _,bK _⟩,1000,g,f,⟨rfl,rfl⟩,⟨JZ,j⟩,hk⟩)))) (bf rfl (bf rfl (bf rfl (bt rfl ⟨⟨⟨rfl,rfl,rfl⟩,⟨rfl,rfl,rfl,rfl,rfl,rfl⟩,⟨rfl,rfl⟩,bV _,bK _,bK _⟩,1000,g,f,⟨rfl,rfl⟩,⟨JZ,j⟩,hk⟩)))))
  .obtain⟨rfl,rfl,rfl,rfl,rfl⟩:=E.mk.inj (l:E.mk _ _ _ _ _=E.mk 0 0 [] 0 []);exact qQ KA (bt rfl (bf rfl (bf rfl (bf rfl (bf rfl (bt rfl (bt rfl ⟨⟨⟨rfl,rfl,rfl⟩,⟨rfl,rfl,rfl,rfl,rfl,rfl⟩,⟨rfl,rfl⟩,bV _,bK _,bK _⟩,1000,g,f,⟨rfl,rfl⟩,⟨JZ,j⟩,hk⟩)))))))
  .obtain⟨rfl,rfl,rfl,rfl,rfl⟩:=E.mk.inj (l:E.mk _ _ _ _ _=E.mk 0 0 [] 0 []);obtain⟨rfl,rfl,rfl,rfl,rfl⟩:=E.mk.inj (j:E.mk _ _ _ _ _=E.mk 0 0 [] 0 []);have K:0<u.length:=JZ;refine brT JZ (aA (by rw [BD,decide_eq_true_eq];omega) (Ly (i:=0) K rfl λk2 n2 a6 a8 q e2=>?_));have w4:=Es.wf_mem y (AG K);have T:=X _ (AG K);rw [e2]at w4 T;have a0:Es.dp q<=5:=T;refine⟨1000,q,f,⟨rfl,rfl⟩,⟨JZ,w4⟩,?_⟩;rcases G with⟨rfl,hl⟩| ⟨rfl,hl⟩
   .have L:1<u.length:=JZ;refine brT JZ (aA (by rw [BD,decide_eq_true_eq];omega) (Ly (i:=1) L rfl λk3 n3 a7 a9 Z e3=>?_));have w5:=Es.wf_mem y (AG L);have V:=X _ (AG L);rw [e3]at w5 V;have a1:Es.dp Z<=5:=V;exact⟨1000,Z,f,⟨rfl,rfl⟩,⟨JZ,w5⟩,qQ JZ (bt rfl (bf rfl (bf rfl (bf rfl (bf rfl (bf rfl (bt rfl (bt rfl ⟨a7P r,(by first|decide|exact fX KA),bt rfl ⟨⟨rfl,rfl,rfl,rfl,rfl,rfl⟩,⟨rfl,rfl,rfl,rfl,rfl,rfl⟩,hk⟩⟩))))))))⟩
   .exact qQ JZ (bt rfl (bf rfl (bf rfl (bf rfl (bf rfl (bf rfl (bt rfl (bt rfl ⟨a7P r,(by first|decide|exact fX KA),bt rfl ⟨⟨rfl,rfl,rfl,rfl,rfl,rfl⟩,⟨rfl,rfl,rfl,rfl,rfl,rfl⟩,hk⟩⟩))))))))
  .obtain⟨rfl,rfl,rfl,rfl,rfl⟩:=E.mk.inj (l:E.mk _ _ _ _ _=E.mk 0 0 [] 0 []);obtain⟨rfl,rfl,rfl,rfl,rfl⟩:=E.mk.inj (j:E.mk _ _ _ _ _=E.mk 0 0 [] 0 []);exact qQ KA (bt rfl (bf rfl (bf rfl (bf rfl (bf rfl (bf rfl (bf rfl (bt rfl (bt rfl (bt rfl (bt rfl (brT JZ (brT JZ ⟨⟨rfl,rfl,rfl,rfl,rfl,rfl⟩,⟨rfl,rfl,rfl,rfl,rfl,rfl⟩,hk⟩)))))))))))))
 .exact hk.elim
def d8Q:=aV 219 e0M d8J
theorem d6C:aS env d8Q:=aE f6N (d5V)
def b9N(d:Nat)(xs:Y14)(h:Heap)(K:KT):Prop:=match xs with
 | [.vslice none 0 m 17 c]=> ∃(l:List S)(f:Int),(m=l.length/\c=bI l)/\(Ss.cnt l<d/\Ss.cnt l<=1000/\Ss.wf f l/\Ss.ed 5 l)/\K (.bool true) h
 |_=>False
def b0I(l:List S)(x:Nat):=decide (0<=(x:Int)) &&decide ((x:Int)< (l.length:Int))
def mB(l:List S):IV:=IV.vslice none 0 l.length 17 (bI l)
def N2(x:Nat)(l:List S)(Q:KT)(h:Heap)(a2:Int->Y11->Nat->Y14->Int->Int->Y11->Int->Nat->Y14->Y11->Nat->Y14->Nat->Y14->Int->Nat->Y14->Int->Int->Y11->Int->Prop):Prop:=x<=l.length->aK (decide ((x:Int)< (l.length:Int))) (aF (b0I l x) (aN .i64 (bI l) ((x:Int).toNat*17) λg=>dU (bI l) ((x:Int).toNat*17+1) λi=>dU (bI l) ((x:Int).toNat*17+1+1) λj=>aN .i64 (bI l) ((x:Int).toNat*
 17+1+1+1) λm=>aN .i64 (bI l) ((x:Int).toNat*17+1+1+1+1) λr=>aN .i64 (bI l) ((x:Int).toNat*17+1+1+1+1+1) λu=>dU (bI l) ((x:Int).toNat*17+1+1+1+1+1+1) λy=>aN .i64 (bI l) ((x:Int).toNat
 *17+1+1+1+1+1+1+1) λz=>bM 5 (bI l) ((x:Int).toNat*17+1+1+1+1+1+1+1+1) λa3 a4 A D=>aN .i64 (bI l) ((x:Int).toNat*17+1+1+1+1+1+1+1+1+1) λG=>aN .i64 (bI l) ((x:Int).toNat*17+1+1
 +1+1+1+1+1+1+1+1) λK=>dU (bI l) ((x:Int).toNat*17+1+1+1+1+1+1+1+1+1+1+1) λL=>aN .i64 (bI l) ((x:Int).toNat*17+1+1+1+1+1+1+1+1+1+1+1+1) λO=>bM 5 (bI l) ((x:Int).toNat*17+1+1
 +1+1+1+1+1+1+1+1+1+1+1) λa5 a6 R T=>bM 5 (bI l) ((x:Int).toNat*17+1+1+1+1+1+1+1+1+1+1+1+1+1+1) λa7 a8 V X=>bM 17 (bI l) ((x:Int).toNat*17+1+1+1+1+1+1+1+1+1+1+1+1+1
 +1+1) λa9 b0 Y Z=>bM 17 (bI l) ((x:Int).toNat*17+1+1+1+1+1+1+1+1+1+1+1+1+1+1+1+1) λb1 b2 a0 a1=>a2 g i A D G K L O R T j V X Y Z m a0 a1 r u
 y z)) (Q (.bool true) h)
def kD(g:List M10.S)(i:Nat)(j:Int):Prop:=Ss.cnt g<i/\Ss.cnt g<=1000/\Ss.wf j g/\Ss.ed 5 g
def Iz(x:Nat)(l:List S)(A:Nat)(r:Nat)(u:Int->Prop):Prop:=aF (b0I l x) (bM 17 (bI l) ((x:Int).toNat*17+r) λy z j m=> ∃(g:List M10.S)(i:Int),(j=g.length/\m=bI g)/\(kD g A i)/\u i)
def Yv(x:Nat)(l:List S)(m:Nat)(i:Nat)(j:Int->Prop):Prop:=Iz x l m i (λg=>j g)
theorem f8K(T:Nat)(l:List S)(h:Heap)(Q:KT):dF (aU (aV 199 (b9N T) d8Q)) env 199 cC (mJ 3 (d6V l)) bD [.vslice none 0 l.length 17 (bI l)] h Q=(
 aF (aQ [mB l]) ((∃(x:Nat),some (TV.v (mB l))=some (TV.v (mB l))/\tI 0=tI (x:Int)/\iE x l.length True)/\∀(x:Nat)(b:FF),N2 x l Q h (λn0 s1 V G y z D A X K s2 Y L Z O n3 a0 R n4 n5 s6 n7=> ∃(i j g:List E)(r m:List M10.S)(f:Int),(V=i.length/\G=bP i/\X=j.length/\K=bP j/\Y=g.length/\L=bP g/\Z=r.length/\O=bI r/\a0=m.length/\R=bI m)/\(qS f n0 s1 s2 n3 (E.mk n4 n5 s6 n7 i) (E.mk y z D A j) g r m/\E.dp (E.mk n4 n5 s6 n7 i)<=5/\E.dp (E.mk y z D A j)<=5/\∀(xa:E),xa∈g->E.dp xa<=5)/\Yv x l T 15 (λf=>Iz x l T 16 (λf=> ∃(u:Nat),some (TV.v (mB l))=some (TV.v (mB l))/\tI (wW ((x:Int)+1))=tI (u:Int)/\iE u l.length (l.length-u<l.length-x)))))):=by kernel_rfl
theorem f5J: ∀d xs h Q,b9N d xs h Q->aM env 199 xs h Q:=by
 intro d
 induction d with
 |zero=>
  intro xs h Q hk;unfold b9N at hk;split at hk
  .rename_i m c;obtain⟨l,f,⟨rfl,rfl⟩,⟨hd,Z,V,T⟩,hk⟩:=hk;omega
  .exact hk.elim
 |succ dd ih=>
  intro xs h Q hk;unfold b9N at hk;split at hk
  .rename_i m c;obtain⟨l,f,⟨rfl,rfl⟩,⟨hd,Z,V,T⟩,hk⟩:=hk;refine aL (aE ih (d6C)) (f8K dd l h Q) ?_;delta mB iE b0I N2 kD Iz Yv tI wW; (try dsimp -iota -proj only);have lc:=Ss.len_cnt l;refine aA (by simp only [aQ,aY,bF,bV,bK,cI,AN]) ⟨⟨0,KD,KD,KD,AR _,trivial⟩,?_⟩;rintro i _ hi;refine cV (λc=>?_) (λc=>hk);have g:i<l.length:=JZ;refine aP JZ (c8O g (by rw [AK]) λk nm to n ak an X Y y vk vn a0 a1 R j O z e=>?_);have h1:=Ss.cnt_mem (AG g);have e1:l[i].cnt=1+Ss.cnt O+Ss.cnt z:=by rw [e];rfl
   have u:=Ss.wf_mem V (AG g);have r:=Ss.ed_mem T (AG g);rw [e]at u r;obtain⟨hn,K,L⟩:=u;obtain⟨A,D,G⟩:=r;exact⟨y,R,j,O,z,f,⟨rfl,rfl,rfl,rfl,rfl,rfl,rfl,rfl,rfl,rfl⟩,⟨hn,A⟩,aP JZ (a7G g e (by rw [AK]) ⟨O,f,⟨rfl,rfl⟩,⟨JZ,JZ,K,D⟩,aP JZ (a7H g e (by rw [AK]) ⟨z,f,⟨rfl,rfl⟩,⟨JZ,JZ,L,G⟩,i+1,KD,(by(try dsimp only);rw [AA _ JZ];rfl),KD,g,JZ⟩)⟩)⟩
  .exact hk.elim
def d8P:=aV 199 (λxs h K=> ∃d,b9N d xs h K) d8Q
theorem d6B:aS env d8P:=aE (λxs h Q hk=>hk.elim λd hk=>f5J d xs h Q hk) (d6C)
def e0L(xs:Y14)(h:Heap)(K:KT):Prop:=match xs with
 | [.agg [.vslice none 0 2 2 ac,.vslice none 0 2 9 fc]]=>vR ac fc/\K (.bool true) h
 |_=>False
def oA(g:List S)(i:List M10.S):Prop:=g.length=i.length/\bI g=bI i
theorem f8J(L O:Int)(u:List S)(A D:Int)(j:Y11)(l:Int)(g:List E)(y:List S)(G K:Int)(m:Y11)(r:Int)(i:List E)(h:Heap)(Q:KT):dF (aU d8P) env 143 (λk=>if k=3 then 3 else if k=8 then 3 else if k=13 then 6 else 0) bD bD [.agg [.vslice none 0 2 2 [.str [97],.int .i64 L,.str [98],.int .i64 O],.vslice none 0 2 9 [.str [102],.vslice none 1 2 1 [.str [120],.str [121]],.vslice none 1 2 1 [.str [105],.str [106]],.vslice none 0 u.length 17 (bI u),.int .i64 A,.int .i64 D,.str j,.int .i64 l,.vslice none 0 g.length 5 (bP g),.str [103],.vslice none 1 1 1 [.str [110]],.vslice none 1 1 1 [.str [105]],.vslice none 0 y.length 17 (bI y),.int .i64 G,.int .i64 K,.str m,.int .i64 r,.vslice none 0 i.length 5 (bP i)]]] h Q=(
 aF (aQ [IV.agg [.vslice none 0 2 2 [IV.str [97],iI L,IV.str [98],iI O],IV.vslice none 0 2 9 [IV.str [102],IV.vslice none 1 2 1 [IV.str [120],IV.str [121]],IV.vslice none 1 2 1 [IV.str [105],IV.str [106]],IV.vslice none 0 u.length 17 (bI u),iI A,iI D,IV.str j,iI l,IV.vslice none 0 (g.length) 5 (bP g),IV.str [103],IV.vslice none 1 1 1 [IV.str [110]],IV.vslice none 1 1 1 [IV.str [105]],IV.vslice none 0 y.length 17 (bI y),iI G,iI K,IV.str m,iI r,IV.vslice none 0 i.length 5 (bP i)]]]) (List.Mem [97] oQ/\List.Mem [98] oQ/\List.Mem [102] oQ/\List.Mem [120] oQ/\List.Mem [121] oQ/\List.Mem [105] oQ/\List.Mem [106] oQ/\∃(d:Nat)(z:List M10.S)(f:Int),(oA u z)/\(kD z d f)/\∃(d:Nat)(ks:List E)(f:Int),(jB g ks)/\(Es.dp ks<d/\E.wf f (E.mk A D j l ks))/\List.Mem [103] oQ/\List.Mem [110] oQ/\List.Mem [(105:UInt8)] oQ/\∃(d:Nat)(z:List M10.S)(f:Int),(oA y z)/\(kD z d f)/\tD Q h i G K m r true)):=by kernel_rfl
theorem f6M: ∀xs h Q,e0L xs h Q->aM env 143 xs h Q:=by
 intro xs h Q hk;unfold e0L at hk;split at hk
 .rename_i V X;obtain⟨⟨G,K,z,⟨L,O,m,r,g⟩,A,⟨R,T,u,y,i⟩,D,rfl,rfl⟩,hk⟩:=hk;refine aL (d6B) (f8J G K z L O m r g A R T u y i h Q) ?_;delta oA kD jB tD iI; (try dsimp -iota -proj only);obtain⟨_,j,l⟩:=D;have Y:=j.cnt;have Z:Es.dp g<=5:=j.vd;have y0:=l.cnt;have y3:Es.dp i<=5:=l.vd;exact aA (by simp only [aQ,aY,bF,bV,bK,cI,AN]) ⟨(by first|decide|exact fX KA),(by first|decide|exact fX KA),(by first|decide|exact fX KA),(by first|decide|exact fX KA),(by first|decide|exact fX KA),(by first|decide|exact fX KA),(by first|decide|exact fX KA),1000,z,0,⟨rfl,rfl⟩,⟨JZ,JZ,j.wf,j.ed⟩,1000,g,0,⟨rfl,rfl⟩,⟨JZ,j.vw⟩,(by first|decide|exact fX KA),(by first|decide|exact fX KA),(by first|decide|exact fX KA),1000,A,1,⟨rfl,rfl⟩,⟨JZ,JZ,l.wf,l.ed⟩,1000,i,1,⟨rfl,rfl⟩,⟨JZ,l.vw⟩,hk⟩
 .exact hk.elim
def d8O:=aV 143 e0L d8P
theorem d6A:aS env d8O:=aE f6M (d6B)
def e0G(xs:Y14)(h:Heap)(K:KT):Prop:=match xs with
 | [.agg [.vslice none 0 2 2 ac,.vslice none 0 2 9 fc]]=>sC ac fc/\K (.bool false) h
 |_=>False
def S9:Y11:=[97]
def Ap:Y11:=[98]
def tC(z:List (Y11))(Q:KT)(h:Heap)(i:Nat)(j:Prop)(l:UInt8)(m:Nat)(r:List (Y11)->Prop)(u:UInt8)(y:List (Y11)->Prop):Prop:=(i=z.length/\j)/\z.length<=1000/\aK (decide ([l] ∈z)) (Q (.bool true) h) (∃(g:List (Y11)),(m=g.length/\r g)/\g.length<=1000/\aK (decide ([u] ∈g)) (Q (.bool true) h) (y g))
theorem f8C(A D:Int)(y:List S)(G K:Int)(l:Y11)(m:Int)(i:List E)(z:List S)(L O:Int)(r:Y11)(u:Int)(j:List E)(h:Heap)(Q:KT):dF (aU d8O) env 144 (λk=>7) bD bD [.agg [.vslice none 0 2 2 [.str [97],.int .i64 A,.str [98],.int .i64 D],.vslice none 0 2 9 [.str [102],.vslice none 1 2 1 [.str [120],.str [121]],.vslice none 1 2 1 [.str [105],.str [106]],.vslice none 0 y.length 17 (bI y),.int .i64 G,.int .i64 K,.str l,.int .i64 m,.vslice none 0 i.length 5 (bP i),.str [103],.vslice none 1 1 1 [.str [110]],.vslice none 1 1 1 [.str [105]],.vslice none 0 z.length 17 (bI z),.int .i64 L,.int .i64 O,.str r,.int .i64 u,.vslice none 0 j.length 5 (bP j)]]] h Q=(
 aF (aQ [IV.agg [.vslice none 0 2 2 [IV.str S9,iI A,IV.str Ap,iI D],IV.vslice none 0 2 9 [IV.str [102],IV.vslice none 1 2 1 [IV.str [120],IV.str [121]],IV.vslice none 1 2 1 [IV.str [105],IV.str [106]],IV.vslice none 0 y.length 17 (bI y),iI G,iI K,IV.str l,iI m,IV.vslice none 0 i.length 5 (bP i),IV.str [103],IV.vslice none 1 1 1 [IV.str [110]],IV.vslice none 1 1 1 [IV.str [105]],IV.vslice none 0 z.length 17 (bI z),iI L,iI O,IV.str r,iI u,IV.vslice none 0 j.length 5 (bP j)]]]) (∃(g:List (Y11)),tC g Q h 0 ([]=List.map IV.str g) (97:UInt8) 1 (λg=>[IV.str S9]=List.map IV.str g) (98:UInt8) (λg=>(∃(g:List (Y11)),tC g Q h 0 ([]=List.map IV.str g) (102:UInt8) 2 (λg=>[IV.str S9,IV.str Ap]=List.map IV.str g) (120:UInt8) (λg=>(∃(g:List (Y11)),tC g Q h 3 ([IV.str S9,IV.str Ap,IV.str [120]]=List.map IV.str g) (121:UInt8) 4 (λg=>[IV.str S9,IV.str Ap,IV.str [120],IV.str [121]]=List.map IV.str g) (105:UInt8) (λg=>(∃(g:List (Y11)),tC g Q h 5 ([IV.str S9,IV.str Ap,IV.str [120],IV.str [121],IV.str [105]]=List.map IV.str g) (106:UInt8) 1 (λg=>[IV.str [102]]=List.map IV.str g) (103:UInt8) (λg=>(∃(g:List (Y11)),tC g Q h 2 ([IV.str S9,IV.str Ap]=List.map IV.str g) (110:UInt8) 3 (λg=>[IV.str S9,IV.str Ap,IV.str [110]]=List.map IV.str g) (105:UInt8) (λg=>(Q (.bool false) h)))))))))))):=by kernel_rfl
theorem f6H: ∀xs h Q,e0G xs h Q->aM env 144 xs h Q:=by
 intro xs h Q hk;unfold e0G at hk;split at hk
 .rename_i O R;obtain⟨⟨z,A,u,⟨D,G,i,j,g⟩,y,⟨K,L,m,r,l⟩,rfl,rfl⟩,hk⟩:=hk;refine aL (d6A) (f8C z A u D G i j g y K L m r l h Q) ?_;delta S9 Ap tC iI; (try dsimp -iota -proj only);exact aA (by simp only [aQ,aY,bF,bV,bK,cI,AN]) ⟨[],⟨rfl,rfl⟩,(by first|decide|exact fX KA),qQ ((by first|decide|exact fX KA)) ⟨[[97]],⟨rfl,rfl⟩,(by first|decide|exact fX KA),qQ ((by first|decide|exact fX KA)) ⟨[],⟨rfl,rfl⟩,(by first|decide|exact fX KA),qQ ((by first|decide|exact fX KA)) ⟨[[97],[98]],⟨rfl,rfl⟩,(by first|decide|exact fX KA),qQ ((by first|decide|exact fX KA)) ⟨[[97],[98],[120]],⟨rfl,rfl⟩,(by first|decide|exact fX KA),qQ ((by first|decide|exact fX KA)) ⟨[[97],[98],[120],[121]],⟨rfl,rfl⟩,(by first|decide|exact fX KA),qQ ((by first|decide|exact fX KA)) ⟨[[97],[98],[120],[121],[105]],⟨rfl,rfl⟩,(by first|decide|exact fX KA),qQ ((by first|decide|exact fX KA)) ⟨[[102]],⟨rfl,rfl⟩,(by first|decide|exact fX KA),qQ ((by first|decide|exact fX KA)) ⟨[[97],[98]],⟨rfl,rfl⟩,(by first|decide|exact fX KA),qQ ((by first|decide|exact fX KA)) ⟨[[97],[98],[110]],⟨rfl,rfl⟩,(by first|decide|exact fX KA),qQ ((by first|decide|exact fX KA)) hk⟩⟩⟩⟩⟩⟩⟩⟩⟩⟩
 .exact hk.elim
def d8G:=aV 144 e0G d8O
theorem d5S:aS env d8G:=aE f6H (d6A)
def e2E(f:Int)(g j:Y14)(k n:Int)(nm:Y11)(op:Int)(ks:List E):Inv':=dL Nat (λi=>[(2,.l 2 0),(3,.l 3 0),(5,.v (.int .i64 (i:Int)))]) (λ_=>[(2,[.vslice none 0 (cK f).length 1 ((cK f).map IV.str),.vslice none 0 2 1 (zW.map IV.str),.vslice none 0 2 2 g,.vslice none 0 2 9 j]),(3,[.int .i64 k,.int .i64 n,.str nm,.int .i64 op,.vslice none 0 ks.length 5 (bP ks)])]) (λ_=>Heap.empty) (λi=>i<=ks.length) (λi=>ks.length-i)
def b8Z(d:Nat)(xs:Y14)(h:Heap)(K:KT):Prop:=match xs with
 | [.agg [.vslice none 0 nv 1 cv,.vslice none 0 2 1 ca,.vslice none 0 2 2 pa,.vslice none 0 2 9 pf],.agg [.int .i64 k,.int .i64 n,.str nm,.int .i64 op,.vslice none 0 m 5 c]]=> ∃(f:Int)(ks:List E),(nv=(cK f).length/\cv=(cK f).map IV.str/\ca=zW.map IV.str)/\(m=ks.length/\c=bP ks)/\(Es.dp ks<d/\(f=0\/f=1)/\(E.wf f (.mk k n nm op ks) \/ (k=0/\ks=[]))/\aQ pa=true/\aQ pf=true)/\K (.bool true) h
 |_=>False
def Lg:=[IV.str [97],IV.str [98]]
def c5S(f:Int)(g i:Y14):=[IV.vslice none 0 ((cK f).length) 1 (List.map IV.str (cK f)),IV.vslice none 0 2 1 Lg,IV.vslice none 0 2 2 g,IV.vslice none 0 2 9 i]
def a9W(k n op:Int)(nm:Y11)(ks:List E):=[iI k,iI n,IV.str nm,iI op,IV.vslice none 0 ks.length 5 (bP ks)]
def Ix(f:Int)(m:Y14)(r:Y14)(k:Int)(n:Int)(nm:Y11)(op:Int)(ks:List E)(i:Int)(g:Nat)(j:Prop):Prop:=some (TV.l 2 0)=some (TV.l 2 0)/\pY 3 i g (c5S f m r) (some (a9W k n op nm ks)=some (a9W k n op nm ks)/\iE g ks.length j)
def kC(f:Int)(g:Int):Prop:=(cK f).length=(cK g).length/\List.map IV.str (cK f)=List.map IV.str (cK g)/\Lg=Lg
def mA(g:List E)(l:Nat)(i:Int)(j:Int)(m:Int)(r:Y11)(u:Int)(y:Y14)(z:Y14):Prop:=Es.dp g<l/\(i=0\/i=1)/\(E.wf i (E.mk j m r u g) \/j=0/\g=[])/\aQ y=true/\aQ z=true
def xO(Q:KT)(nm:Y11)(h:Heap):Prop:= ∃(g:List (Y11)),((2:Nat)=g.length/\Lg=List.map IV.str g)/\g.length<=1000/\Q (.bool (decide (nm∈g))) h
def xP(f:Int)(g:List (Y11))(i:Prop):Prop:=((cK f).length=g.length/\List.map IV.str (cK f)=List.map IV.str g)/\g.length<=1000/\i
theorem f7Z(r:Nat)(f:Int)(i j:Y14)(k n:Int)(nm:Y11)(op:Int)(ks:List E)(h:Heap)(Q:KT):dF (aU (aV 146 (b8Z r) d8G)) env 146 cC (mJ 3 (e2E f i j k n nm op ks)) bD [.agg [.vslice none 0 (cK f).length 1 ((cK f).map IV.str),.vslice none 0 2 1 (zW.map IV.str),.vslice none 0 2 2 i,.vslice none 0 2 9 j],.agg [.int .i64 k,.int .i64 n,.str nm,.int .i64 op,.vslice none 0 ks.length 5 (bP ks)]] h Q=(
 aF (aQ [IV.agg (c5S f i j),IV.agg (a9W k n op nm ks)]) ((∃(x:Nat),Ix f i j k n nm op ks 0 x True)/\N3 ks (λx A D K G z y=> ∃(l:Int)(g:List E),(kC f l)/\(z=g.length/\y=bP g)/\(mA g r l A D K G i j)/\∃(m:Nat),Ix f i j k n nm op ks (wW ((x:Int)+1)) m (ks.length-m<ks.length-x)) (k !=2) (aK (k !=3) (Q (.bool true) h) (xO Q nm h)) (∃(u:List (Y11)),xP f u (aK (decide (nm∈u)) (aK (k !=3) (Q (.bool true) h) (xO Q nm h)) (Q (.bool false) h))))):=by kernel_rfl
theorem f5G: ∀d xs h Q,b8Z d xs h Q->aM env 146 xs h Q:=by
 intro d
 induction d with
 |zero=>
  intro xs h Q hk;unfold b8Z at hk;split at hk
  .rename_i R L K D G k n nm op m c;obtain⟨f,ks,⟨rfl,rfl,rfl⟩,⟨rfl,rfl⟩,⟨hd,hf,g,r,u⟩,hk⟩:=hk;omega
  .exact hk.elim
 |succ dd ih=>
  intro xs h Q hk;unfold b8Z at hk;split at hk
  .rename_i R L K D G k n nm op m c;obtain⟨f,ks,⟨rfl,rfl,rfl⟩,⟨rfl,rfl⟩,⟨hd,hf,g,r,u⟩,hk⟩:=hk;refine aL (aE ih (d5S)) (f7Z dd f D G k n nm op ks h Q) ?_;delta Lg c5S a9W pY iE Ix N3 kC mA xO xP tI wW iI; (try dsimp -iota -proj only);have h3:ks.length<=3:=by
    rcases g with g| ⟨_,rfl⟩
    .exact(EW.of g).1
    .simp
   have y:Es.wf f ks:=by
    rcases g with g| ⟨_,rfl⟩
    .exact g.2
    .trivial
   refine aA (by simp only [aQ,aY,bF,bV,bK,cI,AN,r,u]) ⟨⟨0,KD,KD,KD,KD,KD,KD,AR _,trivial⟩,?_⟩;rintro i _ V;refine cV (λc=>?_) (λc=>?_)
   .have j:i<ks.length:=JZ;refine aP JZ (Ly j (by rw [AK]) λX Y O T q e=>?_);have h1:=Es.dp_mem (AG j);have h2:ks[i].dp=Es.dp q:=by rw [e];rfl
    have z:=Es.wf_mem y (AG j);rw [e]at z;exact⟨f,q,⟨rfl,rfl,rfl⟩,⟨rfl,rfl⟩,⟨JZ,hf,.inl z,r,u⟩,i+1,KD,KD,(by(try dsimp only);rw [AA _ JZ];rfl),KD,KD,KD,j,JZ⟩
   rcases g with g| ⟨rfl,_⟩
   .have A:Lz f k n nm op ks.length:=g.1;unfold Lz at A;rcases A with⟨rfl,_⟩| ⟨rfl,_,_,_,l⟩| ⟨rfl,_,_,_,l⟩| ⟨rfl,_⟩| ⟨rfl,_⟩
    .exact bt rfl (bt rfl hk)
    .exact bf rfl ⟨cK f,⟨rfl,rfl⟩,Bt f,brT l (bt rfl hk)⟩
    .exact bt rfl (bf rfl ⟨zW,⟨rfl,rfl⟩,(by first|decide|exact fX KA),bN hk (by rw [decide_eq_true l])⟩)
    .exact bt rfl (bt rfl hk)
    .exact bt rfl (bt rfl hk)
   .exact bt rfl (bt rfl hk)
  .exact hk.elim
def d8D:=aV 146 (λxs h K=> ∃d,b8Z d xs h K) d8G
theorem d5P:aS env d8D:=aE (λxs h Q hk=>hk.elim λd hk=>f5G d xs h Q hk) (d5S)
def e0E(xs:Y14)(h:Heap)(K:KT):Prop:=match xs with
 | [.agg [.vslice none 0 nv 1 cv,.vslice none 0 2 1 ca,.vslice none 0 2 2 pa,.vslice none 0 2 9 pf],.agg [.int .i64 k,.str nm,.str to,.int .i64 n,.int .i64 ak,.int .i64 an,.str anm,.int .i64 aop,.vslice none 0 am 5 ac,.int .i64 vk,.int .i64 vn,.str vnm,.int .i64 vop,.vslice none 0 vm 5 vc,.vslice none 0 m 5 c,.vslice none 0 mt 17 ct,.vslice none 0 ml 17 cl]]=> ∃(i j g:List E)(r l:List S)(f:Int),(am=i.length/\ac=bP i/\vm=j.length/\vc=bP j/\m=g.length/\c=bP g/\mt=r.length/\ct=bI r/\ml=l.length/\cl=bI l)/\sC pa pf/\(nv=(cK f).length/\cv=(cK f).map IV.str/\ca=zW.map IV.str)/\((f=0\/f=1)/\qS f k nm to n (.mk ak an anm aop i) (.mk vk vn vnm vop j) g r l/\(E.dp (.mk ak an anm aop i)<=5/\E.dp (.mk vk vn vnm vop j)<=5/\∀x∈g,x.dp<=5))/\K (.bool true) h
 |_=>False
def Iu(i:List E)(f:Int)(pa:Y14)(pf:Y14)(a4:List E)(ak:Int)(an:Int)(a5:Y11)(a6:Int)(a7:List E)(vk:Int)(vn:Int)(a8:Y11)(a9:Int)(k:Int)(Q:KT)(nm:Y11)(h:Heap)(to:Y11)(V:Bool)(X:Bool)(Y:Nat)(Z:Nat)(a0:Nat)(a1:Nat)(a2:Nat)(a3:List E->Nat->Prop):Prop:=aK V (aF X (aN .i64 (bP i) Y λA=>aN .i64 (bP i) Z λD=>dU (bP i) a0 λG=>aN .i64 (bP i) a1 λK=>bM 5 (bP i) a2 λb0 b1 L O=> ∃(j:Nat)(l:Int)(g:List E),(kC f l)
 /\(L=g.length/\O=bP g)/\(mA g j l A D G K pa pf)/\a3 g j)) (∃(R:Nat)(m:Int)(r:List E),(kC f m)/\(jB a4 r)/\(mA r R m ak an a5 a6 pa pf)/\∃(T:Nat),∃ (zb140
 :Int),∃(u:List E),(kC f zb140)/\(jB a7 u)/\(mA u T zb140 vk vn a8 a9 pa pf)/\aK (k==1) (∃(y:List (Y11)),xP f y (Q (.bool (decide (nm∈y))) h)) (aK (k==6) (∃(z:List (Y11)),xP f z (aK (decide (nm
 ∈z)) (sC pa pf/\(to=[102] \/to=[103])/\Q (.bool (decide ((if to=[102]then(0:Int)else(1:Int))>=0))) h) (Q (.bool false) h))) (aK (k==2) (xO Q nm h) (Q (.bool true) h))))
def It(g:List E)(f:Int)(X:Y14)(Y:Y14)(D:List E)(T:Int)(V:Int)(G:Y11)(K:Int)(L:List E)(vk:Int)(vn:Int)(O:Y11)(R:Int)(k:Int)(Q:KT)(nm:Y11)(h:Heap)(Z:Y11)(i:Int)(m:Nat)(r:Nat)(u:Nat)(y:Nat)(z:Nat)(A:List E->Nat->Prop):Prop:=Iu g f X Y D T V G K L vk vn O R k Q nm h Z (decide (i< (g.length:Int))) (true&&decide (i< (g.length:Int))) m r u y z (λl j=>A l j)
theorem f8A(f:Int)(A D:Y14)(k:Int)(nm G:Y11)(n:Int)(y z:Int)(l:Y11)(m:Int)(i:List E)(K L:Int)(r:Y11)(u:Int)(j:List E)(g:List E)(R O:List S)(h:Heap)(Q:KT):dF (aU d8D) env 203 (λk=>if k=3 then 3 else 0) bD bD [.agg [.vslice none 0 (cK f).length 1 ((cK f).map IV.str),.vslice none 0 2 1 (zW.map IV.str),.vslice none 0 2 2 A,.vslice none 0 2 9 D],.agg [.int .i64 k,.str nm,.str G,.int .i64 n,.int .i64 y,.int .i64 z,.str l,.int .i64 m,.vslice none 0 i.length 5 (bP i),.int .i64 K,.int .i64 L,.str r,.int .i64 u,.vslice none 0 j.length 5 (bP j),.vslice none 0 g.length 5 (bP g),.vslice none 0 R.length 17 (bI R),.vslice none 0 O.length 17 (bI O)]] h Q=(
 aF (aQ [IV.agg [.vslice none 0 ((cK f).length) 1 (List.map IV.str (cK f)),IV.vslice none 0 2 1 [IV.str [97],IV.str [98]],IV.vslice none 0 2 2 A,IV.vslice none 0 2 9 D],IV.agg [iI k,IV.str nm,IV.str G,iI n,iI y,iI z,IV.str l,iI m,IV.vslice none 0 i.length 5 (bP i),iI K,iI L,IV.str r,iI u,IV.vslice none 0 j.length 5 (bP j),IV.vslice none 0 g.length 5 (bP g),IV.vslice none 0 R.length 17 (bI R),IV.vslice none 0 O.length 17 (bI O)]]) (It g f A D i y z l m j K L r u k Q nm h G 0 0 1 2 3 4 (λks d=>Iu g f A D i y z l m j K L r u k Q nm h G (decide (1< (g.length:Int))) (true&&decide (1< (g.length:Int))) 5 6 7 8 9 (λks d=>It g f A D i y z l m j K L r u k Q nm h G 2 10 11 12 13 14 (λks d=>False))))):=by kernel_rfl
theorem f6F: ∀xs h Q,e0E xs h Q->aM env 203 xs h Q:=by
 intro xs h Q hk;unfold e0E at hk;split at hk
 .rename_i nv cv ca pa pf k nm to n ak an O R am ac vk vn Z a0 vm vc m c mt ct ml cl;obtain⟨l,r,A,th,el,f,⟨rfl,rfl,rfl,rfl,rfl,rfl,rfl,rfl,rfl,rfl⟩,G,⟨rfl,rfl,rfl⟩,⟨hf,T,he⟩,hk⟩:=hk;refine aL (d5P) (f8A f pa pf k nm to n ak an O R l vk vn Z a0 r A th el h Q) ?_;delta Lg kC mA jB xP xO Iu It iI; (try dsimp -iota -proj only);obtain⟨da,dv,dr⟩:=he;have a3:Es.dp l<=5:=da;have a4:Es.dp r<=5:=dv;obtain⟨g,j⟩:=G.pure;obtain⟨u,y,a7⟩:=T.e;refine aA (by simp only [aQ,aY,bF,bV,bK,cI,AN,g,j]) ?_;unfold qS at T;rcases T with⟨rfl,z,rfl,rfl,K,L,rfl,rfl,rfl⟩| ⟨rfl,z,rfl,rfl,K,L,rfl,rfl,rfl⟩| ⟨rfl,rfl,rfl,rfl,K,L,rfl⟩| ⟨rfl,rfl,rfl,rfl,K,L,rfl,rfl⟩| ⟨rfl,rfl,rfl,rfl,K,L,rfl,rfl,rfl⟩| ⟨rfl,z,V,rfl,K,L,D,rfl,rfl⟩| ⟨rfl,rfl,rfl,⟨a5,a6⟩,K,L,rfl,rfl,rfl⟩
  .exact qQ ((by first|decide|exact fX KA)) ⟨1000,f,l,⟨rfl,rfl,rfl⟩,⟨rfl,rfl⟩,⟨JZ,hf,oL u,g,j⟩,1000,f,r,⟨rfl,rfl,rfl⟩,⟨rfl,rfl⟩,⟨JZ,hf,oL y,g,j⟩,bt rfl ⟨cK f,⟨rfl,rfl⟩,Bt f,bN hk (by rw [decide_eq_true z])⟩⟩
  .exact qQ ((by first|decide|exact fX KA)) ⟨1000,f,l,⟨rfl,rfl,rfl⟩,⟨rfl,rfl⟩,⟨JZ,hf,oL u,g,j⟩,1000,f,r,⟨rfl,rfl,rfl⟩,⟨rfl,rfl⟩,⟨JZ,hf,oL y,g,j⟩,bf rfl (bf rfl (bt rfl ⟨zW,⟨rfl,rfl⟩,(by first|decide|exact fX KA),bN hk (by rw [decide_eq_true z])⟩))⟩
  .exact qQ ((by first|decide|exact fX KA)) ⟨1000,f,l,⟨rfl,rfl,rfl⟩,⟨rfl,rfl⟩,⟨JZ,hf,oL u,g,j⟩,1000,f,r,⟨rfl,rfl,rfl⟩,⟨rfl,rfl⟩,⟨JZ,hf,oL y,g,j⟩,bf rfl (bf rfl (bf rfl hk))⟩
  .exact qQ ((by first|decide|exact fX KA)) ⟨1000,f,l,⟨rfl,rfl,rfl⟩,⟨rfl,rfl⟩,⟨JZ,hf,oL u,g,j⟩,1000,f,r,⟨rfl,rfl,rfl⟩,⟨rfl,rfl⟩,⟨JZ,hf,oL y,g,j⟩,bf rfl (bf rfl (bf rfl hk))⟩
  .exact qQ ((by first|decide|exact fX KA)) ⟨1000,f,l,⟨rfl,rfl,rfl⟩,⟨rfl,rfl⟩,⟨JZ,hf,oL u,g,j⟩,1000,f,r,⟨rfl,rfl,rfl⟩,⟨rfl,rfl⟩,⟨JZ,hf,oL y,g,j⟩,bf rfl (bf rfl (bf rfl hk))⟩
  .have X:0<A.length:=JZ;refine brT JZ (aA (by rw [BD,decide_eq_true_eq];omega) (Ly (i:=0) X rfl λk2 n2 a8 b0 q e2=>?_));have w4:=Es.wf_mem D (AG X);have d4:=dr _ (AG X);rw [e2]at w4 d4;have a1:Es.dp q<=5:=d4;refine⟨1000,f,q,⟨rfl,rfl,rfl⟩,⟨rfl,rfl⟩,⟨JZ,hf,.inl w4,g,j⟩,?_⟩;rcases V with⟨rfl,hl⟩| ⟨rfl,hl⟩
   .have Y:1<A.length:=JZ;refine brT JZ (aA (by rw [BD,decide_eq_true_eq];omega) (Ly (i:=1) Y rfl λk3 n3 a9 b1 q3 e3=>?_));have w5:=Es.wf_mem D (AG Y);have d5:=dr _ (AG Y);rw [e3]at w5 d5;have a2:Es.dp q3<=5:=d5;exact⟨1000,f,q3,⟨rfl,rfl,rfl⟩,⟨rfl,rfl⟩,⟨JZ,hf,.inl w5,g,j⟩,qQ JZ ⟨1000,f,l,⟨rfl,rfl,rfl⟩,⟨rfl,rfl⟩,⟨JZ,hf,oL u,g,j⟩,1000,f,r,⟨rfl,rfl,rfl⟩,⟨rfl,rfl⟩,⟨JZ,hf,oL y,g,j⟩,bf rfl (bt rfl ⟨cK f,⟨rfl,rfl⟩,Bt f,brT z ⟨G,.inl rfl,hk⟩⟩)⟩⟩
   .exact qQ JZ ⟨1000,f,l,⟨rfl,rfl,rfl⟩,⟨rfl,rfl⟩,⟨JZ,hf,oL u,g,j⟩,1000,f,r,⟨rfl,rfl,rfl⟩,⟨rfl,rfl⟩,⟨JZ,hf,oL y,g,j⟩,bf rfl (bt rfl ⟨cK f,⟨rfl,rfl⟩,Bt f,brT z ⟨G,.inr rfl,hk⟩⟩)⟩
  .exact qQ ((by first|decide|exact fX KA)) ⟨1000,f,l,⟨rfl,rfl,rfl⟩,⟨rfl,rfl⟩,⟨JZ,hf,oL u,g,j⟩,1000,f,r,⟨rfl,rfl,rfl⟩,⟨rfl,rfl⟩,⟨JZ,hf,oL y,g,j⟩,bf rfl (bf rfl (bf rfl hk))⟩
 .exact hk.elim
def d8E:=aV 203 e0E d8D
theorem d5Q:aS env d8E:=aE f6F (d5P)
def e2D(f:Int)(g j:Y14)(l:List S)(b:Bool):Inv':=dL Nat (λi=>[(1,.v (.vslice none 0 l.length 17 (bI l))),(2,.v (.bool b)),(3,.l 3 0),(7,.v (.int .i64 (i:Int)))]) (λ_=>[(3,[.vslice none 0 (cK f).length 1 ((cK f).map IV.str),.vslice none 0 2 1 (zW.map IV.str),.vslice none 0 2 2 g,.vslice none 0 2 9 j])]) (λ_=>Heap.empty) (λi=>i<=l.length) (λi=>l.length-i)
def b8V(d:Nat)(xs:Y14)(h:Heap)(K:KT):Prop:=match xs with
 | [.agg [.vslice none 0 nv 1 cv,.vslice none 0 2 1 ca,.vslice none 0 2 2 pa,.vslice none 0 2 9 pf],.vslice none 0 m 17 c,.bool b]=> ∃(l:List S)(f:Int),sC pa pf/\(m=l.length/\c=bI l)/\(nv=(cK f).length/\cv=(cK f).map IV.str/\ca=zW.map IV.str)/\((f=0\/f=1)/\Ss.cnt l<d/\Ss.cnt l<=1000/\Ss.wf f l/\Ss.ed 5 l)/\K (.bool true) h
 |_=>False
def c5R(f:Int)(g i:Y14):=[IV.vslice none 0 ((cK f).length) 1 (List.map IV.str (cK f)),IV.vslice none 0 2 1 [IV.str [97],IV.str [98]],IV.vslice none 0 2 2 g,IV.vslice none 0 2 9 i]
def Iy(l:List S)(i:Bool)(f:Int)(r:Y14)(u:Y14)(j:Int)(g:Nat)(m:Prop):Prop:=some (TV.v (mB l))=some (TV.v (mB l))/\some (TV.v (.bool i))=some (TV.v (.bool i))/\pY 3 j g (c5R f r u) (iE g l.length m)
def N1(G:Y14)(K:Y14)(A:Nat)(y:Y14)(f:Int)(L:Nat)(D:Nat)(z:Y14)(l:List S)(u:Bool)(x:Nat):Prop:= ∃(j:List M10.S)(g:Int),sC G K/\(A=j.length/\y=bI j)/\(kC f g)/\((g=0\/g=1)/\kD j L g)/\∃(m:List M10.S)(i:Int),sC G K/\(D=m.length/\z=bI m)/\(kC f i)/\((i=0\/i
 =1)/\kD m L i)/\∃(r:Nat),Iy l u f G K (wW ((x:Int)+1)) r (l.length-r<l.length-x)
theorem f7Y(Y:Nat)(f:Int)(A i:Y14)(l:List S)(b:Bool)(h:Heap)(Q:KT):dF (aU (aV 145 (b8V Y) d8E)) env 145 cC (mJ 3 (e2D f A i l b)) bD [.agg [.vslice none 0 (cK f).length 1 ((cK f).map IV.str),.vslice none 0 2 1 (zW.map IV.str),.vslice none 0 2 2 A,.vslice none 0 2 9 i],.vslice none 0 l.length 17 (bI l),.bool b] h Q=(
 aF (aQ [IV.agg (c5R f A i),IV.vslice none 0 l.length 17 (bI l),IV.bool b]) ((∃(x:Nat),Iy l b f A i 0 x True)/\∀(x:Nat)(a5:FF),N2 x l Q h (λn0 s1 a2 Z R T X V a3 a0 L O a1 y m n3 z r n4 n5 s6 n7=>aK b (aK (n0==6) (sC A i/\(L=[102] \/L=[103])/\aF (decide (0<=if L=[102]then(0:Int)else(1:Int)) &&decide ((if L=[102]then(0:Int)else(1:Int))<2)) (bM 1 i (Int.toNat (if L=[102]then(0:Int)else(1:Int))*9+1) λa8 a7 a4 a6=>aK ((O:Int) !=(a4:Int)) (Q (.bool false) h) (N1 A i y m f Y z r l b x))) (N1 A i y m f Y z r l b x)) (∃(j D g:List E)(K G:List M10.S)(u:Int),(a2=j.length/\Z=bP j/\a3=D.length/\a0=bP D/\O=g.length/\a1=bP g/\y=K.length/\m=bI K/\z=G.length/\r=bI G)/\sC A i/\(kC f u)/\((u=0\/u=1)/\qS u n0 s1 L n3 (E.mk n4 n5 s6 n7 j) (E.mk R T X V D) g K G/\E.dp (E.mk n4 n5 s6 n7 j)<=5/\E.dp (E.mk R T X V D)<=5/\∀(xb:E),xb∈g->E.dp xb<=5)/\N1 A i y m f Y z r l b x)))):=by kernel_rfl
theorem f5F: ∀d xs h Q,b8V d xs h Q->aM env 145 xs h Q:=by
 intro d
 induction d with
 |zero=>
  intro xs h Q hk;unfold b8V at hk;split at hk
  .rename_i nv cv ca pa O m c b;obtain⟨l,f,g,⟨rfl,rfl⟩,⟨rfl,rfl,rfl⟩,⟨hf,hd,hb,hw,he⟩,hk⟩:=hk;omega
  .exact hk.elim
 |succ dd ih=>
  intro xs h Q hk;unfold b8V at hk;split at hk
  .rename_i nv cv ca pa O m c b;obtain⟨l,f,g,⟨rfl,rfl⟩,⟨rfl,rfl,rfl⟩,⟨hf,hd,hb,hw,he⟩,hk⟩:=hk;refine aL (aE ih (d5Q)) (f7Y dd f pa O l b h Q) ?_;delta c5R mB pY iE Iy b0I N2 Lg kC kD N1 tI wW; (try dsimp -iota -proj only);have lc:=Ss.len_cnt l;obtain⟨Y,Z⟩:=g.pure;refine aA (by simp only [aQ,aY,bF,bV,bK,cI,AN,Y,Z]) ⟨⟨0,KD,KD,KD,KD,KD,KD,AR _,trivial⟩,?_⟩;rintro i _ hi;refine cV (λc=>?_) (λc=>hk);have j:i<l.length:=JZ;refine aP JZ (c8O j (by rw [AK]) λk nm to n ak an a2 a3 R vk vn a4 a5 a1 r G D e=>?_);have h1:=Ss.cnt_mem (AG j);have e1:l[i].cnt=1+Ss.cnt G+Ss.cnt D:=by rw [e];rfl
   have L:=Ss.wf_mem hw (AG j);have K:=Ss.ed_mem he (AG j);rw [e]at L K;obtain⟨X,z,A⟩:=L;obtain⟨T,u,y⟩:=K;refine bx (aB (λc6=>?_) (λc6=>⟨G,f,g,⟨rfl,rfl⟩,⟨rfl,rfl,rfl⟩,⟨hf,JZ,JZ,z,u⟩,D,f,g,⟨rfl,rfl⟩,⟨rfl,rfl,rfl⟩,⟨hf,JZ,JZ,A,y⟩,i+1,KD,KD,KD,(by(try dsimp only);rw [AA _ JZ];rfl),KD,KD,j,JZ⟩)) ⟨R,a1,r,G,D,f,⟨rfl,rfl,rfl,rfl,rfl,rfl,rfl,rfl,rfl,rfl⟩,g,⟨rfl,rfl,rfl⟩,⟨hf,X,T⟩,G,f,g,⟨rfl,rfl⟩,⟨rfl,rfl,rfl⟩,⟨hf,JZ,JZ,z,u⟩,D,f,g,⟨rfl,rfl⟩,⟨rfl,rfl,rfl⟩,⟨hf,JZ,JZ,A,y⟩,i+1,KD,KD,KD,(by(try dsimp only);rw [AA _ JZ];rfl),KD,KD,j,JZ⟩;rw [beq_iff_eq]at c6;have a0:(to=[102]/\r.length=2) \/ (to=[103]/\r.length=1):=by
    unfold qS at X;rcases X with h|h|h|h|h|h|h
    .omega
    .omega
    .omega
    .omega
    .omega
    .exact h.2.2.1
    .omega
   rcases a0 with⟨rfl,V⟩| ⟨rfl,V⟩
   .refine⟨g,.inl rfl,aA rfl ?_⟩;have hx:O[Int.toNat (if([102]:Y11)=[102]then 0 else 1)*9+1]?=some (.vslice none 1 2 1 [.str [120],.str [121]]):=by
     obtain⟨la,lb,b0,v0,b1,v1,rfl,rfl⟩:=g;rfl
    exact jK hx (bf (by rw [V];rfl) ⟨G,f,g,⟨rfl,rfl⟩,⟨rfl,rfl,rfl⟩,⟨hf,JZ,JZ,z,u⟩,D,f,g,⟨rfl,rfl⟩,⟨rfl,rfl,rfl⟩,⟨hf,JZ,JZ,A,y⟩,i+1,KD,KD,KD,(by(try dsimp only);rw [AA _ JZ];rfl),KD,KD,j,JZ⟩)
   .refine⟨g,.inr rfl,aA rfl ?_⟩;have hx:O[Int.toNat (if([103]:Y11)=[102]then 0 else 1)*9+1]?=some (.vslice none 1 1 1 [.str [110]]):=by
     obtain⟨la,lb,b0,v0,b1,v1,rfl,rfl⟩:=g
     cases v0
     rfl
    exact jK hx (bf (by rw [V];rfl) ⟨G,f,g,⟨rfl,rfl⟩,⟨rfl,rfl,rfl⟩,⟨hf,JZ,JZ,z,u⟩,D,f,g,⟨rfl,rfl⟩,⟨rfl,rfl,rfl⟩,⟨hf,JZ,JZ,A,y⟩,i+1,KD,KD,KD,(by(try dsimp only);rw [AA _ JZ];rfl),KD,KD,j,JZ⟩)
  .exact hk.elim
def d8C:=aV 145 (λxs h K=> ∃d,b8V d xs h K) d8E
theorem d5O:aS env d8C:=aE (λxs h Q hk=>hk.elim λd hk=>f5F d xs h Q hk) (d5Q)
def b8W(xs:Y14)(h:Heap)(K:KT):Prop:=match xs with
 | [.agg [.vslice none 0 2 2 ac,.vslice none 0 2 9 fc]]=>vR ac fc/\K (.int .i64 0) h
 |_=>False
def Lo(u y:List S)(z A l D G r:Int)(j m:Y11)(g i:List E):=[IV.str [102],IV.vslice none 1 2 1 [IV.str [120],IV.str [121]],IV.vslice none 1 2 1 [IV.str [105],IV.str [106]],IV.vslice none 0 u.length 17 (bI u),iI z,iI A,IV.str j,iI l,IV.vslice none 0 g.length 5 (bP g),IV.str [103],IV.vslice none 1 1 1 [IV.str [110]],IV.vslice none 1 1
 1 [IV.str [105]],IV.vslice none 0 y.length 17 (bI y),iI D,iI G,IV.str m,iI r,IV.vslice none 0 i.length 5 (bP i)]
def Lp(g i:Int):=[IV.str [97],iI g,IV.str [98],iI i]
def e6T:=[IV.str [97],IV.str [98]]
def Iw(f:Int)(g:Nat)(j:UInt8)(l:UInt8)(i:Y14):Prop:=g=(cK f).length/\i=List.map IV.str (cK f)/\e6T=e6T
def d3T(f:Int):=Iw f 4 (120:UInt8) (121:UInt8) [IV.str [120],IV.str [121],IV.str [105],IV.str [106]]
def d3U(f:Int):=Iw f 2 (110:UInt8) (105:UInt8) [IV.str [110],IV.str [105]]
abbrev c6T(f:Int)(d:Nat)(g:List M10.S):=(f=0\/f=1)/\kD g d f
theorem f2Q(K L:Int)(u:List S)(z A:Int)(j:Y11)(l:Int)(g:List E)(y:List S)(D G:Int)(m:Y11)(r:Int)(i:List E)(h:Heap)(Q:KT):dF (aU d8C) env 76 (λk=>3) bD bD [.agg [.vslice none 0 2 2 [.str [97],.int .i64 K,.str [98],.int .i64 L],.vslice none 0 2 9 [.str [102],.vslice none 1 2 1 [.str [120],.str [121]],.vslice none 1 2 1 [.str [105],.str [106]],.vslice none 0 u.length 17 (bI u),.int .i64 z,.int .i64 A,.str j,.int .i64 l,.vslice none 0 g.length 5 (bP g),.str [103],.vslice none 1 1 1 [.str [110]],.vslice none 1 1 1 [.str [105]],.vslice none 0 y.length 17 (bI y),.int .i64 D,.int .i64 G,.str m,.int .i64 r,.vslice none 0 i.length 5 (bP i)]]] h Q=(
 aF (aQ [IV.agg [.vslice none 0 2 2 (Lp K L),IV.vslice none 0 2 9 (Lo u y z A l D G r j m g i)]]) (vR (Lp K L) (Lo u y z A l D G r j m g i)/\vR (Lp K L) (Lo u y z A l D G r j m g i)/\sC (Lp K L) (Lo u y z A l D G r j m g i)/\∃(d:Nat)(O:List M10.S)(f:Int),sC (Lp K L) (Lo u y z A l D G r j m g i)/\(oA u O)/\(d3T f)/\(c6T f d O)/\∃(d:Nat)(f:Int)(ks:List E),(d3T f)/\(jB g ks)/\(mA ks d f z A j l (Lp K L) (Lo u y z A l D G r j m g i))/\∃(d:Nat)(O:List M10.S)(f:Int),sC (Lp K L) (Lo u y z A l D G r j m g i)/\(oA y O)/\(d3U f)/\(c6T f d O)/\∃(d:Nat)(f:Int)(ks:List E),(d3U f)/\(jB i ks)/\(mA ks d f D G m r (Lp K L) (Lo u y z A l D G r j m g i))/\∃(d:Nat)(O:List M10.S)(f:Int),sC (Lp K L) (Lo u y z A l D G r j m g i)/\(oA u O)/\(d3T f)/\(c6T f d O)/\∃(d:Nat)(O:List M10.S)(f:Int),sC (Lp K L) (Lo u y z A l D G r j m g i)/\(oA y O)/\(d3U f)/\(c6T f d O)/\Q (.int .i64 0) h)):=by kernel_rfl
theorem f0C: ∀xs h Q,b8W xs h Q->aM env 76 xs h Q:=by
 intro xs h Q hk;unfold b8W at hk;split at hk
 .rename_i ac fc;have y:=hk.1;obtain⟨⟨R,T,z,⟨V,X,D,G,j⟩,A,⟨Y,Z,K,L,l⟩,O,rfl,rfl⟩,hk⟩:=hk;refine aL (d5O) (f2Q R T z V X D G j A Y Z K L l h Q) ?_;delta Lp Lo oA e6T Iw d3T kD c6T jB mA d3U iI;obtain⟨m,r⟩:=y.q.pure;have u:=y.q;obtain⟨_,g,i⟩:=O;have x0:=g.cnt;have x3:Es.dp j<=5:=g.vd;have y0:=i.cnt;have y3:Es.dp l<=5:=i.vd;have w1:=EW.of g.vw;refine aA (by simp only [aQ,aY,bF,bV,bK,cI,AN]) ⟨y,y,u,1000,z,0,u,⟨rfl,rfl⟩,⟨rfl,rfl,rfl⟩,⟨.inl rfl,JZ,JZ,g.wf,g.ed⟩,1000,0,j,⟨rfl,rfl,rfl⟩,⟨rfl,rfl⟩,⟨JZ,.inl rfl,.inl g.vw,m,r⟩,
   1000,A,1,u,⟨rfl,rfl⟩,⟨rfl,rfl,rfl⟩,⟨.inr rfl,JZ,JZ,i.wf,i.ed⟩,1000,1,l,⟨rfl,rfl,rfl⟩,⟨rfl,rfl⟩,⟨JZ,.inr rfl,.inl i.vw,m,r⟩,
   1000,z,0,u,⟨rfl,rfl⟩,⟨rfl,rfl,rfl⟩,⟨.inl rfl,JZ,JZ,g.wf,g.ed⟩,1000,A,1,u,⟨rfl,rfl⟩,⟨rfl,rfl,rfl⟩,⟨.inr rfl,JZ,JZ,i.wf,i.ed⟩,hk⟩
 .exact hk.elim
def b5U:=aV 76 b8W d8C
theorem c1Q:aS env b5U:=aE f0C (d5O)
def f1K(op r:Int)(ks:Y12)(m g:Int)(mK:Y12):Inv':=dL Nat (λi=>[(2,.l 2 0),(3,.l 3 0),(5,.v (.int .i64 i))]) (λ_=>[(2,[.int .i64 op,.int .i64 r,.vslice none 0 ks.length 1 (ks.map (IV.int .i64))]),(3,[.int .i64 m,.int .i64 g,.vslice none 0 mK.length 1 (mK.map (IV.int .i64))])]) (λ_=>Heap.empty)
 (λi=>(ks.length=mK.length/\i<=ks.length)/\∀j,j<i->ks[j]?=mK[j]?) (λi=>ks.length-i)
def Bq(xs:Y14)(h:Heap)(K:KT):Prop:=match xs with
 | [.agg [.int .i64 op,.int .i64 im,.vslice none e1 n1 1 c1],.agg [.int .i64 op2,.int .i64 im2,.vslice none e2 n2 1 c2]]=> ∃ks mK:Y12,(n1=ks.length/\c1=ks.map (IV.int .i64))/\(n2=mK.length/\c2=mK.map (IV.int .i64))/\ks.length<=1000000000/\K (.bool (decide ((⟨op,im,ks⟩:Nd)=⟨op2,im2,mK⟩))) h
 |_=>False
def d3D(op g:Int)(ks:Y12):=[iI op,iI g,IV.vslice none 0 ks.length 1 (List.map (IV.int .i64) ks)]
def d3E(i g:Int)(mK:Y12):=[iI i,iI g,IV.vslice none 0 mK.length 1 (List.map (IV.int .i64) mK)]
def vB(g:TV)(i:TV)(j:Prop):Prop:=some g=some g/\some i=some i/\j
def a4Y(op:Int)(y:Int)(ks:Y12)(m:Int)(j:Int)(mK:Y12)(r:Int)(i:Nat)(u:Prop):Prop:=vB (TV.l 2 0) (TV.l 3 0) (tI r=tI (i:Int)/\some (d3D op y ks)=some (d3D op y ks)/\some (d3E m j mK)=some (d3E m j mK)/\Heap.mk PT.nil 0=Heap.mk PT.nil 0/\((ks.length=mK.length/\i<=ks.length)/\∀(g:Nat),g<i->ks[g]?=mK[g]?)/\u)
def vC(g:Nat)(i:Nat):Bool:=decide (0<=(g:Int)) &&decide ((g:Int)< (i:Int))
theorem d1X(op l i g:Int)(ks mK:Y12)(r u:Nat)(h:Heap)(Q:KT):dF (aU b5U) env 50 cC (mJ 5 (f1K op l ks i g mK)) bD [.agg [.int .i64 op,.int .i64 l,.vslice none r ks.length 1 (ks.map (IV.int .i64))],.agg [.int .i64 i,.int .i64 g,.vslice none u mK.length 1 (mK.map (IV.int .i64))]] h Q=(
 aF (aQ [IV.agg (d3D op l ks),IV.agg (d3E i g mK)]) (aK (op !=i) (Q (.bool false) h) (aK (l !=g) (Q (.bool false) h) (aK ((ks.length:Int) !=(mK.length:Int)) (Q (.bool false) h) ((∃(x:Nat),a4Y op l ks i g mK 0 x True)/\∀(x:Nat)(b:FF),((ks.length=mK.length/\x<=ks.length)/\∀(j:Nat),j<x->ks[j]?=mK[j]?)->aK (decide ((x:Int)< (ks.length:Int))) (aF (vC x ks.length) (aN .i64 (List.map (IV.int .i64) ks) ((x:Int).toNat*1) λy=>aF (vC x mK.length) (aN .i64 (List.map (IV.int .i64) mK) ((x:Int).toNat*1) λz=>aK (y !=z) (Q (.bool false) h) (∃(m:Nat),a4Y op l ks i g mK (wW ((x:Int)+1)) m (ks.length-m<ks.length-x))))) (Q (.bool true) h)))))):=by kernel_rfl
theorem a8Z: ∀xs h Q,Bq xs h Q->aM env 50 xs h Q:=by
 intro xs h Q hk;unfold Bq at hk;split at hk
 .rename_i op y L Z m l g O n2 A;obtain⟨ks,mK,⟨rfl,rfl⟩,⟨rfl,rfl⟩,Y,hk⟩:=hk;refine aL (c1Q) (d1X op y l g ks mK L O h Q) ?_;delta d3D d3E vB a4Y vC tI wW iI;have X: ∀x:Nat,(x:Int).toNat=x:=AK
  have fin: ∀b:Bool,(b=true ↔ (op=l/\y=g/\ks=mK))->Q (.bool b) h:=λb e=>by
   have:b=decide ((⟨op,y,ks⟩:Nd)=⟨l,g,mK⟩):=by
    rw [GC,e,decide_eq_true_eq,Nd.mk.injEq]
   rw [this];exact hk
  have z: ¬ (op=l/\y=g/\ks=mK)->Q (.bool false) h:=λe=>fin false ⟨λq=>(by cases q),λq=>absurd q e⟩
  refine aA (by simp only [aQ,aY,bL,AN]) (aB (λc=>z (λe=>bne_iff_ne.1 c e.1)) (λm=>aB (λc=>z (λe=>bne_iff_ne.1 c e.2.1)) (λA=>aB (λc=>z (λe=>bne_iff_ne.1 c (by rw [e.2.2]))) (λK=>?_))));rw [bne_eq_false_iff_eq]at m A K;subst m A;have G:ks.length=mK.length:=JZ;refine⟨⟨0,rfl,rfl,rfl,rfl,rfl,rfl,⟨⟨G,AR _⟩,λj T=>JZ⟩,trivial⟩,?_⟩;rintro i _ ⟨⟨V,R⟩,D⟩
  try dsimp only at R D⊢
  refine aB (λc=>?_) (λc=>?_)
  .rw [decide_eq_true_eq]at c;have u:i<ks.length:=JZ;have r:i<mK.length:=JZ;simp only [X];rw [AM];refine aA (by simp;omega) (cO u (aA (by simp;omega) (cO r (aB (λm=>z (λe=>?_)) (λm=>⟨i+1,KD,KD,?_,KD,KD,KD,⟨⟨G,u⟩,λj T=>?_⟩,by(try dsimp only);omega⟩)))))
   .have e:=e.2.2;subst e;simp at m
   .rw [AA _ JZ];rfl
   .rcases BK j i with q|q
    .exact D j q
    .obtain rfl:j=i:=JZ;rw [bne_eq_false_iff_eq]at m;rw [AB u,AB r,m]
  .rw [decide_eq_false_iff_not]at c;refine fin true ⟨λ_=>⟨rfl,rfl,DE λj=>?_⟩,λ_=>rfl⟩;rcases BK j i with q|q
   .exact D j q
   .rw [BP JZ,BP JZ]
 .exact hk.elim
def Qb:=aV 50 Bq b5U
theorem Xk:aS env Qb:=aE a8Z (c1Q)
def puC(id:Nat)(op g:Int)(p:PSt)(lv:IV)(l:Y12)(h:Heap):Inv':=dL (Heap×Y10×Nat) (λx=>[(0,.v (.ptr id 0)),(9,.l 9 0)]) (λx=>[(9,[.int .i64 op,.int .i64 g,.vslice x.2.1 x.2.2 l.length 1 (l.map (IV.int .i64))])]) (λx=>x.1) (λx=>PuI h id p lv x.1) (λx=>0)
def puI(id:Nat)(op g:Int)(p:PSt)(lv:IV)(l:Y12)(h:Heap):Inv':=dL (Nat×Heap×Y10×Nat) (λx=>[(0,.v (.ptr id 0)),(9,.l 9 0),(10,.v (.int .i64 (x.1:Int)))]) (λx=>[(9,[.int .i64 op,.int .i64 g,.vslice x.2.2.1 x.2.2.2 l.length 1 (l.map (IV.int .i64))])]) (λx=>x.2.1) (λx=>PuI h id p lv x.2.1/\x.1<=p.ns.length) (λx=>p.ns.length-x.1)
def e0D(xs:Y14)(h:Heap)(K:KT):Prop:=match xs with
 | [.ptr id 0,.int .i64 op,.int .i64 im,.vslice none 0 kn 1 kc]=> ∃(p:PSt)(lv:IV)(l:Y12),(kn=l.length/\kc=l.map (IV.int .i64))/\PutPre h id p lv op im l/\∀(v:Int)(h2:Heap)(lv:IV)(g:Y15),PutPost h id p h2 lv g->K (.int .i64 v) h2
 |_=>False
def Zx:=IV.int .i64
def e6U(op i:Int)(l:Y12)(g:Heap×Y10×Nat):=[iI op,iI i,IV.vslice g.2.1 g.2.2 l.length 1 (List.map Zx l)]
def d3V:=TV.l 9 0
def a4Z(id:Nat)(op:Int)(r:Int)(l:Y12)(h:Heap)(p:PSt)(lv:IV)(j:Int)(i:Heap×Y10×Nat)(m:Nat×Heap×Y10×Nat->Prop):Prop:= ∃(g:Nat×Heap×Y10×Nat),vB (TV.v (.ptr id 0)) d3V (tI j=tI (g.1:Int)/\some [iI op,iI r,IV.vslice i.2.1 i.2.2 l.length 1 (List.map Zx l)]=some [iI op,iI r,IV.vslice g.2.2.1 g.2.2.2 l.length 1 (List.map Zx l)]/\i.1=g.2.1/\(PuI
 h id p lv g.2.1/\g.1<=List.length (PSt.ns p))/\m g)
def pW(id:Nat)(i:Heap)(j:Nat)(g:Y14)(l:Y14)(m:Nat):Heap:=i.set id (IObj.cells (List.take j g++l++List.drop m g))
def a4X(G:Nat×Heap×Y10×Nat)(id:Nat)(op:Int)(R:Int)(l:Y12)(Q:KT):=aT G.2.1 id λy=>a3K y 2 λz=>dX G.2.1 3 40 z 1 [iI op,iI R,IV.vslice none 0 l.length 1 (List.map Zx l)] λj m r u g=>aT g id λi=>aF (Nat.ble 3 i.length) (aT (pW id g 2 i [IV.vslice (some j)
 m r 3 u] 3) id λA=>H0 3 A 2 (Q (.int .i64 (-1:Int)) (pW id g 2 i [IV.vslice (some j) m r 3 u] 3)) λK L D O=>Q (.int .i64 (wW ((D:Int)-1))) (pW id g 2 i [IV.vslice (some j) m r 3
 u] 3))
theorem f7X(id:Nat)(op i:Int)(u:Nat)(O:Y14)(p:PSt)(lv:IV)(l:Y12)(h:Heap)(Q:KT):dF (aU Qb) env 77 cC (mJ 4 (puI id op i p lv l h)) (icS (mJ 3 (puC id op i p lv l h))) [.ptr id 0,.int .i64 op,.int .i64 i,.vslice none 0 u 1 O] h Q=(
 aK (Nat.beq u 0) (∃(j:Heap×Y10×Nat),vB (TV.v (.ptr id 0)) d3V (some [iI op,iI i,IV.vslice none 1 0 1 []]=some (e6U op i l j)/\h=j.1/\PuI h id p lv j.1/\True)) (aF (Nat.ble (((0:Nat)+u)*8) 140737488355328) (∃(j:Heap×Y10×Nat),vB (TV.v (.ptr id 0)) d3V (some [iI op,iI i,IV.vslice (some (h.next)) (((0:Nat)+u)*1) ((0:Nat)+u) 1 O]=some (e6U op i l j)/\Heap.push h (IObj.tip (((0:Nat)+u)*1))=j.1/\PuI h id p lv j.1/\True)))/\(∀(j:Heap×Y10×Nat)(b:FF),PuI h id p lv j.1->(a4Z id op i l h p lv 0 j (λm=>True))/\∀(g:Nat×Heap×Y10×Nat)(b:FF),PuI h id p lv g.2.1/\g.1<=List.length (PSt.ns p)->aT g.2.1 id λr0=>H0 3 r0 2 (a4X g id op i l Q) λY T z R=>aK (decide ((g.1:Int)< (z:Int))) (aT g.2.1 id λL=>H0 3 L 2 False λZ V A r=>aF (vC g.1 A) (aN .i64 r ((g.1:Int).toNat*3) λG=>aN .i64 r (((g.1):Int).toNat*3+1) λK=>bM 1 r ((g.1:Int).toNat*3+1+1) λa0 X D y=> ∃(ks mK:Y12),(D=ks.length/\y=List.map Zx ks)/\(l.length=mK.length/\List.map Zx l=List.map Zx mK)/\ks.length<=1000000000/\aK (decide (Nd.mk G K ks=Nd.mk op i mK)) (Q (.int .i64 (g.1:Int)) g.2.1) (a4Z id op i l h p lv (wW ((g.1:Int)+(1:Int))) g.2 (λm=>(PSt.ns p).length-m.1< (PSt.ns p).length-g.1)))) (a4X g id op i l Q))/\True):=by kernel_rfl
theorem f6E: ∀xs h Q,e0D xs h Q->aM env 77 xs h Q:=by
 intro xs h Q hk;unfold e0D at hk;split at hk
 .rename_i id op R V T;obtain⟨p,lv,l,u,m,hk⟩:=hk;refine aL (Xk) (f7X id op R V T p lv l h Q) ?_;delta vB d3V Zx e6U a4Z pW a4X vC tI wW iI; (try dsimp -iota -proj only);obtain⟨rfl,rfl⟩:=u;refine⟨aB (λA=>?_) (λA=>aA (by rw [BB];have:=m.ok.2.2;omega) ⟨(h.push (.tip ((0+l.length)*1)),some h.next,l.length),KD,KD,?_,KD,⟨BO m.lt,(aO m.lt).trans m.g,m.lv.push,FV.refl.push m.lt⟩,KD⟩),?_,trivial⟩
  .obtain rfl:l=[]:=CU (bT.1 A);exact⟨(h,none,1),KD,KD,KD,KD,⟨m.lt,m.g,m.lv,FV.refl⟩,KD⟩
  .rw [AY,AM]
  rintro⟨g,e⟩ _ x;refine⟨⟨(0,g,e),KD,KD,KD,KD,KD,⟨x,AR _⟩,KD⟩,?_⟩;clear x;rintro⟨i,g,e⟩ _ ⟨x,O⟩;have Y:=m.ln;have fin:=λ(D:Nat->Nat->Nat->Y14->Heap->Prop)=>x.app (bytes:=40) (K:=D) m KA
  dsimp only at x O fin⊢;refine aC x.e ?_;rcases x.lv with⟨e0,y⟩| ⟨Z,y,_⟩
  .exact c0J (congrArg some y) (aC x.e (c8M rfl (fin _ λj g2 X z P=>aC z (aA rfl (aC aH (Se rfl (hk _ _ _ _ P)))))))
  .refine Se (congrArg some y) (cV (λG=>?_) (λG=>aC x.e (c8M rfl (fin _ λj g2 X z P=>aC z (aA rfl (aC aH (Se rfl (hk _ _ _ _ P))))))));have r:i<p.ns.length:=JZ;have u:=(m.gl _ (AG r)).2.2;exact aC x.e (Se (congrArg some y) (aP JZ (uM r (by rw [AK]) ⟨p.ns[i].ks,l,⟨rfl,rfl⟩,⟨rfl,rfl⟩,JZ,cV (λL=>hk _ _ _ _ ⟨x.e,x.lv,m.gl,JZ,x.fv⟩) (λL=>⟨(i+1,g,e),KD,KD,(by(try dsimp only);rw [AA _ JZ];rfl),KD,KD,⟨x,r⟩,by(try dsimp only);omega⟩)⟩)))
 .exact hk.elim
def d8B:=aV 77 e0D Qb
theorem d5N:aS env d8B:=aE f6E (Xk)
def e7N(id:Nat)(s:BSt)(nm:Y11)(h:Heap):Inv':=dL Nat (λi=>[(0,.v (.ptr id 0)),(1,.v (.str nm)),(5,.v (.int .i64 (i:Int)))]) (λ_=>[]) (λ_=>h) (λi=>i<=(cK s.f).length) (λi=>(cK s.f).length-i)
def d9O(xs:Y14)(h:Heap)(K:KT):Prop:=match xs with
 | [.ptr id 0,.str nm]=> ∃s:BSt,BH h id s/\∀i:Nat,i< (cK s.f).length->K (.int .i64 (i:Int)) h
 |_=>False
theorem f7I(id:Nat)(s:BSt)(nm:Y11)(h:Heap)(Q:KT):dF (aU d8B) env 148 cC (mJ 3 (e7N id s nm h)) bD [.ptr id 0,.str nm] h Q=(
 (∃(x:Nat),vB (TV.v (.ptr id 0)) (TV.v (.str nm)) (tI 0=tI (x:Int)/\h=h/\Nat.le x ((cK (BSt.f s)).length)/\True))/\∀(x:Nat)(b:FF),x<=List.length (cK (BSt.f s))->aT h id λr0=>bM 1 r0 3 λA y l u=>aK (decide ((x:Int)< (l:Int))) (aT h id λr=>bM 1 r 3 λD z m j=>aF (vC x m) (dU j ((x:Int).toNat*(1:Nat)) λi=>aK (i==nm) (Q (.int .i64 (x:Int)) h) (∃(g:Nat),vB (TV.v (.ptr id 0)) (TV.v (.str nm)) (tI (wW ((x:Int)+1))=tI (g:Int)/\h=h/\Nat.le g ((cK (BSt.f s)).length)/\List.length (cK (BSt.f s))-g< (cK (BSt.f s)).length-x)))) (Q (.int .i64 0) h)):=by kernel_rfl
theorem f5Q: ∀xs h Q,d9O xs h Q->aM env 148 xs h Q:=by
 intro xs h Q hk;unfold d9O at hk;split at hk
 .rename_i id nm;obtain⟨s,l,hk⟩:=hk;refine aL (d5N) (f7I id s nm h Q) ?_;delta vB vC tI wW;have u:=uQ s.f;refine⟨⟨0,KD,KD,KD,KD,AR _,trivial⟩,?_⟩;intro i _ r;refine aC l.g (jK rfl (cV (λc=>?_) (λc=>hk 0 JZ)));have j:i< (cK s.f).length:=JZ;exact aC l.g (jK rfl (aP JZ (qR (b:=(cK s.f)[i]) (by rw [AK,AM,BJ,AB j];rfl) (aB (λm=>hk i j) (λm=>⟨i+1,KD,KD,(by(try dsimp only);rw [AA _ JZ];rfl),KD,j,JZ⟩)))))
 .exact hk.elim
def d7R:=aV 148 d9O d8B
theorem d5D:aS env d7R:=aE f5Q (d5N)
def d9L(xs:Y14)(h:Heap)(K:KT):Prop:=match xs with
 | [.ptr id 0,.str nm]=> ∃s:BSt,BH h id s/\∀i:Nat,i<2->K (.int .i64 (i:Int)) h
 |_=>False
def Th(h:Heap)(id:Nat)(Q:KT)(g:Int)(y:Nat)(z:Y11->Prop):=aT h id λu=>bM 2 u 0 λA D i G=>aK (decide (g< (i:Int))) (aT h id λj=>bM 2 j 0 λK L l m=>aF (true&&decide (g< (l:Int))) (dU m y λr=>z r)) (Q (.int .i64 0) h)
theorem f7E(id:Nat)(s:BSt)(nm:Y11)(h:Heap)(Q:KT):dF (aU d7R) env 149 (λk=>if k=3 then 3 else 0) bD bD [.ptr id 0,.str nm] h Q=(
 Th h id Q 0 0 (λg=>aK (g==nm) (Q (.int .i64 0) h) (Th h id Q 1 2 (λi=>aK (i==nm) (Q (.int .i64 1) h) (Th h id Q 2 4 (λj=>aK (j==nm) (Q (.int .i64 2) h) False)))))):=by kernel_rfl
theorem f5N: ∀xs h Q,d9L xs h Q->aM env 149 xs h Q:=by
 intro xs h Q hk;unfold d9L at hk;split at hk
 .rename_i id nm;obtain⟨s,i,hk⟩:=hk;refine aL (d5D) (f7E id s nm h Q) ?_;delta Th; (try dsimp -iota -proj only);obtain⟨m,r,u,z,y,A,_,j,_⟩:=i.pp;have l: ∀o:Nat,s.pa[o]?=(a0J m r)[o]?:=λo=>by rw [j]
  exact aC i.g (jK rfl (bt rfl (aC i.g (jK rfl (aA rfl (qR ((l 0).trans rfl) (bx (hk 0 KA) (aC i.g (jK rfl (bt rfl (aC i.g (jK rfl (aA rfl (qR ((l 2).trans rfl) (bx (hk 1 KA) (aC i.g (jK rfl (bf rfl (hk 0 KA)))))))))))))))))))
 .exact hk.elim
def d7O:=aV 149 d9L d7R
theorem d4Z:aS env d7O:=aE f5N (d5D)
def d9Q(xs:Y14)(h:Heap)(K:KT):Prop:=match xs with
 | [.ptr id 0,.int .i64 c,.int .i64 a,.int .i64 b]=> ∃(s:BSt),(BH h id s/\s.ns.length<99990)/\∀(v:Int)(h2:Heap)(g:BSt),BI h id s h2 g 1->K (.int .i64 v) h2
 |_=>False
theorem f7L(id:Nat)(c a b:Int)(h:Heap)(Q:KT):dF (aU d7O) env 151 cC bD bD [.ptr id 0,.int .i64 c,.int .i64 a,.int .i64 b] h Q=(
 aK (a==b) (Q (.int .i64 a) h) (∃(p:PSt)(lv:IV)(l:Y12),((3:Nat)=l.length/\[iI c,iI a,iI b]=List.map (IV.int .i64) l)/\PutPre h id p lv 22 0 l/\∀(v:Int)(h2:Heap)(lv:IV)(g:Y15),PutPost h id p h2 lv g->Q (.int .i64 v) h2)):=by kernel_rfl
theorem f5S: ∀xs h Q,d9Q xs h Q->aM env 151 xs h Q:=by
 intro xs h Q hk;unfold d9Q at hk;split at hk
 .rename_i id c a b;obtain⟨s,⟨g,j⟩,hk⟩:=hk;refine aL (d4Z) (f7L id c a b h Q) ?_;delta iI;exact bx (hk a h s ((BI.refl g).le (AR _))) ((BI.refl g).put [c,a,b] JZ λv h2 i y=>hk v h2 i y)
 .exact hk.elim
def d7T:=aV 151 d9Q d7O
theorem d5F:aS env d7T:=aE f5S (d4Z)
def d9M(xs:Y14)(h:Heap)(K:KT):Prop:=match xs with
 | [.ptr id 0,.int .i64 a,.int .i64 i]=> ∃(s:BSt),(BH h id s/\s.ns.length<99990/\(0<=a/\a<2))/\∀(h2:Heap)(g:BSt),BI h id s h2 g 3->K (.tuple []) h2
 |_=>False
def rV(id:Nat)(j:Nat)(l:Y12->Prop)(m:Heap)(r:PSt)(u:Int)(y:Int)(z:Prop):Prop:= ∃(i:IV)(g:Y12),(j=g.length/\l g)/\PutPre m id r i u y g/\z
def Tg(id:Nat)(Z:Heap)(a0:PSt)(a1:Int)(a2:Int)(a3:Int)(a4:Int->Heap->Y14->Prop):Prop:= ∀(y:Int)(i:Heap)(z:IV)(A:Y15),PutPost Z id a0 i z A-> ∃(m:PSt),rV id 2 (λD=>[iI a1,iI y]=List.map (IV.int .i64) D) i m a2 0 (∀(G:Int)(g:Heap)(K:IV)(L:Y15),PutPost i id m
 g K L->aT g id λO=>aN .i64 O 5 λR=> ∃(r:PSt)(T:IV)(j:Y12),((2:Nat)=j.length/\[iI R,iI G]=List.map (IV.int .i64) j)/\PutPre g id r T 27 a3 j/\∀(V:Int)(l:Heap)(X:IV) (Y:List
 Nd),PutPost g id r l X Y->aT l id λu=>aF (Nat.ble 6 u.length) (a4 V l u))
theorem f7F(id:Nat)(a i:Int)(h:Heap)(Q:KT):dF (aU d7T) env 150 cC bD bD [.ptr id 0,.int .i64 a,.int .i64 i] h Q=(
 aT h id λr0=>bM 2 r0 0 λy u j g=>aF (decide (0<=a) &&decide (a< (j:Int))) (aN .i64 g (a.toNat*2+1) λm=> ∃(p:PSt),rV id 0 (λl=>[]=List.map (IV.int .i64) l) h p 1 m (Tg id h p i 19 2 (λv h2 r=>(Q (.tuple []) (pW id h2 5 r [iI v] 6)))))):=by kernel_rfl
theorem f5O: ∀xs h Q,d9M xs h Q->aM env 150 xs h Q:=by
 intro xs h Q hk;unfold d9M at hk;split at hk
 .rename_i id a i;obtain⟨s,⟨l,V,z⟩,hk⟩:=hk;refine aL (d5F) (f7F id a i h Q) ?_;delta rV Tg pW iI; (try dsimp -iota -proj only);obtain⟨A,D,R,X,T,Y,⟨⟨G,K,L,O⟩,_⟩,j,_⟩:=l.pp;obtain⟨m,hm,r⟩: ∃m:Int,s.pa[a.toNat*2+1]?=some (.int .i64 m)/\bE m:=by
   have:a=0\/a=1:=JZ;rcases this with rfl|rfl
   .exact⟨A,by rw [j];rfl,by unfold bE;omega⟩
   .exact⟨D,by rw [j];rfl,by unfold bE;omega⟩
  refine aC l.g (jK rfl (aP z (cW hm ((BI.refl l).put [] JZ (hm:=r) λv h2 u y=>y.put [i,v] JZ λv h2 u y=>aC y.1.bh.g (cW rfl (y.put [_,v] JZ λv h2 u y=>aC y.1.bh.g (aA rfl (hk _ _ (y.st v)))))))))
 .exact hk.elim
def d7P:=aV 150 d9M d7T
theorem d5A:aS env d7P:=aE f5O (d5F)
def b8B(d:Nat)(xs:Y14)(h:Heap)(K:KT):Prop:=match xs with
 | [.ptr id 0,.agg [.int .i64 k,.int .i64 n,.str nm,.int .i64 op,.vslice none 0 m 5 c]]=> ∃(ks:List E)(s:BSt),(m=ks.length/\c=bP ks)/\ExPre h id s d k n nm op ks/\∀(v:Int)(h2:Heap)(g:BSt),BI h id s h2 g (E.cost (.mk k n nm op ks))->K (.int .i64 v) h2
 |_=>False
def a5Y:=IV.int .i64
def Ig(id:Nat)(p:PSt)(Q:KT)(m:Heap):Prop:= ∀(i:Int)(g:Heap)(j:IV)(l:Y15),PutPost m id p g j l->Q (.int .i64 i) g
def a5A(g:List E)(id:Nat)(dd:Nat)(L:Bool)(O:Nat)(R:Nat)(T:Nat)(V:Nat)(X:Nat)(A:Heap)(Y:Int->Heap->BSt->BSt->Prop):Prop:=aF L (aN .i64 (bP g) O λl=>aN .i64 (bP g) R λm=>dU (bP g) T λr=>aN .i64 (bP g) V λu=>bM 5 (bP g) X λZ a0 D G=> ∃(i:List E)(j:BSt),(D=i.length/\G=bP
 i)/\ExPre A id j dd l m r u i/\∀(K:Int)(y:Heap)(z:BSt),BI A id j y z (E.cost (E.mk l m r u i))->Y K y z j)
def Y4(g:List E)(id:Nat)(L:Nat)(r:Int)(u:Nat)(y:Nat)(z:Nat)(A:Nat)(D:Nat)(G:Heap)(K:Int->Heap->BSt->BSt->Prop):Prop:=a5A g id L (true&&decide (r< (g.length:Int))) u y z A D G (λj l m i=>K j l m i)
def a4W(g:Heap)(id:Nat)(y:Int)(v:Int)(op:Int)(Q:KT):Prop:= ∃(i:PSt),rV id 0 (λz=>[]=List.map a5Y z) g i 1 0 (Tg id g i y 16 1 (λj l m=>(∃(r:PSt),rV id 2 (λA=>[iI v,iI y]=List.map a5Y A) (pW id l 5 m [iI j]
 (6:Nat)) r op 0 (∀(D:Int)(u:Heap)(G:IV)(K:Y15),PutPost (pW id l 5 m [iI j] 6) id r u G K->Q (.int .i64 D) u))))
theorem f7G(u:Nat)(id:Nat)(k n:Int)(nm:Y11)(op:Int)(ks:List E)(h:Heap)(Q:KT):dF (aU (aV 79 (b8B u) d7P)) env 79 cC bD bD [.ptr id 0,.agg [.int .i64 k,.int .i64 n,.str nm,.int .i64 op,.vslice none 0 ks.length 5 (bP ks)]] h Q=(
 aK (k==1) (∃(p:PSt),rV id 0 (λl=>[]=List.map a5Y l) h p 1 n (Ig id p Q h)) (aK (k==2) (aT h id λr0=>jR 1 r0 4 False λA Z T=> ∃(s:BSt),BH h id s/\∀(r:Nat),r< (cK (BSt.f s)).length->fO h id 4=fO h id 4/\aF (vC r T) (aT h A λr4=>aN .i64 r4 (Z+(r:Int).toNat*1) λY=>Q (.int .i64 Y) h)) (aK (k==3) (Y4 ks id u 0 0 1 2 3 4 h (λv h2 j s=> ∃(s:BSt),BH h2 id s/\∀(r:Nat),r<2-> ∃(s:BSt),(BH h2 id s/\List.length (BSt.ns s)<99990/\0<=(r:Int)/\(r:Int)<2)/\∀(g:Heap)(j:BSt),BI h2 id s g j 3->aT g id λK=>aN .i64 K 5 λD=> ∃(p:PSt),rV id 2 (λl=>[iI D,iI v]=List.map a5Y l) g p 23 (r:Int) (Ig id p Q g))) (aK (k==5) (Y4 ks id u 0 0 1 2 3 4 h (λv h2 j s=>aT h2 id λL=>aN .i64 L 5 λG=>a5A ks id u (true&&decide (1< (ks.length:Int))) 5 6 7 8 9 h2 (λv g j s=>aT g id λO=>aN .i64 O 5 λV=>aT g id λy=>aF (Nat.ble 6 y.length) (Y4 ks id u 2 10 11 12 13 14 (pW id g 5 y [iI G] 6) (λv h2 j s=> ∃(s:BSt),(BH h2 id s/\List.length (BSt.ns s)<99990)/\∀(v:Int)(i:Heap)(j:BSt),BI h2 id s i j 1->aT i id λR=>aN .i64 R 5 λX=> ∃(s:BSt),(BH i id s/\List.length (BSt.ns s)<99990)/\∀(m:Int)(h2:Heap)(j:BSt),BI i id s h2 j 1->aT h2 id λz=>aF (Nat.ble 6 z.length) (Q (.int .i64 v) (pW id h2 5 z [iI m] 6))))))) (Y4 ks id u 0 0 1 2 3 4 h (λv h2 j s=>aK ((ks.length:Int)==1) (∃(p:PSt),rV id 1 (λl=>[iI v]=List.map a5Y l) h2 p op 0 (Ig id p Q h2)) (Y4 ks id u 1 5 6 7 8 9 h2 (λm g j s=>aK (op==7) (a4W g id m v op Q) (aK (op==8) (a4W g id m v op Q) (∃(p:PSt),rV id 2 (λl=>[iI v,iI m]=List.map a5Y l) g p op 0 (Ig id p Q g))))))))))):=by kernel_rfl
theorem f5E: ∀d xs h Q,b8B d xs h Q->aM env 79 xs h Q:=by
 intro d
 induction d with
 |zero=>
  intro xs h Q hk;unfold b8B at hk;split at hk
  .rename_i id k n nm op m c;obtain⟨ks,s,⟨rfl,rfl⟩,hx,hk⟩:=hk;have hz:=hx.dp;omega
  .exact hk.elim
 |succ dd ih=>
  intro xs h Q hk;unfold b8B at hk;split at hk
  .rename_i id k n nm op m c;obtain⟨ks,s,⟨rfl,rfl⟩,hx,hk⟩:=hk;refine aL (aE ih (d5A)) (f7G dd id k n nm op ks h Q) ?_;delta rV a5Y Ig vC a5A Y4 pW Tg a4W iI; (try dsimp -iota -proj only);obtain⟨u,hw,hd,hc⟩:=hx;have hn:Lz s.f k n nm op ks.length:=hw.1;have j:Es.wf s.f ks:=hw.2;have K:=BI.refl u;unfold Lz at hn;rcases hn with⟨rfl,rfl,rfl,A,hi⟩| ⟨rfl,rfl,rfl,A,a1⟩| ⟨rfl,rfl,rfl,A,a1⟩| ⟨rfl,rfl,rfl,ho⟩| ⟨rfl,rfl,rfl,rfl,A⟩
   .have O:=E.cost4 (k:=1) (n:=n) (nm:=[]) (op:=0) (ks:=ks) KA;exact bt rfl (K.put [] JZ (hm:=hi) λv h2 r y=>hk v h2 r (y.le JZ))
   .refine bf rfl (bt rfl (aC u.g (kT rfl ⟨s,u,λi hi=>⟨rfl,?_⟩⟩)));have a0:i<s.vs.length:=by rw [u.vl];exact hi
    exact aP JZ (aC u.vr.2.2 (ldR a0 (hk _ _ _ (K.le (AR _)))))
   .obtain⟨R,V,T,X,D,rfl,O,d1⟩:=Nn 3 0 nm 0 KA A;refine bf rfl (bf rfl (bt rfl (aA rfl (cW rfl (cW rfl (qR rfl (cW rfl (jK rfl ⟨D,s,⟨rfl,rfl⟩,⟨u,j.1,JZ,JZ⟩,λv h2 r x=>?_⟩))))))));have y:=K.trans x;have nA:=y.1.len;refine⟨r,x.1.bh,λa ha=>⟨r,⟨x.1.bh,JZ,JZ⟩,λh3 Z x=>?_⟩⟩;have y:=y.trans x;exact aC y.1.bh.g (cW rfl (y.put [_,v] JZ (hm:=by unfold bE;omega) λL h4 G y=>hk _ _ _ (y.le JZ)))
   .rcases(by omega:ks.length=2\/ks.length=1)with A|A
    .obtain⟨R,V,T,X,D,k2,n2,m2,o2,Y,rfl,O,d1,d2⟩:=mK 4 0 [] op KA A;have ob:bE op:=by unfold bE;omega
     refine bf rfl (bf rfl (bf rfl (bf rfl (aA rfl (cW rfl (cW rfl (qR rfl (cW rfl (jK rfl ⟨D,s,⟨rfl,rfl⟩,⟨u,j.1,JZ,JZ⟩,λv h2 r x=>?_⟩)))))))));have y:=K.trans x;have nA:=y.1.len;refine bf rfl (aA rfl (cW rfl (cW rfl (qR rfl (cW rfl (jK rfl ⟨Y,r,⟨rfl,rfl⟩,⟨x.1.bh,by rw [x.1.f];exact j.2.1,JZ,JZ⟩,λL h3 Z x=>?_⟩))))));have y:=y.trans x;have e2: ∀{h4 G},BI h id s h4 G (0+E.cost (.mk R V T X D)+E.cost (.mk k2 n2 m2 o2 Y)+3)-> ∃(p:PSt)(lv:IV)(l:Y12),(2=l.length/\[IV.int .i64 v,IV.int .i64 L]=l.map (IV.int .i64))/\PutPre h4 id p lv op 0 l/\∀(v:Int)(h3:Heap)(lv:IV)(ns:Y15),PutPost h4 id p h3 lv ns->Q (.int .i64 v) h3:=λy=>y.put [v,L] JZ (ho:=ob) λv h2 r y=>hk _ _ _ (y.le JZ)
     refine bx ?a (bx ?a (e2 (y.le JZ)));exact y.put [] JZ λz h4 G y=>y.put [L,z] JZ λz h4 G y=>aC y.1.bh.g (cW rfl (y.put [_,z] JZ λz h4 G y=>aC y.1.bh.g (aA rfl (e2 (y.st z)))))
    .obtain⟨R,V,T,X,D,rfl,O,d1⟩:=Nn 4 0 [] op KA A;exact bf rfl (bf rfl (bf rfl (bf rfl (aA rfl (cW rfl (cW rfl (qR rfl (cW rfl (jK rfl ⟨D,s,⟨rfl,rfl⟩,⟨u,j.1,JZ,JZ⟩,λv h2 r x=>bt rfl ((K.trans x).put [v] JZ (ho:=by unfold bE;omega) λv h3 Z y=>hk _ _ _ (y.le JZ))⟩)))))))))
   .obtain⟨R,V,T,X,D,k2,n2,m2,o2,Y,k3,n3,m3,o3,q3,rfl,O,d1,d2,d3⟩:=ks3 5 0 [] 0 KA A;refine bf rfl (bf rfl (bf rfl (bt rfl (aA rfl (cW rfl (cW rfl (qR rfl (cW rfl (jK rfl ⟨D,s,⟨rfl,rfl⟩,⟨u,j.1,JZ,JZ⟩,λv h2 r x=>?_⟩)))))))));have y:=K.trans x;have nA:=y.1.len;refine aC y.1.bh.g (cW rfl (aA rfl (cW rfl (cW rfl (qR rfl (cW rfl (jK rfl ⟨Y,r,⟨rfl,rfl⟩,⟨x.1.bh,by rw [x.1.f];exact j.2.1,JZ,JZ⟩,λL h3 Z x=>?_⟩)))))));have y:=y.trans x;have nB:=y.1.len;have y2:=y.st r.st;refine aC y.1.bh.g (cW rfl (aC y.1.bh.g (aA rfl (aA rfl (cW rfl (cW rfl (qR rfl (cW rfl (jK rfl ⟨q3,_,⟨rfl,rfl⟩,⟨y2.1.bh,by rw [y2.1.f];exact j.2.2.1,JZ,by show Z.ns.length+_<=90000;omega⟩,λv3 h4 G x=>?_⟩)))))))));have y:=y2.trans x;have nC:=y.1.len;refine⟨G,⟨y.1.bh,JZ⟩,λv4 h5 s5 x=>?_⟩;have y:=y.trans x;have nD:=y.1.len;exact aC y.1.bh.g (cW rfl ⟨s5,⟨y.1.bh,JZ⟩,λv5 h6 s6 x=>aC (y.trans x).1.bh.g (aA rfl (hk _ _ _ (((y.trans x).st v5).le JZ)))⟩)
  .exact hk.elim
def d7Q:=aV 79 (λxs h K=> ∃d,b8B d xs h K) d7P
theorem d5B:aS env d7Q:=aE (λxs h Q hk=>hk.elim λd hk=>f5E d xs h Q hk) (d5A)
end Go.Proofs.YtkonebkblgemkaaGreat
end
end
